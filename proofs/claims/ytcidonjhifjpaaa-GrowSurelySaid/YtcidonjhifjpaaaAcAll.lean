/- The code of the functions that the first examples of chapter 8 run. -/
import Derived.Test.YtcidonjhifjpaaaAMb
import Derived.Test.YtcidonjhifjpaaaProg
namespace Go.AM
open Go.Proofs
set_option maxRecDepth 100000

/-! ### etalon/etalonlaw08.awake -/

def ac14_0 : List AOper := [
 oO 0 (.mv (.const (.bool false)))]

def ac14_1 : List AOper := [
 oO 13 (.call 70 []),
 oO 14 (.call 16 [(.tmp 13)]),
 oM 12 14,
 oO 15 (.extract 0 (.tmp 12)),
 oO 16 (.extract 1 (.tmp 12)),
 oM 1 15,
 oM 2 16]

def ac14_2 : List AOper := [
 oO 18 (.call 71 []),
 oO 19 (.call 22 [(.tmp 18)]),
 oM 17 19,
 oO 20 (.extract 0 (.tmp 17)),
 oO 21 (.extract 1 (.tmp 17)),
 oM 3 20,
 oM 4 21]

def ac14_3 : List AOper := [
 oO 23 (.call 72 []),
 oO 24 (.bslice 1 3 [(.v (.bool false))] [(0, (.const (.bool false))), (1, (.const (.bool false))), (2, (.const (.bool false)))]),
 oO 25 (.bslice 1 3 [(.v (.bool false))] [(0, (.const (.bool true))), (1, (.const (.bool true))), (2, (.const (.bool true)))]),
 oO 26 (.build [.nils, .nils] [(0, 1, (.tmp 24)), (1, 1, (.tmp 25))]),
 oO 27 (.call 55 [(.tmp 23), (.tmp 26)]),
 oM 22 27,
 oO 28 (.extract 0 (.tmp 22)),
 oO 29 (.extract 1 (.tmp 22)),
 oO 30 (.extract 2 (.tmp 22)),
 oM 5 28,
 oM 6 29,
 oM 7 30]

def ac14_4 : List AOper := [
 oO 32 (.build [(.d (.v (.int .i64 0))), (.d (.v (.int .i64 0))), (.d (.v (.int .i64 0)))] [(0, 1, (.const (.int .i64 20000))), (1, 1, (.const (.int .i64 5000))), (2, 1, (.const (.int .i64 1)))]),
 oO 33 (.build [(.d (.v (.int .i64 0))), (.d (.v (.int .i64 0)))] [(0, 1, (.const (.int .i64 100))), (1, 1, (.const (.int .i64 125)))]),
 oO 34 (.call 38 [(.tmp 32), (.tmp 33)]),
 oM 31 34,
 oO 35 (.extract 0 (.tmp 31)),
 oO 36 (.extract 1 (.tmp 31)),
 oO 8 (.alloc [(.d (.v (.int .i64 0))), (.d (.v (.int .i64 0)))]),
  ⟨none, (.store 2 (.tmp 8) (.tmp 35)), none⟩,
 oM 9 36]

def ac14_5 : List AOper := [
 oO 38 (.build [(.d (.v (.int .i64 0))), (.d (.v (.int .i64 0)))] [(0, 1, (.const (.int .i64 500))), (1, 1, (.const (.int .i64 600)))]),
 oO 39 (.build [(.d (.v (.int .i64 0))), (.d (.v (.int .i64 0)))] [(0, 1, (.const (.int .i64 10))), (1, 1, (.const (.int .i64 11)))]),
 oO 40 (.call 25 [(.tmp 38), (.tmp 39)]),
 oM 37 40,
 oO 41 (.extract 0 (.tmp 37)),
 oO 42 (.extract 1 (.tmp 37)),
 oO 10 (.alloc [(.d (.v (.int .i64 0))), (.d (.v (.int .i64 0)))]),
  ⟨none, (.store 2 (.tmp 10) (.tmp 41)), none⟩,
 oM 11 42]

def ac14_6 : List AOper := [
 oM 43 2,
 oO 44 (.bin .eql 32 (.tmp 43) (.const (.int .i64 0))),
 oM 45 44,
 ⟨(some 46), (.mv (.tmp 1)), (some (45, true))⟩,
 ⟨(some 47), (.build [(.d (.v (.int .i64 0))), (.d (.v (.int .i64 0)))] [(0, 1, (.const (.int .i64 9000))), (1, 1, (.const (.int .i64 10000)))]), (some (45, true))⟩,
 ⟨(some 48), (.build [(.d (.v (.int .i64 0))), (.d (.v (.int .i64 0)))] [(0, 1, (.const (.int .i64 29000))), (1, 1, (.const (.int .i64 30000)))]), (some (45, true))⟩,
 ⟨(some 49), (.bslice 2 2 [(.v (.int .i64 0)), (.v (.int .i64 0))] [(0, (.tmp 47)), (1, (.tmp 48))]), (some (45, true))⟩,
 ⟨(some 50), (.call 36 [(.tmp 46), (.tmp 49)]), (some (45, true))⟩,
 oO 51 (.pick (.tmp 45) (.tmp 50) (.const (.bool false))),
 oM 52 51,
 ⟨(some 53), (.mv (.tmp 4)), (some (52, true))⟩,
 ⟨(some 54), (.bin .eql 32 (.tmp 53) (.const (.int .i64 0))), (some (52, true))⟩,
 oO 55 (.pick (.tmp 52) (.tmp 54) (.const (.bool false))),
 oM 56 55,
 ⟨(some 57), (.mv (.tmp 3)), (some (56, true))⟩,
 ⟨(some 58), (.len (.tmp 57)), (some (56, true))⟩,
 ⟨(some 59), (.bin .eql 3 (.tmp 58) (.const (.int .i64 2))), (some (56, true))⟩,
 oO 60 (.pick (.tmp 56) (.tmp 59) (.const (.bool false))),
 oM 61 60,
 ⟨(some 62), (.mv (.tmp 3)), (some (61, true))⟩,
 ⟨(some 63), (.iaddr 4 none (.tmp 62) (.const (.int .i64 0))), (some (61, true))⟩,
 ⟨(some 64), (.load true 4 (.tmp 63)), (some (61, true))⟩,
 ⟨(some 65), (.build [(.d (.v (.bool false))), (.d (.v (.int .i64 0))), (.d (.v (.int .i64 0))), (.d (.v (.int .i64 0)))] [(0, 1, (.const (.bool true))), (1, 1, (.const (.int .i64 2))), (2, 1, (.const (.int .i64 4))), (3, 1, (.const (.int .i64 5)))]), (some (61, true))⟩,
 ⟨(some 66), (.bin .eql 50 (.tmp 64) (.tmp 65)), (some (61, true))⟩,
 oO 67 (.pick (.tmp 61) (.tmp 66) (.const (.bool false))),
 oM 68 67,
 ⟨(some 69), (.mv (.tmp 7)), (some (68, true))⟩,
 ⟨(some 70), (.bin .eql 32 (.tmp 69) (.const (.int .i64 0))), (some (68, true))⟩,
 oO 71 (.pick (.tmp 68) (.tmp 70) (.const (.bool false))),
 oM 72 71,
 ⟨(some 73), (.mv (.tmp 5)), (some (72, true))⟩,
 ⟨(some 74), (.bslice 1 3 [(.v (.int .i64 0))] [(0, (.const (.int .i64 2))), (1, (.const (.int .i64 1))), (2, (.const (.int .i64 0)))]), (some (72, true))⟩,
 ⟨(some 75), (.call 63 [(.tmp 73), (.tmp 74)]), (some (72, true))⟩,
 oO 76 (.pick (.tmp 72) (.tmp 75) (.const (.bool false))),
 oM 77 76,
 ⟨(some 78), (.mv (.tmp 9)), (some (77, true))⟩,
 ⟨(some 79), (.bin .eql 32 (.tmp 78) (.const (.int .i64 0))), (some (77, true))⟩,
 oO 80 (.pick (.tmp 77) (.tmp 79) (.const (.bool false))),
 oM 81 80,
 ⟨(some 82), (.load true 2 (.tmp 8)), (some (81, true))⟩,
 ⟨(some 83), (.build [(.d (.v (.int .i64 0))), (.d (.v (.int .i64 0)))] [(0, 1, (.const (.int .i64 5000))), (1, 1, (.const (.int .i64 6250)))]), (some (81, true))⟩,
 ⟨(some 84), (.bin .eql 23 (.tmp 82) (.tmp 83)), (some (81, true))⟩,
 oO 85 (.pick (.tmp 81) (.tmp 84) (.const (.bool false))),
 oM 86 85,
 ⟨(some 87), (.mv (.tmp 11)), (some (86, true))⟩,
 ⟨(some 88), (.bin .eql 32 (.tmp 87) (.const (.int .i64 0))), (some (86, true))⟩,
 oO 89 (.pick (.tmp 86) (.tmp 88) (.const (.bool false))),
 oM 90 89,
 ⟨(some 91), (.load true 2 (.tmp 10)), (some (90, true))⟩,
 ⟨(some 92), (.build [(.d (.v (.int .i64 0))), (.d (.v (.int .i64 0)))] [(0, 1, (.const (.int .i64 5))), (1, 1, (.const (.int .i64 7)))]), (some (90, true))⟩,
 ⟨(some 93), (.bin .eql 23 (.tmp 91) (.tmp 92)), (some (90, true))⟩,
 oO 94 (.pick (.tmp 90) (.tmp 93) (.const (.bool false))),
 oM 0 94]

def tr14 : List (Nat × Tidy) := [(0, ⟨[], false, [], []⟩), (1, ⟨[1, 2], false, [], []⟩), (2, ⟨[1, 2, 3, 4], false, [], []⟩), (3, ⟨[1, 2, 3, 4, 5, 7], false, [], []⟩), (4, ⟨[1, 2, 3, 4, 5, 7, 8, 9], false, [], []⟩), (5, ⟨[1, 2, 3, 4, 5, 7, 8, 9, 10, 11], false, [], []⟩), (6, ⟨[0], false, [], []⟩)]
def tl14 : List (Nat × Tidy) := []
def ac14 : ACode := (.seq (.region ac14_0 [] (some ⟨[], false, [], []⟩)) (.seq (.region ac14_1 [] (some ⟨[1, 2], false, [], []⟩)) (.seq (.region ac14_2 [] (some ⟨[1, 2, 3, 4], false, [], []⟩)) (.seq (.region ac14_3 [] (some ⟨[1, 2, 3, 4, 5, 7], false, [], []⟩)) (.seq (.region ac14_4 [] (some ⟨[1, 2, 3, 4, 5, 7, 8, 9], false, [], []⟩)) (.seq (.region ac14_5 [] (some ⟨[1, 2, 3, 4, 5, 7, 8, 9, 10, 11], false, [], []⟩)) (.seq (.region ac14_6 [] (some ⟨[0], false, [], []⟩)) .ret)))))))
def rs14 : List AResV := [.tmp 0]
def ft14 : FnT := ⟨95, tr14, tl14, ac14, rs14⟩
theorem is14 : FnIs Try.prog 14 95 tr14 tl14 ac14 rs14 := ⟨Try.f14, Try.func14, rfl, by kernel_rfl, by kernel_rfl, by kernel_rfl⟩

/-! ### etalon/grow.Tracked -/

def ac16_0 : List AOper := [
 oO 1 (.box (.tmp 0)),
 oO 2 (.mv (.const (.slice none 0 0))),
 oO 3 (.mv (.const (.int .i64 0)))]

def ac16_1 : List AOper := [
 oO 13 (.load true 4 (.tmp 1)),
 oO 14 (.call 32 [(.tmp 13)]),
 oM 12 14,
 oO 15 (.extract 0 (.tmp 12)),
 oO 16 (.extract 1 (.tmp 12)),
 oM 4 15,
 oM 5 16]

def ac16_2 : List AOper := [
 oM 17 5,
 oO 18 (.bin .neq 32 (.tmp 17) (.const (.int .i64 0)))]

def ac16_3 : List AOper := [
 oM 19 5,
 oO 2 (.mv (.const (.slice none 0 0))),
 oM 3 19]

def ac16_4 : List AOper := [
 oO 20 (.load true 4 (.tmp 1)),
 oO 21 (.call 73 [(.tmp 20)]),
 oM 6 21]

def ac16_5 : List AOper := [
 oO 7 (.mv (.const (.int .i64 1)))]

def ac16_6 : List AOper := [
 oM 22 7,
 oM 23 6,
 oO 24 (.len (.tmp 23)),
 oO 25 (.bin .lss 3 (.tmp 22) (.tmp 24))]

def ac16_7 : List AOper := [
 oM 28 6,
 oM 29 7,
 oM 30 6,
 oM 31 7,
 oO 32 (.iaddr 3 none (.tmp 30) (.tmp 31)),
 oO 33 (.faddr 1 (.tmp 32)),
 oO 34 (.load true 2 (.tmp 33)),
 oM 35 6,
 oM 36 7,
 oO 37 (.bin .sub 3 (.tmp 36) (.const (.int .i64 1))),
 oO 38 (.iaddr 3 none (.tmp 35) (.tmp 37)),
 oO 39 (.load true 3 (.tmp 38)),
 oO 40 (.faddr 0 (.tmp 1)),
 oO 41 (.load true 2 (.tmp 40)),
 oM 42 6,
 oM 43 7,
 oO 44 (.iaddr 3 none (.tmp 42) (.tmp 43)),
 oO 45 (.faddr 0 (.tmp 44)),
 oO 46 (.load false 1 (.tmp 45)),
 oO 47 (.call 75 [(.tmp 39), (.tmp 41), (.tmp 46)]),
 oO 48 (.call 74 [(.tmp 34), (.tmp 47)]),
 oO 49 (.iaddr 3 none (.tmp 28) (.tmp 29)),
 oO 50 (.faddr 1 (.tmp 49)),
  ⟨none, (.store 2 (.tmp 50) (.tmp 48)), none⟩]

def ac16_8 : List AOper := [
 oM 51 6,
 oM 52 7,
 oO 53 (.iaddr 3 none (.tmp 51) (.tmp 52)),
 oO 54 (.faddr 1 (.tmp 53)),
 oO 55 (.load true 2 (.tmp 54)),
 oO 56 (.call 76 [(.tmp 55)])]

def ac16_9 : List AOper := [
 oO 2 (.mv (.const (.slice none 0 0))),
 oO 3 (.mv (.const (.int .i64 17)))]

def ac16_10 : List AOper := [
 oM 26 7,
 oO 27 (.bin .add 3 (.tmp 26) (.const (.int .i64 1))),
 oM 7 27]

def ac16_11 : List AOper := [
 oM 57 6,
 oO 58 (.len (.tmp 57)),
 oO 59 (.bin .sub 3 (.tmp 58) (.const (.int .i64 2))),
 oM 8 59]

def ac16_12 : List AOper := [
 oM 60 8,
 oO 61 (.bin .geq 3 (.tmp 60) (.const (.int .i64 0)))]

def ac16_13 : List AOper := [
 oM 64 6,
 oM 65 8,
 oM 66 6,
 oM 67 8,
 oO 68 (.iaddr 3 none (.tmp 66) (.tmp 67)),
 oO 69 (.faddr 1 (.tmp 68)),
 oO 70 (.load true 2 (.tmp 69)),
 oM 71 6,
 oM 72 8,
 oO 73 (.bin .add 3 (.tmp 72) (.const (.int .i64 1))),
 oO 74 (.iaddr 3 none (.tmp 71) (.tmp 73)),
 oO 75 (.load true 3 (.tmp 74)),
 oO 76 (.faddr 0 (.tmp 1)),
 oO 77 (.load true 2 (.tmp 76)),
 oM 78 6,
 oM 79 8,
 oO 80 (.iaddr 3 none (.tmp 78) (.tmp 79)),
 oO 81 (.faddr 0 (.tmp 80)),
 oO 82 (.load false 1 (.tmp 81)),
 oO 83 (.call 77 [(.tmp 75), (.tmp 77), (.tmp 82)]),
 oO 84 (.call 74 [(.tmp 70), (.tmp 83)]),
 oO 85 (.iaddr 3 none (.tmp 64) (.tmp 65)),
 oO 86 (.faddr 1 (.tmp 85)),
  ⟨none, (.store 2 (.tmp 86) (.tmp 84)), none⟩]

def ac16_14 : List AOper := [
 oM 62 8,
 oO 63 (.bin .sub 3 (.tmp 62) (.const (.int .i64 1))),
 oM 8 63]

def ac16_15 : List AOper := [
 oO 9 (.mv (.const (.slice none 0 0)))]

def ac16_16 : List AOper := [
 oM 87 6,
 oO 88 (.slice 3 false (.tmp 87) (some (.const (.int .i64 1))) none),
 oO 89 (.len (.tmp 88)),
 oO 90 (.mv (.const (.int .i64 0)))]

def ac16_17 : List AOper := [
 oO 91 (.bin .lss 3 (.tmp 90) (.tmp 89))]

def ac16_18 : List AOper := [
 oO 92 (.iaddr 3 none (.tmp 88) (.tmp 90)),
 oO 93 (.load true 3 (.tmp 92)),
 oO 11 (.alloc [(.d (.v (.int .i64 0))), (.d (.v (.int .i64 0))), (.d (.v (.int .i64 0)))]),
  ⟨none, (.store 3 (.tmp 11) (.tmp 93)), none⟩]

def ac16_19 : List AOper := [
 oM 94 9,
 oO 95 (.faddr 1 (.tmp 11)),
 oO 96 (.load true 2 (.tmp 95)),
 oO 97 (.bslice 2 1 [(.v (.int .i64 0)), (.v (.int .i64 0))] [(0, (.tmp 96))]),
 oO 98 (.append 2 16 (.tmp 94) (.tmp 97)),
 oM 9 98]

def ac16_20 : List AOper := [
 oO 99 (.bin .add 3 (.tmp 90) (.const (.int .i64 1))),
 oM 90 99]

def ac16_21 : List AOper := [
 oM 100 9,
 oM 2 100,
 oO 3 (.mv (.const (.int .i64 0)))]

def tr16 : List (Nat × Tidy) := [(0, ⟨[1], false, [], []⟩), (1, ⟨[1, 5], false, [], []⟩), (2, ⟨[1, 5, 18], false, [], []⟩), (3, ⟨[2, 3], false, [], []⟩), (4, ⟨[1, 6], false, [], []⟩), (5, ⟨[1, 6, 7], false, [], []⟩), (6, ⟨[1, 6, 7, 25], false, [], []⟩), (8, ⟨[1, 6, 7], false, [], []⟩), (9, ⟨[1, 6, 7, 56], false, [], []⟩), (10, ⟨[2, 3], false, [], []⟩), (7, ⟨[1, 6, 7], false, [], []⟩), (11, ⟨[1, 6, 8], false, [], []⟩), (12, ⟨[1, 6, 8, 61], false, [], []⟩), (14, ⟨[1, 6, 8], false, [], []⟩), (13, ⟨[1, 6, 8], false, [], []⟩), (15, ⟨[6, 9], false, [], []⟩), (16, ⟨[9, 88, 89, 90], false, [], []⟩), (17, ⟨[9, 88, 89, 90, 91], false, [], []⟩), (18, ⟨[9, 11, 88, 89, 90], false, [], []⟩), (19, ⟨[9, 88, 89, 90], false, [], []⟩), (20, ⟨[9, 88, 89, 90], false, [], []⟩), (21, ⟨[2, 3], false, [], []⟩)]
def tl16 : List (Nat × Tidy) := [(6, ⟨[1, 6, 7], true, [⟨false, 6, 0, 20006, 0⟩, ⟨false, 7, 0, 20007, 0⟩], []⟩), (12, ⟨[1, 6, 8], true, [⟨false, 6, 0, 20006, 0⟩, ⟨false, 8, 0, 20008, 0⟩], []⟩), (17, ⟨[9, 88, 89, 90], true, [⟨false, 9, 0, 20009, 0⟩, ⟨false, 88, 0, 20088, 0⟩, ⟨false, 90, 0, 20090, 0⟩], []⟩)]
def ac16 : ACode := (.seq (.region ac16_0 [] (some ⟨[1], false, [], []⟩)) (.seq (.seq (.region ac16_1 [] (some ⟨[1, 5], false, [], []⟩)) (.seq (.region ac16_2 [] (some ⟨[1, 5, 18], false, [], []⟩)) (.cond (.tmp 18) (.seq (.region ac16_3 [] (some ⟨[2, 3], false, [], []⟩)) .ret) .skip))) (.seq (.region ac16_4 [] (some ⟨[1, 6], false, [], []⟩)) (.seq (.seq (.region ac16_5 [] (some ⟨[1, 6, 7], false, [], []⟩)) (.block 0 (.loop (some ⟨[1, 6, 7], true, [⟨false, 6, 0, 20006, 0⟩, ⟨false, 7, 0, 20007, 0⟩], []⟩) (.seq (.seq (.region ac16_6 [] (some ⟨[1, 6, 7, 25], false, [], []⟩)) (.cond (.tmp 25) .skip (.exit 0))) (.seq (.block 1 (.seq (.region ac16_7 [(4, 19), (6, 19)] (some ⟨[1, 6, 7], false, [], []⟩)) (.seq (.region ac16_8 [] (some ⟨[1, 6, 7, 56], false, [], []⟩)) (.cond (.tmp 56) (.seq (.region ac16_9 [] (some ⟨[2, 3], false, [], []⟩)) .ret) .skip)))) (.region ac16_10 [] (some ⟨[1, 6, 7], false, [], []⟩))))))) (.seq (.seq (.region ac16_11 [] (some ⟨[1, 6, 8], false, [], []⟩)) (.block 2 (.loop (some ⟨[1, 6, 8], true, [⟨false, 6, 0, 20006, 0⟩, ⟨false, 8, 0, 20008, 0⟩], []⟩) (.seq (.seq (.region ac16_12 [] (some ⟨[1, 6, 8, 61], false, [], []⟩)) (.cond (.tmp 61) .skip (.exit 2))) (.seq (.block 3 (.region ac16_13 [(4, 19), (6, 19)] (some ⟨[1, 6, 8], false, [], []⟩))) (.region ac16_14 [] (some ⟨[1, 6, 8], false, [], []⟩))))))) (.seq (.region ac16_15 [] (some ⟨[6, 9], false, [], []⟩)) (.seq (.seq (.region ac16_16 [] (some ⟨[9, 88, 89, 90], false, [], []⟩)) (.block 4 (.loop (some ⟨[9, 88, 89, 90], true, [⟨false, 9, 0, 20009, 0⟩, ⟨false, 88, 0, 20088, 0⟩, ⟨false, 90, 0, 20090, 0⟩], []⟩) (.seq (.region ac16_17 [] (some ⟨[9, 88, 89, 90, 91], false, [], []⟩)) (.seq (.cond (.tmp 91) .skip (.exit 4)) (.seq (.block 5 (.seq (.region ac16_18 [] (some ⟨[9, 11, 88, 89, 90], false, [], []⟩)) (.region ac16_19 [] (some ⟨[9, 88, 89, 90], false, [], []⟩)))) (.region ac16_20 [] (some ⟨[9, 88, 89, 90], false, [], []⟩)))))))) (.seq (.region ac16_21 [] (some ⟨[2, 3], false, [], []⟩)) .ret))))))))
def rs16 : List AResV := [.tmp 2, .tmp 3]
def ft16 : FnT := ⟨101, tr16, tl16, ac16, rs16⟩
theorem is16 : FnIs Try.prog 16 101 tr16 tl16 ac16 rs16 := ⟨Try.f16, Try.func16, rfl, by kernel_rfl, by kernel_rfl, by kernel_rfl⟩

/-! ### etalon/grow.CheckSignal -/

def ac20_0 : List AOper := [
 oO 1 (.box (.tmp 0)),
 oO 2 (.mv (.const (.int .i64 0))),
 oO 3 (.mv (.const (.int .i64 0)))]

def ac20_1 : List AOper := [
 oO 8 (.faddr 0 (.tmp 1)),
 oO 9 (.load false 1 (.tmp 8)),
 oO 10 (.call 78 [(.tmp 9), (.const (.int .i64 0)), (.const (.int .i64 1000000))]),
 oO 11 (.pure (oB (.unOp .not 4 (.tmp 10)) 4)),
 oM 7 11]

def ac20_2 : List AOper := [
 oO 2 (.mv (.const (.int .i64 0))),
 oO 3 (.mv (.const (.int .i64 2)))]

def ac20_3 : List AOper := [
 oO 13 (.faddr 1 (.tmp 1)),
 oO 14 (.load false 1 (.tmp 13)),
 oO 15 (.len (.tmp 14)),
 oO 16 (.bin .gtr 3 (.tmp 15) (.const (.int .i64 200))),
 oM 12 16]

def ac20_4 : List AOper := [
 oO 2 (.mv (.const (.int .i64 0))),
 oO 3 (.mv (.const (.int .i64 8)))]

def ac20_5 : List AOper := [
 oO 17 (.faddr 1 (.tmp 1)),
 oO 18 (.load false 1 (.tmp 17)),
 oO 19 (.len (.tmp 18)),
 oO 20 (.mv (.const (.int .i64 0)))]

def ac20_6 : List AOper := [
 oO 21 (.bin .lss 3 (.tmp 20) (.tmp 19))]

def ac20_7 : List AOper := [
 oM 22 20,
 oO 23 (.iaddr 1 none (.tmp 18) (.tmp 20)),
 oO 24 (.load false 1 (.tmp 23)),
 oM 4 22,
 oM 5 24]

def ac20_8 : List AOper := [
 oM 25 5,
 oO 26 (.pure (oB (.convert 52 141 (.tmp 25)) 141)),
 oM 6 26]

def ac20_9 : List AOper := [
 oM 28 6,
 oO 29 (.call 79 [(.tmp 28)]),
 oM 30 6,
 oO 31 (.bin .neq 141 (.tmp 29) (.tmp 30)),
 oM 32 31,
 ⟨(some 33), (.mv (.tmp 6)), (some (32, false))⟩,
 ⟨(some 34), (.call 80 [(.tmp 33), (.const (.int .i64 0))]), (some (32, false))⟩,
 oO 35 (.pick (.tmp 32) (.const (.bool true)) (.tmp 34)),
 oM 27 35]

def ac20_10 : List AOper := [
 oM 36 4,
 oM 2 36,
 oO 3 (.mv (.const (.int .i64 27)))]

def ac20_11 : List AOper := [
 oM 38 6,
 oO 39 (.bin .lss 141 (.tmp 38) (.const (.float Go.FloatKind.f64 0))),
 oM 40 39,
 ⟨(some 41), (.mv (.tmp 6)), (some (40, false))⟩,
 ⟨(some 42), (.bin .gtr 141 (.tmp 41) (.const (.float Go.FloatKind.f64 4696837146684686336))), (some (40, false))⟩,
 oO 43 (.pick (.tmp 40) (.const (.bool true)) (.tmp 42)),
 oM 37 43]

def ac20_12 : List AOper := [
 oM 44 4,
 oM 2 44,
 oO 3 (.mv (.const (.int .i64 2)))]

def ac20_13 : List AOper := [
 oO 45 (.bin .add 3 (.tmp 20) (.const (.int .i64 1))),
 oM 20 45]

def ac20_14 : List AOper := [
 oO 2 (.mv (.const (.int .i64 0))),
 oO 3 (.mv (.const (.int .i64 0)))]

def tr20 : List (Nat × Tidy) := [(0, ⟨[1], false, [], []⟩), (1, ⟨[1, 7], false, [], []⟩), (2, ⟨[2, 3], false, [], []⟩), (3, ⟨[1, 12], false, [], []⟩), (4, ⟨[2, 3], false, [], []⟩), (5, ⟨[18, 19, 20], false, [], []⟩), (6, ⟨[18, 19, 20, 21], false, [], []⟩), (7, ⟨[4, 5, 18, 19, 20], false, [], []⟩), (8, ⟨[4, 6, 18, 19, 20], false, [], []⟩), (9, ⟨[4, 6, 18, 19, 20, 27], false, [], []⟩), (10, ⟨[2, 3], false, [], []⟩), (11, ⟨[4, 18, 19, 20, 37], false, [], []⟩), (12, ⟨[2, 3], false, [], []⟩), (13, ⟨[18, 19, 20], false, [], []⟩), (14, ⟨[2, 3], false, [], []⟩)]
def tl20 : List (Nat × Tidy) := [(6, ⟨[18, 19, 20], true, [⟨false, 18, 0, 20018, 0⟩, ⟨false, 20, 0, 20020, 0⟩], []⟩)]
def ac20 : ACode := (.seq (.region ac20_0 [] (some ⟨[1], false, [], []⟩)) (.seq (.block 0 (.seq (.region ac20_1 [] (some ⟨[1, 7], false, [], []⟩)) (.cond (.tmp 7) (.seq (.region ac20_2 [] (some ⟨[2, 3], false, [], []⟩)) .ret) (.seq (.region ac20_3 [] (some ⟨[1, 12], false, [], []⟩)) (.cond (.tmp 12) (.seq (.region ac20_4 [] (some ⟨[2, 3], false, [], []⟩)) .ret) .skip))))) (.seq (.seq (.region ac20_5 [] (some ⟨[18, 19, 20], false, [], []⟩)) (.block 1 (.loop (some ⟨[18, 19, 20], true, [⟨false, 18, 0, 20018, 0⟩, ⟨false, 20, 0, 20020, 0⟩], []⟩) (.seq (.region ac20_6 [] (some ⟨[18, 19, 20, 21], false, [], []⟩)) (.seq (.cond (.tmp 21) .skip (.exit 1)) (.seq (.block 2 (.seq (.region ac20_7 [] (some ⟨[4, 5, 18, 19, 20], false, [], []⟩)) (.seq (.region ac20_8 [] (some ⟨[4, 6, 18, 19, 20], false, [], []⟩)) (.block 3 (.seq (.region ac20_9 [] (some ⟨[4, 6, 18, 19, 20, 27], false, [], []⟩)) (.cond (.tmp 27) (.seq (.region ac20_10 [] (some ⟨[2, 3], false, [], []⟩)) .ret) (.seq (.region ac20_11 [] (some ⟨[4, 18, 19, 20, 37], false, [], []⟩)) (.cond (.tmp 37) (.seq (.region ac20_12 [] (some ⟨[2, 3], false, [], []⟩)) .ret) .skip)))))))) (.region ac20_13 [] (some ⟨[18, 19, 20], false, [], []⟩)))))))) (.seq (.region ac20_14 [] (some ⟨[2, 3], false, [], []⟩)) .ret))))
def rs20 : List AResV := [.tmp 2, .tmp 3]
def ft20 : FnT := ⟨46, tr20, tl20, ac20, rs20⟩
theorem is20 : FnIs Try.prog 20 46 tr20 tl20 ac20 rs20 := ⟨Try.f20, Try.func20, rfl, by kernel_rfl, by kernel_rfl, by kernel_rfl⟩

/-! ### etalon/grow.Turns -/

def ac22_0 : List AOper := [
 oO 1 (.box (.tmp 0)),
 oO 2 (.mv (.const (.slice none 0 0))),
 oO 3 (.mv (.const (.int .i64 0)))]

def ac22_1 : List AOper := [
 oO 15 (.load true 2 (.tmp 1)),
 oO 16 (.call 20 [(.tmp 15)]),
 oM 14 16,
 oO 17 (.extract 0 (.tmp 14)),
 oO 18 (.extract 1 (.tmp 14)),
 oM 4 17,
 oM 5 18]

def ac22_2 : List AOper := [
 oM 19 5,
 oO 20 (.bin .neq 32 (.tmp 19) (.const (.int .i64 0)))]

def ac22_3 : List AOper := [
 oM 21 5,
 oO 2 (.mv (.const (.slice none 0 0))),
 oM 3 21]

def ac22_4 : List AOper := [
 oO 6 (.mv (.const (.slice none 0 0)))]

def ac22_5 : List AOper := [
 oO 22 (.faddr 0 (.tmp 1)),
 oO 23 (.load false 1 (.tmp 22)),
 oO 24 (.bin .mul 3 (.const (.int .i64 2)) (.tmp 23)),
 oO 7 (.alloc [(.d (.v (.int .i64 0)))]),
  ⟨none, (.store 1 (.tmp 7) (.tmp 24)), none⟩]

def ac22_6 : List AOper := [
 oO 25 (.build [(.d (.v (.int .i64 0))), .nils, (.d (.v (.int .i64 0)))] [(2, 1, (.const (.int .i64 0)))]),
 oO 8 (.alloc [(.d (.v (.int .i64 0))), .nils, (.d (.v (.int .i64 0)))]),
  ⟨none, (.store 3 (.tmp 8) (.tmp 25)), none⟩]

def ac22_7 : List AOper := [
 oO 26 (.faddr 1 (.tmp 1)),
 oO 27 (.load false 1 (.tmp 26)),
 oO 28 (.len (.tmp 27)),
 oO 29 (.mv (.const (.int .i64 0)))]

def ac22_8 : List AOper := [
 oO 30 (.bin .lss 3 (.tmp 29) (.tmp 28))]

def ac22_9 : List AOper := [
 oM 31 29,
 oO 32 (.iaddr 1 none (.tmp 27) (.tmp 29)),
 oO 33 (.load false 1 (.tmp 32)),
 oM 9 31,
 oM 10 33]

def ac22_10 : List AOper := [
 oM 34 10,
 oO 35 (.pure (oB (.convert 52 3 (.tmp 34)) 3)),
 oM 11 35]

def ac22_11 : List AOper := [
 oO 36 (.faddr 1 (.tmp 8)),
 oO 37 (.load false 1 (.tmp 36)),
 oO 38 (.len (.tmp 37)),
 oO 39 (.bin .eql 3 (.tmp 38) (.const (.int .i64 0)))]

def ac22_12 : List AOper := [
 oO 40 (.faddr 1 (.tmp 8)),
 oO 41 (.load false 1 (.tmp 40)),
 oM 42 11,
 oO 43 (.bslice 1 1 [(.v (.int .i64 0))] [(0, (.tmp 42))]),
 oO 44 (.append 1 8 (.tmp 41) (.tmp 43)),
 oO 45 (.faddr 1 (.tmp 8)),
  ⟨none, (.store 1 (.tmp 45) (.tmp 44)), none⟩]

def ac22_13 : List AOper := [
 oM 46 11,
 oO 47 (.faddr 1 (.tmp 8)),
 oO 48 (.load false 1 (.tmp 47)),
 oO 49 (.call 81 [(.tmp 48)]),
 oO 50 (.pure (oB (.call { callee := .builtin .max, args := #[(.tmp 46), (.tmp 49)], argTypes := #[3, 3] }) 3)),
 oM 51 11,
 oO 52 (.faddr 1 (.tmp 8)),
 oO 53 (.load false 1 (.tmp 52)),
 oO 54 (.call 82 [(.tmp 53)]),
 oO 55 (.pure (oB (.call { callee := .builtin .min, args := #[(.tmp 51), (.tmp 54)], argTypes := #[3, 3] }) 3)),
 oO 12 (.alloc [(.d (.v (.int .i64 0)))]),
 oO 13 (.alloc [(.d (.v (.int .i64 0)))]),
  ⟨none, (.store 1 (.tmp 12) (.tmp 50)), none⟩,
  ⟨none, (.store 1 (.tmp 13) (.tmp 55)), none⟩]

def ac22_14 : List AOper := [
 oO 63 (.faddr 2 (.tmp 8)),
 oO 64 (.load false 1 (.tmp 63)),
 oO 65 (.bin .neq 3 (.tmp 64) (.const (.int .i64 (-1)))),
 oM 66 65,
 ⟨(some 67), (.load false 1 (.tmp 12)), (some (66, true))⟩,
 ⟨(some 68), (.mv (.tmp 11)), (some (66, true))⟩,
 ⟨(some 69), (.bin .sub 3 (.tmp 67) (.tmp 68)), (some (66, true))⟩,
 ⟨(some 70), (.load false 1 (.tmp 7)), (some (66, true))⟩,
 ⟨(some 71), (.bin .gtr 3 (.tmp 69) (.tmp 70)), (some (66, true))⟩,
 oO 72 (.pick (.tmp 66) (.tmp 71) (.const (.bool false))),
 oM 62 72]

def ac22_15 : List AOper := [
 oO 73 (.faddr 2 (.tmp 8)),
 oO 74 (.load false 1 (.tmp 73)),
 oO 75 (.bin .eql 3 (.tmp 74) (.const (.int .i64 1)))]

def ac22_16 : List AOper := [
 oM 76 6,
 oO 77 (.load true 3 (.tmp 8)),
 oM 78 9,
 oO 79 (.mkfn 84 [(.tmp 12), (.tmp 7)]),
 oO 80 (.call 83 [(.tmp 77), (.tmp 78), (.tmp 79)]),
 oO 81 (.bslice 4 1 [(.v (.bool false)), (.v (.int .i64 0)), (.v (.int .i64 0)), (.v (.int .i64 0))] [(0, (.tmp 80))]),
 oO 82 (.append 4 32 (.tmp 76) (.tmp 81)),
 oM 6 82]

def ac22_17 : List AOper := [
 oM 83 9,
 oM 84 11,
 oO 85 (.bslice 1 1 [(.v (.int .i64 0))] [(0, (.tmp 84))]),
 oO 86 (.build [(.d (.v (.int .i64 0))), .nils, (.d (.v (.int .i64 0)))] [(0, 1, (.tmp 83)), (1, 1, (.tmp 85)), (2, 1, (.const (.int .i64 (-1))))]),
  ⟨none, (.store 3 (.tmp 8) (.tmp 86)), none⟩]

def ac22_18 : List AOper := [
 oO 88 (.faddr 2 (.tmp 8)),
 oO 89 (.load false 1 (.tmp 88)),
 oO 90 (.bin .neq 3 (.tmp 89) (.const (.int .i64 1))),
 oM 91 90,
 ⟨(some 92), (.mv (.tmp 11)), (some (91, true))⟩,
 ⟨(some 93), (.load false 1 (.tmp 13)), (some (91, true))⟩,
 ⟨(some 94), (.bin .sub 3 (.tmp 92) (.tmp 93)), (some (91, true))⟩,
 ⟨(some 95), (.load false 1 (.tmp 7)), (some (91, true))⟩,
 ⟨(some 96), (.bin .gtr 3 (.tmp 94) (.tmp 95)), (some (91, true))⟩,
 oO 97 (.pick (.tmp 91) (.tmp 96) (.const (.bool false))),
 oM 87 97]

def ac22_19 : List AOper := [
 oO 98 (.faddr 2 (.tmp 8)),
 oO 99 (.load false 1 (.tmp 98)),
 oO 100 (.bin .eql 3 (.tmp 99) (.const (.int .i64 (-1))))]

def ac22_20 : List AOper := [
 oM 101 6,
 oO 102 (.load true 3 (.tmp 8)),
 oM 103 9,
 oO 104 (.mkfn 85 [(.tmp 13), (.tmp 7)]),
 oO 105 (.call 83 [(.tmp 102), (.tmp 103), (.tmp 104)]),
 oO 106 (.bslice 4 1 [(.v (.bool false)), (.v (.int .i64 0)), (.v (.int .i64 0)), (.v (.int .i64 0))] [(0, (.tmp 105))]),
 oO 107 (.append 4 32 (.tmp 101) (.tmp 106)),
 oM 6 107]

def ac22_21 : List AOper := [
 oM 108 9,
 oM 109 11,
 oO 110 (.bslice 1 1 [(.v (.int .i64 0))] [(0, (.tmp 109))]),
 oO 111 (.build [(.d (.v (.int .i64 0))), .nils, (.d (.v (.int .i64 0)))] [(0, 1, (.tmp 108)), (1, 1, (.tmp 110)), (2, 1, (.const (.int .i64 1)))]),
  ⟨none, (.store 3 (.tmp 8) (.tmp 111)), none⟩]

def ac22_22 : List AOper := [
 oO 56 (.faddr 1 (.tmp 8)),
 oO 57 (.load false 1 (.tmp 56)),
 oM 58 11,
 oO 59 (.bslice 1 1 [(.v (.int .i64 0))] [(0, (.tmp 58))]),
 oO 60 (.append 1 8 (.tmp 57) (.tmp 59)),
 oO 61 (.faddr 1 (.tmp 8)),
  ⟨none, (.store 1 (.tmp 61) (.tmp 60)), none⟩]

def ac22_23 : List AOper := [
 oO 112 (.bin .add 3 (.tmp 29) (.const (.int .i64 1))),
 oM 29 112]

def ac22_24 : List AOper := [
 oM 113 6,
 oM 2 113,
 oO 3 (.mv (.const (.int .i64 0)))]

def tr22 : List (Nat × Tidy) := [(0, ⟨[1], false, [], []⟩), (1, ⟨[1, 5], false, [], []⟩), (2, ⟨[1, 5, 20], false, [], []⟩), (3, ⟨[2, 3], false, [], []⟩), (4, ⟨[1, 6], false, [], []⟩), (5, ⟨[1, 6, 7], false, [], []⟩), (6, ⟨[1, 6, 7, 8], false, [], []⟩), (7, ⟨[6, 7, 8, 27, 28, 29], false, [], []⟩), (8, ⟨[6, 7, 8, 27, 28, 29, 30], false, [], []⟩), (9, ⟨[6, 7, 8, 9, 10, 27, 28, 29], false, [], []⟩), (10, ⟨[6, 7, 8, 9, 11, 27, 28, 29], false, [], []⟩), (11, ⟨[6, 7, 8, 9, 11, 27, 28, 29, 39], false, [], []⟩), (12, ⟨[6, 7, 8, 27, 28, 29], false, [], []⟩), (13, ⟨[6, 7, 8, 9, 11, 12, 13, 27, 28, 29], false, [], []⟩), (15, ⟨[6, 7, 8, 9, 11, 12, 13, 27, 28, 29, 62], false, [], []⟩), (16, ⟨[6, 7, 8, 9, 11, 12, 27, 28, 29, 75], false, [], []⟩), (17, ⟨[6, 7, 8, 9, 11, 27, 28, 29], false, [], []⟩), (18, ⟨[6, 7, 8, 27, 28, 29], false, [], []⟩), (19, ⟨[6, 7, 8, 9, 11, 13, 27, 28, 29, 87], false, [], []⟩), (20, ⟨[6, 7, 8, 9, 11, 13, 27, 28, 29, 100], false, [], []⟩), (21, ⟨[6, 7, 8, 9, 11, 27, 28, 29], false, [], []⟩), (22, ⟨[6, 7, 8, 27, 28, 29], false, [], []⟩), (14, ⟨[6, 7, 8, 27, 28, 29], false, [], []⟩), (23, ⟨[6, 7, 8, 27, 28, 29], false, [], []⟩), (24, ⟨[2, 3], false, [], []⟩)]
def tl22 : List (Nat × Tidy) := [(8, ⟨[6, 7, 8, 27, 28, 29], true, [⟨false, 6, 0, 20006, 0⟩, ⟨false, 27, 0, 20027, 0⟩, ⟨false, 29, 0, 20029, 0⟩, ⟨true, 8, 1, 30801, 0⟩], []⟩)]
def ac22 : ACode := (.seq (.region ac22_0 [] (some ⟨[1], false, [], []⟩)) (.seq (.seq (.region ac22_1 [] (some ⟨[1, 5], false, [], []⟩)) (.seq (.region ac22_2 [] (some ⟨[1, 5, 20], false, [], []⟩)) (.cond (.tmp 20) (.seq (.region ac22_3 [] (some ⟨[2, 3], false, [], []⟩)) .ret) .skip))) (.seq (.region ac22_4 [] (some ⟨[1, 6], false, [], []⟩)) (.seq (.region ac22_5 [] (some ⟨[1, 6, 7], false, [], []⟩)) (.seq (.region ac22_6 [] (some ⟨[1, 6, 7, 8], false, [], []⟩)) (.seq (.seq (.region ac22_7 [] (some ⟨[6, 7, 8, 27, 28, 29], false, [], []⟩)) (.block 0 (.loop (some ⟨[6, 7, 8, 27, 28, 29], true, [⟨false, 6, 0, 20006, 0⟩, ⟨false, 27, 0, 20027, 0⟩, ⟨false, 29, 0, 20029, 0⟩, ⟨true, 8, 1, 30801, 0⟩], []⟩) (.seq (.region ac22_8 [] (some ⟨[6, 7, 8, 27, 28, 29, 30], false, [], []⟩)) (.seq (.cond (.tmp 30) .skip (.exit 0)) (.seq (.block 1 (.seq (.region ac22_9 [] (some ⟨[6, 7, 8, 9, 10, 27, 28, 29], false, [], []⟩)) (.seq (.region ac22_10 [] (some ⟨[6, 7, 8, 9, 11, 27, 28, 29], false, [], []⟩)) (.seq (.seq (.region ac22_11 [] (some ⟨[6, 7, 8, 9, 11, 27, 28, 29, 39], false, [], []⟩)) (.cond (.tmp 39) (.seq (.region ac22_12 [] (some ⟨[6, 7, 8, 27, 28, 29], false, [], []⟩)) (.exit 1)) .skip)) (.seq (.region ac22_13 [(3, 7), (2, 10), (3, 10), (7, 10), (8, 10), (2, 11), (3, 11), (7, 11), (8, 11), (10, 11)] (some ⟨[6, 7, 8, 9, 11, 12, 13, 27, 28, 29], false, [], []⟩)) (.block 2 (.seq (.region ac22_14 [] (some ⟨[6, 7, 8, 9, 11, 12, 13, 27, 28, 29, 62], false, [], []⟩)) (.cond (.tmp 62) (.seq (.seq (.region ac22_15 [] (some ⟨[6, 7, 8, 9, 11, 12, 27, 28, 29, 75], false, [], []⟩)) (.cond (.tmp 75) (.region ac22_16 [] (some ⟨[6, 7, 8, 9, 11, 27, 28, 29], false, [], []⟩)) .skip)) (.region ac22_17 [] (some ⟨[6, 7, 8, 27, 28, 29], false, [], []⟩))) (.seq (.region ac22_18 [] (some ⟨[6, 7, 8, 9, 11, 13, 27, 28, 29, 87], false, [], []⟩)) (.cond (.tmp 87) (.seq (.seq (.region ac22_19 [] (some ⟨[6, 7, 8, 9, 11, 13, 27, 28, 29, 100], false, [], []⟩)) (.cond (.tmp 100) (.region ac22_20 [] (some ⟨[6, 7, 8, 9, 11, 27, 28, 29], false, [], []⟩)) .skip)) (.region ac22_21 [] (some ⟨[6, 7, 8, 27, 28, 29], false, [], []⟩))) (.region ac22_22 [] (some ⟨[6, 7, 8, 27, 28, 29], false, [], []⟩)))))))))))) (.region ac22_23 [] (some ⟨[6, 7, 8, 27, 28, 29], false, [], []⟩)))))))) (.seq (.region ac22_24 [] (some ⟨[2, 3], false, [], []⟩)) .ret)))))))
def rs22 : List AResV := [.tmp 2, .tmp 3]
def ft22 : FnT := ⟨114, tr22, tl22, ac22, rs22⟩
theorem is22 : FnIs Try.prog 22 114 tr22 tl22 ac22 rs22 := ⟨Try.f22, Try.func22, rfl, by kernel_rfl, by kernel_rfl, by kernel_rfl⟩

/-! ### etalon/grow.Grown -/

def ac25_0 : List AOper := [
 oO 2 (.box (.tmp 0)),
 oO 3 (.box (.tmp 1)),
 oO 4 (.alloc [(.d (.v (.int .i64 0))), (.d (.v (.int .i64 0)))]),
 oO 5 (.mv (.const (.int .i64 0)))]

def ac25_1 : List AOper := [
 oO 7 (.load true 2 (.tmp 2)),
 oO 8 (.call 89 [(.tmp 7)]),
 oO 9 (.load true 2 (.tmp 3)),
 oO 10 (.call 90 [(.tmp 9)]),
 oO 11 (.bslice 1 2 [(.v (.int .i64 0))] [(0, (.tmp 8)), (1, (.tmp 10))]),
 oO 12 (.call 88 [(.tmp 11)]),
 oM 6 12]

def ac25_2 : List AOper := [
 oM 13 6,
 oO 14 (.bin .neq 32 (.tmp 13) (.const (.int .i64 0)))]

def ac25_3 : List AOper := [
 oO 15 (.build [(.d (.v (.int .i64 0))), (.d (.v (.int .i64 0)))] []),
 oM 16 6,
  ⟨none, (.store 2 (.tmp 4) (.tmp 15)), none⟩,
 oM 5 16]

def ac25_4 : List AOper := [
 oO 17 (.faddr 0 (.tmp 2)),
 oO 18 (.load false 1 (.tmp 17)),
 oO 19 (.faddr 0 (.tmp 3)),
 oO 20 (.load false 1 (.tmp 19)),
 oO 21 (.bin .mul 3 (.tmp 18) (.tmp 20)),
 oO 22 (.call 91 [(.tmp 21), (.const (.int .i64 1000))]),
 oO 23 (.faddr 1 (.tmp 2)),
 oO 24 (.load false 1 (.tmp 23)),
 oO 25 (.faddr 1 (.tmp 3)),
 oO 26 (.load false 1 (.tmp 25)),
 oO 27 (.bin .mul 3 (.tmp 24) (.tmp 26)),
 oO 28 (.call 92 [(.tmp 27), (.const (.int .i64 1000))]),
 oO 29 (.build [(.d (.v (.int .i64 0))), (.d (.v (.int .i64 0)))] [(0, 1, (.tmp 22)), (1, 1, (.tmp 28))]),
  ⟨none, (.store 2 (.tmp 4) (.tmp 29)), none⟩,
 oO 5 (.mv (.const (.int .i64 0)))]

def tr25 : List (Nat × Tidy) := [(0, ⟨[2, 3, 4], false, [], []⟩), (1, ⟨[2, 3, 4, 6], false, [], []⟩), (2, ⟨[2, 3, 4, 6, 14], false, [], []⟩), (3, ⟨[4, 5], false, [], []⟩), (4, ⟨[4, 5], false, [], []⟩)]
def tl25 : List (Nat × Tidy) := []
def ac25 : ACode := (.seq (.region ac25_0 [] (some ⟨[2, 3, 4], false, [], []⟩)) (.seq (.seq (.region ac25_1 [(1, 2)] (some ⟨[2, 3, 4, 6], false, [], []⟩)) (.seq (.region ac25_2 [] (some ⟨[2, 3, 4, 6, 14], false, [], []⟩)) (.cond (.tmp 14) (.seq (.region ac25_3 [] (some ⟨[4, 5], false, [], []⟩)) .ret) .skip))) (.seq (.region ac25_4 [(5, 7), (5, 9)] (some ⟨[4, 5], false, [], []⟩)) .ret)))
def rs25 : List AResV := [.cell 4 true 2, .tmp 5]
def ft25 : FnT := ⟨30, tr25, tl25, ac25, rs25⟩
theorem is25 : FnIs Try.prog 25 30 tr25 tl25 ac25 rs25 := ⟨Try.f25, Try.func25, rfl, by kernel_rfl, by kernel_rfl, by kernel_rfl⟩

/-! ### etalon/grow.CheckTrack -/

def ac32_0 : List AOper := [
 oO 1 (.box (.tmp 0)),
 oO 2 (.mv (.const (.int .i64 0))),
 oO 3 (.mv (.const (.int .i64 0)))]

def ac32_1 : List AOper := [
 oO 7 (.faddr 0 (.tmp 1)),
 oO 8 (.load true 2 (.tmp 7)),
 oO 9 (.call 89 [(.tmp 8)]),
 oM 4 9]

def ac32_2 : List AOper := [
 oM 10 4,
 oO 11 (.bin .neq 32 (.tmp 10) (.const (.int .i64 0)))]

def ac32_3 : List AOper := [
 oM 12 4,
 oO 2 (.mv (.const (.int .i64 0))),
 oM 3 12]

def ac32_4 : List AOper := [
 oO 14 (.faddr 2 (.tmp 1)),
 oO 15 (.load false 1 (.tmp 14)),
 oO 16 (.call 78 [(.tmp 15), (.const (.int .i64 0)), (.const (.int .i64 1000000))]),
 oO 17 (.pure (oB (.unOp .not 4 (.tmp 16)) 4)),
 oM 13 17]

def ac32_5 : List AOper := [
 oO 2 (.mv (.const (.int .i64 0))),
 oO 3 (.mv (.const (.int .i64 2)))]

def ac32_6 : List AOper := [
 oO 19 (.faddr 3 (.tmp 1)),
 oO 20 (.load false 1 (.tmp 19)),
 oO 21 (.len (.tmp 20)),
 oO 22 (.bin .gtr 3 (.tmp 21) (.const (.int .i64 40))),
 oM 18 22]

def ac32_7 : List AOper := [
 oO 2 (.mv (.const (.int .i64 0))),
 oO 3 (.mv (.const (.int .i64 8)))]

def ac32_8 : List AOper := [
 oO 23 (.faddr 3 (.tmp 1)),
 oO 24 (.load false 1 (.tmp 23)),
 oO 25 (.len (.tmp 24)),
 oO 26 (.mv (.const (.int .i64 0)))]

def ac32_9 : List AOper := [
 oO 27 (.bin .lss 3 (.tmp 26) (.tmp 25))]

def ac32_10 : List AOper := [
 oM 28 26,
 oO 29 (.iaddr 2 none (.tmp 24) (.tmp 26)),
 oO 30 (.load true 2 (.tmp 29)),
 oO 6 (.alloc [(.d (.v (.int .i64 0))), (.d (.v (.int .i64 0)))]),
 oM 5 28,
  ⟨none, (.store 2 (.tmp 6) (.tmp 30)), none⟩]

def ac32_11 : List AOper := [
 oO 32 (.faddr 0 (.tmp 6)),
 oO 33 (.load false 1 (.tmp 32)),
 oO 34 (.call 78 [(.tmp 33), (.const (.int .i64 1)), (.const (.int .i64 100000))]),
 oO 35 (.pure (oB (.unOp .not 4 (.tmp 34)) 4)),
 oM 36 35,
 ⟨(some 37), (.faddr 1 (.tmp 6)), (some (36, false))⟩,
 ⟨(some 38), (.load false 1 (.tmp 37)), (some (36, false))⟩,
 ⟨(some 39), (.call 78 [(.tmp 38), (.const (.int .i64 0)), (.const (.int .i64 1000000))]), (some (36, false))⟩,
 ⟨(some 40), (.pure (oB (.unOp .not 4 (.tmp 39)) 4)), (some (36, false))⟩,
 oO 41 (.pick (.tmp 36) (.const (.bool true)) (.tmp 40)),
 oM 31 41]

def ac32_12 : List AOper := [
 oM 42 5,
 oM 2 42,
 oO 3 (.mv (.const (.int .i64 2)))]

def ac32_13 : List AOper := [
 oM 44 5,
 oO 45 (.bin .gtr 3 (.tmp 44) (.const (.int .i64 0))),
 oM 46 45,
 ⟨(some 47), (.faddr 0 (.tmp 6)), (some (46, true))⟩,
 ⟨(some 48), (.load false 1 (.tmp 47)), (some (46, true))⟩,
 ⟨(some 49), (.faddr 3 (.tmp 1)), (some (46, true))⟩,
 ⟨(some 50), (.load false 1 (.tmp 49)), (some (46, true))⟩,
 ⟨(some 51), (.mv (.tmp 5)), (some (46, true))⟩,
 ⟨(some 52), (.bin .sub 3 (.tmp 51) (.const (.int .i64 1))), (some (46, true))⟩,
 ⟨(some 53), (.iaddr 2 none (.tmp 50) (.tmp 52)), (some (46, true))⟩,
 ⟨(some 54), (.faddr 0 (.tmp 53)), (some (46, true))⟩,
 ⟨(some 55), (.load false 1 (.tmp 54)), (some (46, true))⟩,
 ⟨(some 56), (.bin .leq 3 (.tmp 48) (.tmp 55)), (some (46, true))⟩,
 oO 57 (.pick (.tmp 46) (.tmp 56) (.const (.bool false))),
 oM 43 57]

def ac32_14 : List AOper := [
 oM 58 5,
 oM 2 58,
 oO 3 (.mv (.const (.int .i64 10)))]

def ac32_15 : List AOper := [
 oO 59 (.bin .add 3 (.tmp 26) (.const (.int .i64 1))),
 oM 26 59]

def ac32_16 : List AOper := [
 oO 2 (.mv (.const (.int .i64 0))),
 oO 3 (.mv (.const (.int .i64 0)))]

def tr32 : List (Nat × Tidy) := [(0, ⟨[1], false, [], []⟩), (1, ⟨[1, 4], false, [], []⟩), (2, ⟨[1, 4, 11], false, [], []⟩), (3, ⟨[2, 3], false, [], []⟩), (4, ⟨[1, 13], false, [], []⟩), (5, ⟨[2, 3], false, [], []⟩), (6, ⟨[1, 18], false, [], []⟩), (7, ⟨[2, 3], false, [], []⟩), (8, ⟨[1, 24, 25, 26], false, [], []⟩), (9, ⟨[1, 24, 25, 26, 27], false, [], []⟩), (10, ⟨[1, 5, 6, 24, 25, 26], false, [], []⟩), (11, ⟨[1, 5, 6, 24, 25, 26, 31], false, [], []⟩), (12, ⟨[2, 3], false, [], []⟩), (13, ⟨[1, 5, 24, 25, 26, 43], false, [], []⟩), (14, ⟨[2, 3], false, [], []⟩), (15, ⟨[1, 24, 25, 26], false, [], []⟩), (16, ⟨[2, 3], false, [], []⟩)]
def tl32 : List (Nat × Tidy) := [(9, ⟨[1, 24, 25, 26], true, [⟨false, 24, 0, 20024, 0⟩, ⟨false, 26, 0, 20026, 0⟩], []⟩)]
def ac32 : ACode := (.seq (.region ac32_0 [] (some ⟨[1], false, [], []⟩)) (.seq (.seq (.region ac32_1 [] (some ⟨[1, 4], false, [], []⟩)) (.seq (.region ac32_2 [] (some ⟨[1, 4, 11], false, [], []⟩)) (.cond (.tmp 11) (.seq (.region ac32_3 [] (some ⟨[2, 3], false, [], []⟩)) .ret) .skip))) (.seq (.block 0 (.seq (.region ac32_4 [] (some ⟨[1, 13], false, [], []⟩)) (.cond (.tmp 13) (.seq (.region ac32_5 [] (some ⟨[2, 3], false, [], []⟩)) .ret) (.seq (.region ac32_6 [] (some ⟨[1, 18], false, [], []⟩)) (.cond (.tmp 18) (.seq (.region ac32_7 [] (some ⟨[2, 3], false, [], []⟩)) .ret) .skip))))) (.seq (.seq (.region ac32_8 [] (some ⟨[1, 24, 25, 26], false, [], []⟩)) (.block 1 (.loop (some ⟨[1, 24, 25, 26], true, [⟨false, 24, 0, 20024, 0⟩, ⟨false, 26, 0, 20026, 0⟩], []⟩) (.seq (.region ac32_9 [] (some ⟨[1, 24, 25, 26, 27], false, [], []⟩)) (.seq (.cond (.tmp 27) .skip (.exit 1)) (.seq (.block 2 (.seq (.region ac32_10 [] (some ⟨[1, 5, 6, 24, 25, 26], false, [], []⟩)) (.block 3 (.seq (.region ac32_11 [] (some ⟨[1, 5, 6, 24, 25, 26, 31], false, [], []⟩)) (.cond (.tmp 31) (.seq (.region ac32_12 [] (some ⟨[2, 3], false, [], []⟩)) .ret) (.seq (.region ac32_13 [] (some ⟨[1, 5, 24, 25, 26, 43], false, [], []⟩)) (.cond (.tmp 43) (.seq (.region ac32_14 [] (some ⟨[2, 3], false, [], []⟩)) .ret) .skip))))))) (.region ac32_15 [] (some ⟨[1, 24, 25, 26], false, [], []⟩)))))))) (.seq (.region ac32_16 [] (some ⟨[2, 3], false, [], []⟩)) .ret)))))
def rs32 : List AResV := [.tmp 2, .tmp 3]
def ft32 : FnT := ⟨60, tr32, tl32, ac32, rs32⟩
theorem is32 : FnIs Try.prog 32 60 tr32 tl32 ac32 rs32 := ⟨Try.f32, Try.func32, rfl, by kernel_rfl, by kernel_rfl, by kernel_rfl⟩

/-! ### etalon/etalonbase.Ranges -/

def ac36_0 : List AOper := [
 oO 4 (.mv (.const (.bool false)))]

def ac36_1 : List AOper := [
 oM 6 0,
 oO 7 (.len (.tmp 6)),
 oM 8 1,
 oO 9 (.len (.tmp 8)),
 oO 10 (.bin .neq 3 (.tmp 7) (.tmp 9))]

def ac36_2 : List AOper := [
 oO 4 (.mv (.const (.bool false)))]

def ac36_3 : List AOper := [
 oO 5 (.mv (.const (.int .i64 0)))]

def ac36_4 : List AOper := [
 oM 11 5,
 oM 12 0,
 oO 13 (.len (.tmp 12)),
 oO 14 (.bin .lss 3 (.tmp 11) (.tmp 13))]

def ac36_5 : List AOper := [
 oM 17 0,
 oM 18 5,
 oO 19 (.iaddr 2 none (.tmp 17) (.tmp 18)),
 oO 20 (.load true 2 (.tmp 19)),
 oM 21 1,
 oM 22 5,
 oO 23 (.iaddr 2 none (.tmp 21) (.tmp 22)),
 oO 24 (.load true 2 (.tmp 23)),
 oO 25 (.bin .neq 23 (.tmp 20) (.tmp 24))]

def ac36_6 : List AOper := [
 oO 4 (.mv (.const (.bool false)))]

def ac36_7 : List AOper := [
 oM 15 5,
 oO 16 (.bin .add 3 (.tmp 15) (.const (.int .i64 1))),
 oM 5 16]

def ac36_8 : List AOper := [
 oO 4 (.mv (.const (.bool true)))]

def tr36 : List (Nat × Tidy) := [(0, ⟨[0, 1], false, [], []⟩), (1, ⟨[0, 1, 10], false, [], []⟩), (2, ⟨[4], false, [], []⟩), (3, ⟨[0, 1, 5], false, [], []⟩), (4, ⟨[0, 1, 5, 14], false, [], []⟩), (6, ⟨[0, 1, 5, 25], false, [], []⟩), (7, ⟨[4], false, [], []⟩), (5, ⟨[0, 1, 5], false, [], []⟩), (8, ⟨[4], false, [], []⟩)]
def tl36 : List (Nat × Tidy) := [(4, ⟨[0, 1, 5], true, [⟨false, 5, 0, 20005, 0⟩], []⟩)]
def ac36 : ACode := (.seq (.region ac36_0 [] (some ⟨[0, 1], false, [], []⟩)) (.seq (.seq (.region ac36_1 [] (some ⟨[0, 1, 10], false, [], []⟩)) (.cond (.tmp 10) (.seq (.region ac36_2 [] (some ⟨[4], false, [], []⟩)) .ret) .skip)) (.seq (.seq (.region ac36_3 [] (some ⟨[0, 1, 5], false, [], []⟩)) (.block 0 (.loop (some ⟨[0, 1, 5], true, [⟨false, 5, 0, 20005, 0⟩], []⟩) (.seq (.seq (.region ac36_4 [] (some ⟨[0, 1, 5, 14], false, [], []⟩)) (.cond (.tmp 14) .skip (.exit 0))) (.seq (.block 1 (.seq (.region ac36_5 [] (some ⟨[0, 1, 5, 25], false, [], []⟩)) (.cond (.tmp 25) (.seq (.region ac36_6 [] (some ⟨[4], false, [], []⟩)) .ret) .skip))) (.region ac36_7 [] (some ⟨[0, 1, 5], false, [], []⟩))))))) (.seq (.region ac36_8 [] (some ⟨[4], false, [], []⟩)) .ret))))
def rs36 : List AResV := [.tmp 4]
def ft36 : FnT := ⟨26, tr36, tl36, ac36, rs36⟩
theorem is36 : FnIs Try.prog 36 26 tr36 tl36 ac36 rs36 := ⟨Try.f36, Try.func36, rfl, by kernel_rfl, by kernel_rfl, by kernel_rfl⟩

/-! ### etalon/grow.RateOf -/

def ac38_0 : List AOper := [
 oO 2 (.box (.tmp 0)),
 oO 3 (.box (.tmp 1)),
 oO 4 (.alloc [(.d (.v (.int .i64 0))), (.d (.v (.int .i64 0)))]),
 oO 5 (.mv (.const (.int .i64 0)))]

def ac38_1 : List AOper := [
 oO 9 (.load true 3 (.tmp 2)),
 oO 10 (.call 98 [(.tmp 9)]),
 oO 11 (.load true 2 (.tmp 3)),
 oO 12 (.call 90 [(.tmp 11)]),
 oO 13 (.bslice 1 2 [(.v (.int .i64 0))] [(0, (.tmp 10)), (1, (.tmp 12))]),
 oO 14 (.call 88 [(.tmp 13)]),
 oM 6 14]

def ac38_2 : List AOper := [
 oM 15 6,
 oO 16 (.bin .neq 32 (.tmp 15) (.const (.int .i64 0)))]

def ac38_3 : List AOper := [
 oO 17 (.build [(.d (.v (.int .i64 0))), (.d (.v (.int .i64 0)))] []),
 oM 18 6,
  ⟨none, (.store 2 (.tmp 4) (.tmp 17)), none⟩,
 oM 5 18]

def ac38_4 : List AOper := [
 oO 19 (.faddr 0 (.tmp 3)),
 oO 20 (.load false 1 (.tmp 19)),
 oO 21 (.bin .eql 3 (.tmp 20) (.const (.int .i64 0)))]

def ac38_5 : List AOper := [
 oO 22 (.build [(.d (.v (.int .i64 0))), (.d (.v (.int .i64 0)))] []),
  ⟨none, (.store 2 (.tmp 4) (.tmp 22)), none⟩,
 oO 5 (.mv (.const (.int .i64 9)))]

def ac38_6 : List AOper := [
 oO 24 (.load true 3 (.tmp 2)),
 oO 25 (.call 99 [(.tmp 24)]),
 oM 23 25,
 oO 26 (.extract 0 (.tmp 23)),
 oO 27 (.extract 1 (.tmp 23)),
 oM 7 26,
 oM 8 27]

def ac38_7 : List AOper := [
 oM 28 7,
 oO 29 (.bin .mul 3 (.tmp 28) (.const (.int .i64 1000))),
 oM 30 8,
 oO 31 (.faddr 1 (.tmp 3)),
 oO 32 (.load false 1 (.tmp 31)),
 oO 33 (.bin .mul 3 (.tmp 30) (.tmp 32)),
 oO 34 (.call 91 [(.tmp 29), (.tmp 33)]),
 oM 35 7,
 oO 36 (.bin .mul 3 (.tmp 35) (.const (.int .i64 1000))),
 oM 37 8,
 oO 38 (.faddr 0 (.tmp 3)),
 oO 39 (.load false 1 (.tmp 38)),
 oO 40 (.bin .mul 3 (.tmp 37) (.tmp 39)),
 oO 41 (.call 92 [(.tmp 36), (.tmp 40)]),
 oO 42 (.build [(.d (.v (.int .i64 0))), (.d (.v (.int .i64 0)))] [(0, 1, (.tmp 34)), (1, 1, (.tmp 41))]),
  ⟨none, (.store 2 (.tmp 4) (.tmp 42)), none⟩,
 oO 5 (.mv (.const (.int .i64 0)))]

def tr38 : List (Nat × Tidy) := [(0, ⟨[2, 3, 4], false, [], []⟩), (1, ⟨[2, 3, 4, 6], false, [], []⟩), (2, ⟨[2, 3, 4, 6, 16], false, [], []⟩), (3, ⟨[4, 5], false, [], []⟩), (4, ⟨[2, 3, 4, 21], false, [], []⟩), (5, ⟨[4, 5], false, [], []⟩), (6, ⟨[3, 4, 7, 8], false, [], []⟩), (7, ⟨[4, 5], false, [], []⟩)]
def tl38 : List (Nat × Tidy) := []
def ac38 : ACode := (.seq (.region ac38_0 [] (some ⟨[2, 3, 4], false, [], []⟩)) (.seq (.seq (.region ac38_1 [(1, 2)] (some ⟨[2, 3, 4, 6], false, [], []⟩)) (.seq (.region ac38_2 [] (some ⟨[2, 3, 4, 6, 16], false, [], []⟩)) (.cond (.tmp 16) (.seq (.region ac38_3 [] (some ⟨[4, 5], false, [], []⟩)) .ret) .skip))) (.seq (.seq (.region ac38_4 [] (some ⟨[2, 3, 4, 21], false, [], []⟩)) (.cond (.tmp 21) (.seq (.region ac38_5 [] (some ⟨[4, 5], false, [], []⟩)) .ret) .skip)) (.seq (.region ac38_6 [] (some ⟨[3, 4, 7, 8], false, [], []⟩)) (.seq (.region ac38_7 [(6, 11)] (some ⟨[4, 5], false, [], []⟩)) .ret)))))
def rs38 : List AResV := [.cell 4 true 2, .tmp 5]
def ft38 : FnT := ⟨43, tr38, tl38, ac38, rs38⟩
theorem is38 : FnIs Try.prog 38 43 tr38 tl38 ac38 rs38 := ⟨Try.f38, Try.func38, rfl, by kernel_rfl, by kernel_rfl, by kernel_rfl⟩

/-! ### etalon/grow.CheckChamber -/

def ac45_0 : List AOper := [
 oO 1 (.box (.tmp 0)),
 oO 2 (.mv (.const (.int .i64 0))),
 oO 3 (.mv (.const (.int .i64 0)))]

def ac45_1 : List AOper := [
 oO 8 (.faddr 0 (.tmp 1)),
 oO 9 (.load false 1 (.tmp 8)),
 oO 10 (.len (.tmp 9)),
 oO 11 (.bin .gtr 3 (.tmp 10) (.const (.int .i64 8)))]

def ac45_2 : List AOper := [
 oO 2 (.mv (.const (.int .i64 0))),
 oO 3 (.mv (.const (.int .i64 8)))]

def ac45_3 : List AOper := [
 oO 12 (.faddr 0 (.tmp 1)),
 oO 13 (.load false 1 (.tmp 12)),
 oO 14 (.len (.tmp 13)),
 oO 15 (.mv (.const (.int .i64 0)))]

def ac45_4 : List AOper := [
 oO 16 (.bin .lss 3 (.tmp 15) (.tmp 14))]

def ac45_5 : List AOper := [
 oM 17 15,
 oO 18 (.iaddr 1 none (.tmp 13) (.tmp 15)),
 oO 19 (.load false 1 (.tmp 18)),
 oM 4 17,
 oM 5 19]

def ac45_6 : List AOper := [
 oM 21 5,
 oO 22 (.call 100 [(.tmp 21)]),
 oO 23 (.pure (oB (.unOp .not 4 (.tmp 22)) 4)),
 oM 20 23]

def ac45_7 : List AOper := [
 oM 24 4,
 oM 2 24,
 oO 3 (.mv (.const (.int .i64 3)))]

def ac45_8 : List AOper := [
 oO 26 (.faddr 0 (.tmp 1)),
 oO 27 (.load false 1 (.tmp 26)),
 oM 28 4,
 oO 29 (.slice 1 false (.tmp 27) none (some (.tmp 28))),
 oM 30 5,
 oO 31 (.call 101 [(.tmp 29), (.tmp 30)]),
 oM 25 31]

def ac45_9 : List AOper := [
 oM 32 4,
 oM 2 32,
 oO 3 (.mv (.const (.int .i64 5)))]

def ac45_10 : List AOper := [
 oO 33 (.bin .add 3 (.tmp 15) (.const (.int .i64 1))),
 oM 15 33]

def ac45_11 : List AOper := [
 oO 34 (.faddr 1 (.tmp 1)),
 oO 35 (.load false 1 (.tmp 34)),
 oO 36 (.len (.tmp 35)),
 oO 37 (.bin .gtr 3 (.tmp 36) (.const (.int .i64 30)))]

def ac45_12 : List AOper := [
 oO 2 (.mv (.const (.int .i64 0))),
 oO 3 (.mv (.const (.int .i64 8)))]

def ac45_13 : List AOper := [
 oO 38 (.faddr 1 (.tmp 1)),
 oO 39 (.load false 1 (.tmp 38)),
 oO 40 (.len (.tmp 39)),
 oO 41 (.mv (.const (.int .i64 0)))]

def ac45_14 : List AOper := [
 oO 42 (.bin .lss 3 (.tmp 41) (.tmp 40))]

def ac45_15 : List AOper := [
 oM 43 41,
 oO 44 (.iaddr 4 none (.tmp 39) (.tmp 41)),
 oO 45 (.load true 4 (.tmp 44)),
 oO 7 (.alloc [(.d (.v (.int .i64 0))), (.d (.v (.bool false))), (.d (.v (.int .i64 0))), (.d (.v (.bool false)))]),
 oM 6 43,
  ⟨none, (.store 4 (.tmp 7) (.tmp 45)), none⟩]

def ac45_16 : List AOper := [
 oO 46 (.faddr 0 (.tmp 7)),
 oO 47 (.load false 1 (.tmp 46)),
 oO 48 (.faddr 0 (.tmp 1)),
 oO 49 (.load false 1 (.tmp 48)),
 oO 50 (.len (.tmp 49)),
 oO 51 (.bin .sub 3 (.tmp 50) (.const (.int .i64 1))),
 oO 52 (.call 78 [(.tmp 47), (.const (.int .i64 0)), (.tmp 51)]),
 oO 53 (.pure (oB (.unOp .not 4 (.tmp 52)) 4)),
 oM 54 53,
 ⟨(some 55), (.faddr 2 (.tmp 7)), (some (54, false))⟩,
 ⟨(some 56), (.load false 1 (.tmp 55)), (some (54, false))⟩,
 ⟨(some 57), (.faddr 0 (.tmp 1)), (some (54, false))⟩,
 ⟨(some 58), (.load false 1 (.tmp 57)), (some (54, false))⟩,
 ⟨(some 59), (.len (.tmp 58)), (some (54, false))⟩,
 ⟨(some 60), (.bin .sub 3 (.tmp 59) (.const (.int .i64 1))), (some (54, false))⟩,
 ⟨(some 61), (.call 78 [(.tmp 56), (.const (.int .i64 0)), (.tmp 60)]), (some (54, false))⟩,
 ⟨(some 62), (.pure (oB (.unOp .not 4 (.tmp 61)) 4)), (some (54, false))⟩,
 oO 63 (.pick (.tmp 54) (.const (.bool true)) (.tmp 62))]

def ac45_17 : List AOper := [
 oM 64 6,
 oM 2 64,
 oO 3 (.mv (.const (.int .i64 6)))]

def ac45_18 : List AOper := [
 oO 65 (.bin .add 3 (.tmp 41) (.const (.int .i64 1))),
 oM 41 65]

def ac45_19 : List AOper := [
 oO 2 (.mv (.const (.int .i64 0))),
 oO 3 (.mv (.const (.int .i64 0)))]

def tr45 : List (Nat × Tidy) := [(0, ⟨[1], false, [], []⟩), (1, ⟨[1, 11], false, [], []⟩), (2, ⟨[2, 3], false, [], []⟩), (3, ⟨[1, 13, 14, 15], false, [], []⟩), (4, ⟨[1, 13, 14, 15, 16], false, [], []⟩), (5, ⟨[1, 4, 5, 13, 14, 15], false, [], []⟩), (6, ⟨[1, 4, 5, 13, 14, 15, 20], false, [], []⟩), (7, ⟨[2, 3], false, [], []⟩), (8, ⟨[1, 4, 13, 14, 15, 25], false, [], []⟩), (9, ⟨[2, 3], false, [], []⟩), (10, ⟨[1, 13, 14, 15], false, [], []⟩), (11, ⟨[1, 37], false, [], []⟩), (12, ⟨[2, 3], false, [], []⟩), (13, ⟨[1, 39, 40, 41], false, [], []⟩), (14, ⟨[1, 39, 40, 41, 42], false, [], []⟩), (15, ⟨[1, 6, 7, 39, 40, 41], false, [], []⟩), (16, ⟨[1, 6, 39, 40, 41, 63], false, [], []⟩), (17, ⟨[2, 3], false, [], []⟩), (18, ⟨[1, 39, 40, 41], false, [], []⟩), (19, ⟨[2, 3], false, [], []⟩)]
def tl45 : List (Nat × Tidy) := [(4, ⟨[1, 13, 14, 15], true, [⟨false, 13, 0, 20013, 0⟩, ⟨false, 15, 0, 20015, 0⟩], []⟩), (14, ⟨[1, 39, 40, 41], true, [⟨false, 39, 0, 20039, 0⟩, ⟨false, 41, 0, 20041, 0⟩], []⟩)]
def ac45 : ACode := (.seq (.region ac45_0 [] (some ⟨[1], false, [], []⟩)) (.seq (.seq (.region ac45_1 [] (some ⟨[1, 11], false, [], []⟩)) (.cond (.tmp 11) (.seq (.region ac45_2 [] (some ⟨[2, 3], false, [], []⟩)) .ret) .skip)) (.seq (.seq (.region ac45_3 [] (some ⟨[1, 13, 14, 15], false, [], []⟩)) (.block 0 (.loop (some ⟨[1, 13, 14, 15], true, [⟨false, 13, 0, 20013, 0⟩, ⟨false, 15, 0, 20015, 0⟩], []⟩) (.seq (.region ac45_4 [] (some ⟨[1, 13, 14, 15, 16], false, [], []⟩)) (.seq (.cond (.tmp 16) .skip (.exit 0)) (.seq (.block 1 (.seq (.region ac45_5 [] (some ⟨[1, 4, 5, 13, 14, 15], false, [], []⟩)) (.block 2 (.seq (.region ac45_6 [] (some ⟨[1, 4, 5, 13, 14, 15, 20], false, [], []⟩)) (.cond (.tmp 20) (.seq (.region ac45_7 [] (some ⟨[2, 3], false, [], []⟩)) .ret) (.seq (.region ac45_8 [] (some ⟨[1, 4, 13, 14, 15, 25], false, [], []⟩)) (.cond (.tmp 25) (.seq (.region ac45_9 [] (some ⟨[2, 3], false, [], []⟩)) .ret) .skip))))))) (.region ac45_10 [] (some ⟨[1, 13, 14, 15], false, [], []⟩)))))))) (.seq (.seq (.region ac45_11 [] (some ⟨[1, 37], false, [], []⟩)) (.cond (.tmp 37) (.seq (.region ac45_12 [] (some ⟨[2, 3], false, [], []⟩)) .ret) .skip)) (.seq (.seq (.region ac45_13 [] (some ⟨[1, 39, 40, 41], false, [], []⟩)) (.block 3 (.loop (some ⟨[1, 39, 40, 41], true, [⟨false, 39, 0, 20039, 0⟩, ⟨false, 41, 0, 20041, 0⟩], []⟩) (.seq (.region ac45_14 [] (some ⟨[1, 39, 40, 41, 42], false, [], []⟩)) (.seq (.cond (.tmp 42) .skip (.exit 3)) (.seq (.block 4 (.seq (.region ac45_15 [] (some ⟨[1, 6, 7, 39, 40, 41], false, [], []⟩)) (.seq (.region ac45_16 [] (some ⟨[1, 6, 39, 40, 41, 63], false, [], []⟩)) (.cond (.tmp 63) (.seq (.region ac45_17 [] (some ⟨[2, 3], false, [], []⟩)) .ret) .skip)))) (.region ac45_18 [] (some ⟨[1, 39, 40, 41], false, [], []⟩)))))))) (.seq (.region ac45_19 [] (some ⟨[2, 3], false, [], []⟩)) .ret))))))
def rs45 : List AResV := [.tmp 2, .tmp 3]
def ft45 : FnT := ⟨66, tr45, tl45, ac45, rs45⟩
theorem is45 : FnIs Try.prog 45 66 tr45 tl45 ac45 rs45 := ⟨Try.f45, Try.func45, rfl, by kernel_rfl, by kernel_rfl, by kernel_rfl⟩

/-! ### etalon/grow.Sequence -/

def ac55_0 : List AOper := [
 oO 2 (.box (.tmp 0)),
 oO 3 (.box (.tmp 1)),
 oO 4 (.mv (.const (.slice none 0 0))),
 oO 5 (.mv (.const (.slice none 0 0))),
 oO 6 (.mv (.const (.int .i64 0)))]

def ac55_1 : List AOper := [
 oO 16 (.load true 2 (.tmp 2)),
 oO 17 (.load true 2 (.tmp 3)),
 oO 18 (.call 109 [(.tmp 16), (.tmp 17)]),
 oM 15 18,
 oO 19 (.extract 0 (.tmp 15)),
 oO 20 (.extract 1 (.tmp 15)),
 oO 7 (.alloc [.nils, .nils, (.d (.v (.int .i64 0))), (.d (.v (.int .i64 0)))]),
  ⟨none, (.store 4 (.tmp 7) (.tmp 19)), none⟩,
 oM 8 20]

def ac55_2 : List AOper := [
 oM 21 8,
 oO 22 (.bin .neq 32 (.tmp 21) (.const (.int .i64 0)))]

def ac55_3 : List AOper := [
 oM 23 8,
 oO 4 (.mv (.const (.slice none 0 0))),
 oO 5 (.mv (.const (.slice none 0 0))),
 oM 6 23]

def ac55_4 : List AOper := [
 oO 24 (.faddr 0 (.tmp 7)),
 oO 25 (.load true 2 (.tmp 24)),
 oO 26 (.faddr 2 (.tmp 7)),
 oO 27 (.load false 1 (.tmp 26)),
 oO 28 (.call 110 [(.tmp 25), (.tmp 27)]),
 oM 9 28]

def ac55_5 : List AOper := [
 oM 29 9,
 oO 30 (.faddr 3 (.tmp 7)),
 oO 31 (.load false 1 (.tmp 30)),
 oO 32 (.iaddr 1 none (.tmp 29) (.tmp 31)),
 oO 33 (.load false 1 (.tmp 32)),
 oO 34 (.bin .eql 3 (.tmp 33) (.const (.int .i64 1000)))]

def ac55_6 : List AOper := [
 oM 35 9,
 oO 4 (.mv (.const (.slice none 0 0))),
 oM 5 35,
 oO 6 (.mv (.const (.int .i64 17)))]

def ac55_7 : List AOper := [
 oO 10 (.alloc [.nils])]

def ac55_8 : List AOper := [
 oO 36 (.faddr 0 (.tmp 7)),
 oO 37 (.load true 2 (.tmp 36)),
 oO 38 (.faddr 3 (.tmp 7)),
 oO 39 (.load false 1 (.tmp 38)),
 oO 40 (.call 110 [(.tmp 37), (.tmp 39)]),
 oO 11 (.alloc [.nils]),
  ⟨none, (.store 1 (.tmp 11) (.tmp 40)), none⟩]

def ac55_9 : List AOper := [
 oO 41 (.faddr 2 (.tmp 7)),
 oO 42 (.load false 1 (.tmp 41)),
 oO 12 (.alloc [(.d (.v (.int .i64 0)))]),
  ⟨none, (.store 1 (.tmp 12) (.tmp 42)), none⟩]

def ac55_10 : List AOper := [
 oO 43 (.load false 1 (.tmp 12)),
 oO 44 (.faddr 3 (.tmp 7)),
 oO 45 (.load false 1 (.tmp 44)),
 oO 46 (.bin .neq 171 (.tmp 43) (.tmp 45))]

def ac55_11 : List AOper := [
 oO 47 (.faddr 0 (.tmp 7)),
 oO 48 (.load true 2 (.tmp 47)),
 oO 49 (.load false 1 (.tmp 12)),
 oO 50 (.call 111 [(.tmp 48), (.tmp 49)])]

def ac55_12 : List AOper := [
 oM 13 51]

def ac55_13 : List AOper := [
 oM 14 52]

def ac55_14 : List AOper := [
 oO 53 (.load false 1 (.tmp 11)),
 oM 54 14,
 oO 55 (.iaddr 1 none (.tmp 53) (.tmp 54)),
 oO 56 (.load false 1 (.tmp 55)),
 oO 57 (.load false 1 (.tmp 11)),
 oO 58 (.load false 1 (.tmp 12)),
 oO 59 (.iaddr 1 none (.tmp 57) (.tmp 58)),
 oO 60 (.load false 1 (.tmp 59)),
 oO 61 (.bin .lss 3 (.tmp 56) (.tmp 60))]

def ac55_15 : List AOper := [
 oO 62 (.load false 1 (.tmp 10)),
 oM 63 13,
 oO 64 (.bslice 1 1 [(.v (.int .i64 0))] [(0, (.tmp 63))]),
 oO 65 (.append 1 8 (.tmp 62) (.tmp 64)),
 oM 66 14,
  ⟨none, (.store 1 (.tmp 10) (.tmp 65)), none⟩,
  ⟨none, (.store 1 (.tmp 12) (.tmp 66)), none⟩]

def ac55_16 : List AOper := [
 oO 67 (.load false 1 (.tmp 12))]

def ac55_17 : List AOper := [
 oO 12 (.alloc [(.d (.v (.int .i64 0)))]),
  ⟨none, (.store 1 (.tmp 12) (.tmp 67)), none⟩]

def ac55_18 : List AOper := [
 oO 68 (.load false 1 (.tmp 10)),
 oM 69 9,
 oM 4 68,
 oM 5 69,
 oO 6 (.mv (.const (.int .i64 0)))]

def tr55 : List (Nat × Tidy) := [(0, ⟨[2, 3, 4, 5, 6], false, [], []⟩), (1, ⟨[4, 5, 6, 7, 8], false, [], []⟩), (2, ⟨[4, 5, 6, 7, 8, 22], false, [], []⟩), (3, ⟨[4, 5, 6], false, [], []⟩), (4, ⟨[4, 5, 6, 7, 9], false, [], []⟩), (5, ⟨[4, 5, 6, 7, 9, 34], false, [], []⟩), (6, ⟨[4, 5, 6], false, [], []⟩), (7, ⟨[4, 5, 6, 7, 9, 10], false, [], []⟩), (8, ⟨[4, 5, 6, 7, 9, 10, 11], true, [], []⟩), (9, ⟨[4, 5, 6, 7, 9, 10, 11, 12], false, [], []⟩), (10, ⟨[4, 5, 6, 7, 9, 10, 11, 12, 46], false, [], []⟩), (11, ⟨[4, 5, 6, 7, 9, 10, 11, 12, 50], false, [], []⟩), (12, ⟨[4, 5, 6, 7, 9, 10, 11, 12, 13, 52], false, [], []⟩), (13, ⟨[4, 5, 6, 7, 9, 10, 11, 12, 13, 14], false, [], []⟩), (14, ⟨[4, 5, 6, 7, 9, 10, 11, 12, 13, 14, 61], false, [], []⟩), (15, ⟨[4, 5, 6, 7, 9, 10, 11, 12], false, [], []⟩), (16, ⟨[4, 5, 6, 7, 9, 10, 11, 67], true, [], []⟩), (17, ⟨[4, 5, 6, 7, 9, 10, 11, 12], false, [], []⟩), (18, ⟨[4, 5, 6], false, [], []⟩)]
def tl55 : List (Nat × Tidy) := [(10, ⟨[4, 5, 6, 7, 9, 10, 11, 12], true, [⟨false, 4, 0, 20004, 0⟩, ⟨false, 5, 0, 20005, 0⟩, ⟨false, 6, 0, 20006, 0⟩, ⟨false, 9, 0, 20009, 0⟩, ⟨true, 7, 0, 30700, 0⟩, ⟨true, 7, 1, 30701, 0⟩, ⟨true, 10, 0, 31000, 0⟩, ⟨true, 11, 0, 31100, 0⟩], []⟩), (14, ⟨[4, 5, 6, 7, 9, 10, 11, 12], true, [⟨false, 4, 0, 20004, 0⟩, ⟨false, 5, 0, 20005, 0⟩, ⟨false, 6, 0, 20006, 0⟩, ⟨false, 9, 0, 20009, 0⟩, ⟨true, 7, 0, 30700, 0⟩, ⟨true, 7, 1, 30701, 0⟩, ⟨true, 10, 0, 31000, 0⟩, ⟨true, 11, 0, 31100, 0⟩], []⟩)]
def ac55 : ACode := (.seq (.region ac55_0 [] (some ⟨[2, 3, 4, 5, 6], false, [], []⟩)) (.seq (.region ac55_1 [] (some ⟨[4, 5, 6, 7, 8], false, [], []⟩)) (.seq (.seq (.region ac55_2 [] (some ⟨[4, 5, 6, 7, 8, 22], false, [], []⟩)) (.cond (.tmp 22) (.seq (.region ac55_3 [] (some ⟨[4, 5, 6], false, [], []⟩)) .ret) .skip)) (.seq (.region ac55_4 [] (some ⟨[4, 5, 6, 7, 9], false, [], []⟩)) (.seq (.seq (.region ac55_5 [] (some ⟨[4, 5, 6, 7, 9, 34], false, [], []⟩)) (.cond (.tmp 34) (.seq (.region ac55_6 [] (some ⟨[4, 5, 6], false, [], []⟩)) .ret) .skip)) (.seq (.region ac55_7 [] (some ⟨[4, 5, 6, 7, 9, 10], false, [], []⟩)) (.seq (.region ac55_8 [] (some ⟨[4, 5, 6, 7, 9, 10, 11], true, [], []⟩)) (.seq (.seq (.region ac55_9 [] (some ⟨[4, 5, 6, 7, 9, 10, 11, 12], false, [], []⟩)) (.block 0 (.loop (some ⟨[4, 5, 6, 7, 9, 10, 11, 12], true, [⟨false, 4, 0, 20004, 0⟩, ⟨false, 5, 0, 20005, 0⟩, ⟨false, 6, 0, 20006, 0⟩, ⟨false, 9, 0, 20009, 0⟩, ⟨true, 7, 0, 30700, 0⟩, ⟨true, 7, 1, 30701, 0⟩, ⟨true, 10, 0, 31000, 0⟩, ⟨true, 11, 0, 31100, 0⟩], []⟩) (.seq (.seq (.region ac55_10 [] (some ⟨[4, 5, 6, 7, 9, 10, 11, 12, 46], false, [], []⟩)) (.cond (.tmp 46) .skip (.exit 0))) (.seq (.block 1 (.seq (.region ac55_11 [] (some ⟨[4, 5, 6, 7, 9, 10, 11, 12, 50], false, [], []⟩)) (.block 2 (.rangeF (.tmp 50) [51, 52] (some ⟨[4, 5, 6, 7, 9, 10, 11, 12], true, [⟨false, 4, 0, 20004, 0⟩, ⟨false, 5, 0, 20005, 0⟩, ⟨false, 6, 0, 20006, 0⟩, ⟨false, 9, 0, 20009, 0⟩, ⟨true, 7, 0, 30700, 0⟩, ⟨true, 7, 1, 30701, 0⟩, ⟨true, 10, 0, 31000, 0⟩, ⟨true, 11, 0, 31100, 0⟩], []⟩) (.seq (.region ac55_12 [] (some ⟨[4, 5, 6, 7, 9, 10, 11, 12, 13, 52], false, [], []⟩)) (.region ac55_13 [] (some ⟨[4, 5, 6, 7, 9, 10, 11, 12, 13, 14], false, [], []⟩))) (.block 3 (.seq (.region ac55_14 [] (some ⟨[4, 5, 6, 7, 9, 10, 11, 12, 13, 14, 61], false, [], []⟩)) (.cond (.tmp 61) (.seq (.region ac55_15 [] (some ⟨[4, 5, 6, 7, 9, 10, 11, 12], false, [], []⟩)) (.exit 2)) .skip))))))) (.seq (.region ac55_16 [] (some ⟨[4, 5, 6, 7, 9, 10, 11, 67], true, [], []⟩)) (.region ac55_17 [] (some ⟨[4, 5, 6, 7, 9, 10, 11, 12], false, [], []⟩)))))))) (.seq (.region ac55_18 [] (some ⟨[4, 5, 6], false, [], []⟩)) .ret)))))))))
def rs55 : List AResV := [.tmp 4, .tmp 5, .tmp 6]
def ft55 : FnT := ⟨70, tr55, tl55, ac55, rs55⟩
theorem is55 : FnIs Try.prog 55 70 tr55 tl55 ac55 rs55 := ⟨Try.f55, Try.func55, rfl, by kernel_rfl, by kernel_rfl, by kernel_rfl⟩

/-! ### etalon/etalonbase.Ints -/

def ac63_0 : List AOper := [
 oO 4 (.mv (.const (.bool false)))]

def ac63_1 : List AOper := [
 oM 6 0,
 oO 7 (.len (.tmp 6)),
 oM 8 1,
 oO 9 (.len (.tmp 8)),
 oO 10 (.bin .neq 3 (.tmp 7) (.tmp 9))]

def ac63_2 : List AOper := [
 oO 4 (.mv (.const (.bool false)))]

def ac63_3 : List AOper := [
 oO 5 (.mv (.const (.int .i64 0)))]

def ac63_4 : List AOper := [
 oM 11 5,
 oM 12 0,
 oO 13 (.len (.tmp 12)),
 oO 14 (.bin .lss 3 (.tmp 11) (.tmp 13))]

def ac63_5 : List AOper := [
 oM 17 0,
 oM 18 5,
 oO 19 (.iaddr 1 none (.tmp 17) (.tmp 18)),
 oO 20 (.load false 1 (.tmp 19)),
 oM 21 1,
 oM 22 5,
 oO 23 (.iaddr 1 none (.tmp 21) (.tmp 22)),
 oO 24 (.load false 1 (.tmp 23)),
 oO 25 (.bin .neq 3 (.tmp 20) (.tmp 24))]

def ac63_6 : List AOper := [
 oO 4 (.mv (.const (.bool false)))]

def ac63_7 : List AOper := [
 oM 15 5,
 oO 16 (.bin .add 3 (.tmp 15) (.const (.int .i64 1))),
 oM 5 16]

def ac63_8 : List AOper := [
 oO 4 (.mv (.const (.bool true)))]

def tr63 : List (Nat × Tidy) := [(0, ⟨[0, 1], false, [], []⟩), (1, ⟨[0, 1, 10], false, [], []⟩), (2, ⟨[4], false, [], []⟩), (3, ⟨[0, 1, 5], false, [], []⟩), (4, ⟨[0, 1, 5, 14], false, [], []⟩), (6, ⟨[0, 1, 5, 25], false, [], []⟩), (7, ⟨[4], false, [], []⟩), (5, ⟨[0, 1, 5], false, [], []⟩), (8, ⟨[4], false, [], []⟩)]
def tl63 : List (Nat × Tidy) := [(4, ⟨[0, 1, 5], true, [⟨false, 5, 0, 20005, 0⟩], []⟩)]
def ac63 : ACode := (.seq (.region ac63_0 [] (some ⟨[0, 1], false, [], []⟩)) (.seq (.seq (.region ac63_1 [] (some ⟨[0, 1, 10], false, [], []⟩)) (.cond (.tmp 10) (.seq (.region ac63_2 [] (some ⟨[4], false, [], []⟩)) .ret) .skip)) (.seq (.seq (.region ac63_3 [] (some ⟨[0, 1, 5], false, [], []⟩)) (.block 0 (.loop (some ⟨[0, 1, 5], true, [⟨false, 5, 0, 20005, 0⟩], []⟩) (.seq (.seq (.region ac63_4 [] (some ⟨[0, 1, 5, 14], false, [], []⟩)) (.cond (.tmp 14) .skip (.exit 0))) (.seq (.block 1 (.seq (.region ac63_5 [] (some ⟨[0, 1, 5, 25], false, [], []⟩)) (.cond (.tmp 25) (.seq (.region ac63_6 [] (some ⟨[4], false, [], []⟩)) .ret) .skip))) (.region ac63_7 [] (some ⟨[0, 1, 5], false, [], []⟩))))))) (.seq (.region ac63_8 [] (some ⟨[4], false, [], []⟩)) .ret))))
def rs63 : List AResV := [.tmp 4]
def ft63 : FnT := ⟨26, tr63, tl63, ac63, rs63⟩
theorem is63 : FnIs Try.prog 63 26 tr63 tl63 ac63 rs63 := ⟨Try.f63, Try.func63, rfl, by kernel_rfl, by kernel_rfl, by kernel_rfl⟩

/-! ### etalon/etalonlaw08.Track -/

def ac70_0 : List AOper := [
 oO 0 (.alloc [(.d (.v (.int .i64 0))), (.d (.v (.int .i64 0))), (.d (.v (.int .i64 0))), .nils])]

def ac70_1 : List AOper := [
 oO 1 (.build [(.d (.v (.int .i64 0))), (.d (.v (.int .i64 0)))] [(0, 1, (.const (.int .i64 1000))), (1, 1, (.const (.int .i64 2000)))]),
 oO 2 (.build [(.d (.v (.int .i64 0))), (.d (.v (.int .i64 0)))] [(0, 1, (.const (.int .i64 5))), (1, 1, (.const (.int .i64 10)))]),
 oO 3 (.build [(.d (.v (.int .i64 0))), (.d (.v (.int .i64 0)))] [(0, 1, (.const (.int .i64 15))), (1, 1, (.const (.int .i64 30)))]),
 oO 4 (.bslice 2 2 [(.v (.int .i64 0)), (.v (.int .i64 0))] [(0, (.tmp 2)), (1, (.tmp 3))]),
 oO 5 (.build [(.d (.v (.int .i64 0))), (.d (.v (.int .i64 0))), (.d (.v (.int .i64 0))), .nils] [(0, 2, (.tmp 1)), (2, 1, (.const (.int .i64 1))), (3, 1, (.tmp 4))]),
  ⟨none, (.store 4 (.tmp 0) (.tmp 5)), none⟩]

def tr70 : List (Nat × Tidy) := [(0, ⟨[0], false, [], []⟩), (1, ⟨[0], false, [], []⟩)]
def tl70 : List (Nat × Tidy) := []
def ac70 : ACode := (.seq (.region ac70_0 [] (some ⟨[0], false, [], []⟩)) (.seq (.region ac70_1 [] (some ⟨[0], false, [], []⟩)) .ret))
def rs70 : List AResV := [.cell 0 true 4]
def ft70 : FnT := ⟨6, tr70, tl70, ac70, rs70⟩
theorem is70 : FnIs Try.prog 70 6 tr70 tl70 ac70 rs70 := ⟨Try.f70, Try.func70, rfl, by kernel_rfl, by kernel_rfl, by kernel_rfl⟩

/-! ### etalon/etalonlaw08.Signal -/

def ac71_0 : List AOper := [
 oO 0 (.alloc [(.d (.v (.int .i64 0))), .nils])]

def ac71_1 : List AOper := [
 oO 1 (.bslice 1 8 [(.v (.float Go.FloatKind.f32 0))] [(0, (.const (.float Go.FloatKind.f32 0))), (1, (.const (.float Go.FloatKind.f32 1084227584))), (2, (.const (.float Go.FloatKind.f32 1091567616))), (3, (.const (.float Go.FloatKind.f32 1092616192))), (4, (.const (.float Go.FloatKind.f32 1091567616))), (5, (.const (.float Go.FloatKind.f32 1082130432))), (6, (.const (.float Go.FloatKind.f32 1077936128))), (7, (.const (.float Go.FloatKind.f32 1090519040)))]),
 oO 2 (.build [(.d (.v (.int .i64 0))), .nils] [(0, 1, (.const (.int .i64 1))), (1, 1, (.tmp 1))]),
  ⟨none, (.store 2 (.tmp 0) (.tmp 2)), none⟩]

def tr71 : List (Nat × Tidy) := [(0, ⟨[0], false, [], []⟩), (1, ⟨[0], false, [], []⟩)]
def tl71 : List (Nat × Tidy) := []
def ac71 : ACode := (.seq (.region ac71_0 [] (some ⟨[0], false, [], []⟩)) (.seq (.region ac71_1 [] (some ⟨[0], false, [], []⟩)) .ret))
def rs71 : List AResV := [.cell 0 true 2]
def ft71 : FnT := ⟨3, tr71, tl71, ac71, rs71⟩
theorem is71 : FnIs Try.prog 71 3 tr71 tl71 ac71 rs71 := ⟨Try.f71, Try.func71, rfl, by kernel_rfl, by kernel_rfl, by kernel_rfl⟩

/-! ### etalon/etalonlaw08.Chamber -/

def ac72_0 : List AOper := [
 oO 0 (.alloc [.nils, .nils])]

def ac72_1 : List AOper := [
 ⟨(some 1), (.bslice 1 3 [(.v (.string ⟨#[]⟩))] [(0, (.const (.string ⟨#[115, 104, 117, 116, 116, 101, 114]⟩))), (1, (.const (.string ⟨#[115, 111, 117, 114, 99, 101]⟩))), (2, (.const (.string ⟨#[112, 117, 109, 112]⟩)))]), none⟩,
 oO 2 (.build [(.d (.v (.int .i64 0))), (.d (.v (.bool false))), (.d (.v (.int .i64 0))), (.d (.v (.bool false)))] [(0, 1, (.const (.int .i64 1))), (1, 1, (.const (.bool true))), (2, 1, (.const (.int .i64 2))), (3, 1, (.const (.bool true)))]),
 oO 3 (.build [(.d (.v (.int .i64 0))), (.d (.v (.bool false))), (.d (.v (.int .i64 0))), (.d (.v (.bool false)))] [(0, 1, (.const (.int .i64 0))), (1, 1, (.const (.bool true))), (2, 1, (.const (.int .i64 1))), (3, 1, (.const (.bool true)))]),
 oO 4 (.bslice 4 2 [(.v (.int .i64 0)), (.v (.bool false)), (.v (.int .i64 0)), (.v (.bool false))] [(0, (.tmp 2)), (1, (.tmp 3))]),
 oO 5 (.build [.nils, .nils] [(0, 1, (.tmp 1)), (1, 1, (.tmp 4))]),
  ⟨none, (.store 2 (.tmp 0) (.tmp 5)), none⟩]

def tr72 : List (Nat × Tidy) := [(0, ⟨[0], false, [], []⟩), (1, ⟨[0], false, [], []⟩)]
def tl72 : List (Nat × Tidy) := []
def ac72 : ACode := (.seq (.region ac72_0 [] (some ⟨[0], false, [], []⟩)) (.seq (.region ac72_1 [] (some ⟨[0], false, [], []⟩)) .ret))
def rs72 : List AResV := [.cell 0 true 2]
def ft72 : FnT := ⟨6, tr72, tl72, ac72, rs72⟩
theorem is72 : FnIs Try.prog 72 6 tr72 tl72 ac72 rs72 := ⟨Try.f72, Try.func72, rfl, by kernel_rfl, by kernel_rfl, by kernel_rfl⟩

/-! ### etalon/grow.allowed -/

def ac73_0 : List AOper := [
 oO 1 (.box (.tmp 0)),
 oO 2 (.mv (.const (.slice none 0 0)))]

def ac73_1 : List AOper := [
 oO 6 (.build [(.d (.v (.int .i64 0))), (.d (.v (.int .i64 0))), (.d (.v (.int .i64 0)))] []),
 oO 7 (.bslice 3 1 [(.v (.int .i64 0)), (.v (.int .i64 0)), (.v (.int .i64 0))] [(0, (.tmp 6))]),
 oM 3 7]

def ac73_2 : List AOper := [
 oO 8 (.faddr 3 (.tmp 1)),
 oO 9 (.load false 1 (.tmp 8)),
 oO 10 (.len (.tmp 9)),
 oO 11 (.mv (.const (.int .i64 0)))]

def ac73_3 : List AOper := [
 oO 12 (.bin .lss 3 (.tmp 11) (.tmp 10))]

def ac73_4 : List AOper := [
 oO 13 (.iaddr 2 none (.tmp 9) (.tmp 11)),
 oO 14 (.load true 2 (.tmp 13)),
 oO 5 (.alloc [(.d (.v (.int .i64 0))), (.d (.v (.int .i64 0)))]),
  ⟨none, (.store 2 (.tmp 5) (.tmp 14)), none⟩]

def ac73_5 : List AOper := [
 oM 15 3,
 oO 16 (.faddr 0 (.tmp 5)),
 oO 17 (.load false 1 (.tmp 16)),
 oO 18 (.faddr 1 (.tmp 5)),
 oO 19 (.load false 1 (.tmp 18)),
 oO 20 (.faddr 2 (.tmp 1)),
 oO 21 (.load false 1 (.tmp 20)),
 oO 22 (.bin .sub 3 (.tmp 19) (.tmp 21)),
 oO 23 (.bin .mul 3 (.const (.int .i64 1000)) (.tmp 22)),
 oO 24 (.faddr 1 (.tmp 5)),
 oO 25 (.load false 1 (.tmp 24)),
 oO 26 (.faddr 2 (.tmp 1)),
 oO 27 (.load false 1 (.tmp 26)),
 oO 28 (.bin .add 3 (.tmp 25) (.tmp 27)),
 oO 29 (.bin .mul 3 (.const (.int .i64 1000)) (.tmp 28)),
 oO 30 (.build [(.d (.v (.int .i64 0))), (.d (.v (.int .i64 0)))] [(0, 1, (.tmp 23)), (1, 1, (.tmp 29))]),
 oO 31 (.build [(.d (.v (.int .i64 0))), (.d (.v (.int .i64 0))), (.d (.v (.int .i64 0)))] [(0, 1, (.tmp 17)), (1, 2, (.tmp 30))]),
 oO 32 (.bslice 3 1 [(.v (.int .i64 0)), (.v (.int .i64 0)), (.v (.int .i64 0))] [(0, (.tmp 31))]),
 oO 33 (.append 3 24 (.tmp 15) (.tmp 32)),
 oM 3 33]

def ac73_6 : List AOper := [
 oO 34 (.bin .add 3 (.tmp 11) (.const (.int .i64 1))),
 oM 11 34]

def ac73_7 : List AOper := [
 oM 35 3,
 oM 2 35]

def tr73 : List (Nat × Tidy) := [(0, ⟨[1], false, [], []⟩), (1, ⟨[1, 3], false, [], []⟩), (2, ⟨[1, 3, 9, 10, 11], false, [], []⟩), (3, ⟨[1, 3, 9, 10, 11, 12], false, [], []⟩), (4, ⟨[1, 3, 5, 9, 10, 11], false, [], []⟩), (5, ⟨[1, 3, 9, 10, 11], false, [], []⟩), (6, ⟨[1, 3, 9, 10, 11], false, [], []⟩), (7, ⟨[2], false, [], []⟩)]
def tl73 : List (Nat × Tidy) := [(3, ⟨[1, 3, 9, 10, 11], true, [⟨false, 3, 0, 20003, 0⟩, ⟨false, 9, 0, 20009, 0⟩, ⟨false, 11, 0, 20011, 0⟩], []⟩)]
def ac73 : ACode := (.seq (.region ac73_0 [] (some ⟨[1], false, [], []⟩)) (.seq (.region ac73_1 [] (some ⟨[1, 3], false, [], []⟩)) (.seq (.seq (.region ac73_2 [] (some ⟨[1, 3, 9, 10, 11], false, [], []⟩)) (.block 0 (.loop (some ⟨[1, 3, 9, 10, 11], true, [⟨false, 3, 0, 20003, 0⟩, ⟨false, 9, 0, 20009, 0⟩, ⟨false, 11, 0, 20011, 0⟩], []⟩) (.seq (.region ac73_3 [] (some ⟨[1, 3, 9, 10, 11, 12], false, [], []⟩)) (.seq (.cond (.tmp 12) .skip (.exit 0)) (.seq (.block 1 (.seq (.region ac73_4 [] (some ⟨[1, 3, 5, 9, 10, 11], false, [], []⟩)) (.region ac73_5 [] (some ⟨[1, 3, 9, 10, 11], false, [], []⟩)))) (.region ac73_6 [] (some ⟨[1, 3, 9, 10, 11], false, [], []⟩)))))))) (.seq (.region ac73_7 [] (some ⟨[2], false, [], []⟩)) .ret))))
def rs73 : List AResV := [.tmp 2]
def ft73 : FnT := ⟨36, tr73, tl73, ac73, rs73⟩
theorem is73 : FnIs Try.prog 73 36 tr73 tl73 ac73 rs73 := ⟨Try.f73, Try.func73, rfl, by kernel_rfl, by kernel_rfl, by kernel_rfl⟩

/-! ### etalon/grow.common -/

def ac74_0 : List AOper := [
 oO 2 (.box (.tmp 0)),
 oO 3 (.box (.tmp 1)),
 oO 4 (.alloc [(.d (.v (.int .i64 0))), (.d (.v (.int .i64 0)))])]

def ac74_1 : List AOper := [
 oO 5 (.faddr 0 (.tmp 2)),
 oO 6 (.load false 1 (.tmp 5)),
 oO 7 (.faddr 0 (.tmp 3)),
 oO 8 (.load false 1 (.tmp 7)),
 oO 9 (.pure (oB (.call { callee := .builtin .max, args := #[(.tmp 6), (.tmp 8)], argTypes := #[3, 3] }) 3)),
 oO 10 (.faddr 1 (.tmp 2)),
 oO 11 (.load false 1 (.tmp 10)),
 oO 12 (.faddr 1 (.tmp 3)),
 oO 13 (.load false 1 (.tmp 12)),
 oO 14 (.pure (oB (.call { callee := .builtin .min, args := #[(.tmp 11), (.tmp 13)], argTypes := #[3, 3] }) 3)),
 oO 15 (.build [(.d (.v (.int .i64 0))), (.d (.v (.int .i64 0)))] [(0, 1, (.tmp 9)), (1, 1, (.tmp 14))]),
  ⟨none, (.store 2 (.tmp 4) (.tmp 15)), none⟩]

def tr74 : List (Nat × Tidy) := [(0, ⟨[2, 3, 4], false, [], []⟩), (1, ⟨[4], false, [], []⟩)]
def tl74 : List (Nat × Tidy) := []
def ac74 : ACode := (.seq (.region ac74_0 [] (some ⟨[2, 3, 4], false, [], []⟩)) (.seq (.region ac74_1 [] (some ⟨[4], false, [], []⟩)) .ret))
def rs74 : List AResV := [.cell 4 true 2]
def ft74 : FnT := ⟨16, tr74, tl74, ac74, rs74⟩
theorem is74 : FnIs Try.prog 74 16 tr74 tl74 ac74 rs74 := ⟨Try.f74, Try.func74, rfl, by kernel_rfl, by kernel_rfl, by kernel_rfl⟩

/-! ### (etalon/grow.known).grown -/

def ac75_0 : List AOper := [
 oO 3 (.box (.tmp 0)),
 oO 4 (.box (.tmp 1)),
 oO 6 (.alloc [(.d (.v (.int .i64 0))), (.d (.v (.int .i64 0)))])]

def ac75_1 : List AOper := [
 oM 8 2,
 oO 9 (.faddr 0 (.tmp 3)),
 oO 10 (.load false 1 (.tmp 9)),
 oO 11 (.bin .sub 3 (.tmp 8) (.tmp 10)),
 oM 7 11]

def ac75_2 : List AOper := [
 oO 12 (.faddr 1 (.tmp 3)),
 oO 13 (.faddr 0 (.tmp 12)),
 oO 14 (.load false 1 (.tmp 13)),
 oO 15 (.faddr 0 (.tmp 4)),
 oO 16 (.load false 1 (.tmp 15)),
 oM 17 7,
 oO 18 (.bin .mul 3 (.tmp 16) (.tmp 17)),
 oO 19 (.bin .add 3 (.tmp 14) (.tmp 18)),
 oO 20 (.faddr 1 (.tmp 3)),
 oO 21 (.faddr 1 (.tmp 20)),
 oO 22 (.load false 1 (.tmp 21)),
 oO 23 (.faddr 1 (.tmp 4)),
 oO 24 (.load false 1 (.tmp 23)),
 oM 25 7,
 oO 26 (.bin .mul 3 (.tmp 24) (.tmp 25)),
 oO 27 (.bin .add 3 (.tmp 22) (.tmp 26)),
 oO 28 (.build [(.d (.v (.int .i64 0))), (.d (.v (.int .i64 0)))] [(0, 1, (.tmp 19)), (1, 1, (.tmp 27))]),
  ⟨none, (.store 2 (.tmp 6) (.tmp 28)), none⟩]

def tr75 : List (Nat × Tidy) := [(0, ⟨[2, 3, 4, 6], false, [], []⟩), (1, ⟨[3, 4, 6, 7], false, [], []⟩), (2, ⟨[6], false, [], []⟩)]
def tl75 : List (Nat × Tidy) := []
def ac75 : ACode := (.seq (.region ac75_0 [] (some ⟨[2, 3, 4, 6], false, [], []⟩)) (.seq (.region ac75_1 [] (some ⟨[3, 4, 6, 7], false, [], []⟩)) (.seq (.region ac75_2 [] (some ⟨[6], false, [], []⟩)) .ret)))
def rs75 : List AResV := [.cell 6 true 2]
def ft75 : FnT := ⟨29, tr75, tl75, ac75, rs75⟩
theorem is75 : FnIs Try.prog 75 29 tr75 tl75 ac75 rs75 := ⟨Try.f75, Try.func75, rfl, by kernel_rfl, by kernel_rfl, by kernel_rfl⟩

/-! ### etalon/grow.empty -/

def ac76_0 : List AOper := [
 oO 1 (.box (.tmp 0)),
 oO 2 (.mv (.const (.bool false)))]

def ac76_1 : List AOper := [
 oO 3 (.faddr 0 (.tmp 1)),
 oO 4 (.load false 1 (.tmp 3)),
 oO 5 (.faddr 1 (.tmp 1)),
 oO 6 (.load false 1 (.tmp 5)),
 oO 7 (.bin .gtr 3 (.tmp 4) (.tmp 6)),
 oM 2 7]

def tr76 : List (Nat × Tidy) := [(0, ⟨[1], false, [], []⟩), (1, ⟨[2], false, [], []⟩)]
def tl76 : List (Nat × Tidy) := []
def ac76 : ACode := (.seq (.region ac76_0 [] (some ⟨[1], false, [], []⟩)) (.seq (.region ac76_1 [] (some ⟨[2], false, [], []⟩)) .ret))
def rs76 : List AResV := [.tmp 2]
def ft76 : FnT := ⟨8, tr76, tl76, ac76, rs76⟩
theorem is76 : FnIs Try.prog 76 8 tr76 tl76 ac76 rs76 := ⟨Try.f76, Try.func76, rfl, by kernel_rfl, by kernel_rfl, by kernel_rfl⟩

/-! ### (etalon/grow.known).shrunk -/

def ac77_0 : List AOper := [
 oO 3 (.box (.tmp 0)),
 oO 4 (.box (.tmp 1)),
 oO 6 (.alloc [(.d (.v (.int .i64 0))), (.d (.v (.int .i64 0)))])]

def ac77_1 : List AOper := [
 oO 8 (.faddr 0 (.tmp 3)),
 oO 9 (.load false 1 (.tmp 8)),
 oM 10 2,
 oO 11 (.bin .sub 3 (.tmp 9) (.tmp 10)),
 oM 7 11]

def ac77_2 : List AOper := [
 oO 12 (.faddr 1 (.tmp 3)),
 oO 13 (.faddr 0 (.tmp 12)),
 oO 14 (.load false 1 (.tmp 13)),
 oO 15 (.faddr 1 (.tmp 4)),
 oO 16 (.load false 1 (.tmp 15)),
 oM 17 7,
 oO 18 (.bin .mul 3 (.tmp 16) (.tmp 17)),
 oO 19 (.bin .sub 3 (.tmp 14) (.tmp 18)),
 oO 20 (.faddr 1 (.tmp 3)),
 oO 21 (.faddr 1 (.tmp 20)),
 oO 22 (.load false 1 (.tmp 21)),
 oO 23 (.faddr 0 (.tmp 4)),
 oO 24 (.load false 1 (.tmp 23)),
 oM 25 7,
 oO 26 (.bin .mul 3 (.tmp 24) (.tmp 25)),
 oO 27 (.bin .sub 3 (.tmp 22) (.tmp 26)),
 oO 28 (.build [(.d (.v (.int .i64 0))), (.d (.v (.int .i64 0)))] [(0, 1, (.tmp 19)), (1, 1, (.tmp 27))]),
  ⟨none, (.store 2 (.tmp 6) (.tmp 28)), none⟩]

def tr77 : List (Nat × Tidy) := [(0, ⟨[2, 3, 4, 6], false, [], []⟩), (1, ⟨[3, 4, 6, 7], false, [], []⟩), (2, ⟨[6], false, [], []⟩)]
def tl77 : List (Nat × Tidy) := []
def ac77 : ACode := (.seq (.region ac77_0 [] (some ⟨[2, 3, 4, 6], false, [], []⟩)) (.seq (.region ac77_1 [] (some ⟨[3, 4, 6, 7], false, [], []⟩)) (.seq (.region ac77_2 [] (some ⟨[6], false, [], []⟩)) .ret)))
def rs77 : List AResV := [.cell 6 true 2]
def ft77 : FnT := ⟨29, tr77, tl77, ac77, rs77⟩
theorem is77 : FnIs Try.prog 77 29 tr77 tl77 ac77 rs77 := ⟨Try.f77, Try.func77, rfl, by kernel_rfl, by kernel_rfl, by kernel_rfl⟩

/-! ### etalon/grow.within -/

def ac78_0 : List AOper := [
 oO 6 (.mv (.const (.bool false)))]

def ac78_1 : List AOper := [
 oM 7 1,
 oM 8 0,
 oO 9 (.bin .leq 3 (.tmp 7) (.tmp 8)),
 oM 10 9,
 ⟨(some 11), (.mv (.tmp 0)), (some (10, true))⟩,
 ⟨(some 12), (.mv (.tmp 2)), (some (10, true))⟩,
 ⟨(some 13), (.bin .leq 3 (.tmp 11) (.tmp 12)), (some (10, true))⟩,
 oO 14 (.pick (.tmp 10) (.tmp 13) (.const (.bool false))),
 oM 6 14]

def tr78 : List (Nat × Tidy) := [(0, ⟨[0, 1, 2], false, [], []⟩), (1, ⟨[6], false, [], []⟩)]
def tl78 : List (Nat × Tidy) := []
def ac78 : ACode := (.seq (.region ac78_0 [] (some ⟨[0, 1, 2], false, [], []⟩)) (.seq (.region ac78_1 [] (some ⟨[6], false, [], []⟩)) .ret))
def rs78 : List AResV := [.tmp 6]
def ft78 : FnT := ⟨15, tr78, tl78, ac78, rs78⟩
theorem is78 : FnIs Try.prog 78 15 tr78 tl78 ac78 rs78 := ⟨Try.f78, Try.func78, rfl, by kernel_rfl, by kernel_rfl, by kernel_rfl⟩

/-! ### math.Trunc -/

def ac79_0 : List AOper := [
 oO 2 (.mv (.const (.float Go.FloatKind.f64 0)))]

def ac79_1 : List AOper := [
 oM 3 0,
 oO 4 (.pure (oB (.call { callee := .value (.func 121), args := #[(.tmp 3)], argTypes := #[141] }) 141)),
 oM 2 4]

def ac79_2 : List AOper := [
 oM 5 0,
 oO 6 (.call 122 [(.tmp 5)]),
 oM 2 6]

def tr79 : List (Nat × Tidy) := [(0, ⟨[0], false, [], []⟩), (1, ⟨[2], false, [], []⟩), (2, ⟨[2], false, [], []⟩)]
def tl79 : List (Nat × Tidy) := []
def ac79 : ACode := (.seq (.region ac79_0 [] (some ⟨[0], false, [], []⟩)) (.seq (.cond (.const (.bool true)) (.seq (.region ac79_1 [] (some ⟨[2], false, [], []⟩)) .ret) .skip) (.seq (.region ac79_2 [] (some ⟨[2], false, [], []⟩)) .ret)))
def rs79 : List AResV := [.tmp 2]
def ft79 : FnT := ⟨7, tr79, tl79, ac79, rs79⟩
theorem is79 : FnIs Try.prog 79 7 tr79 tl79 ac79 rs79 := ⟨Try.f79, Try.func79, rfl, by kernel_rfl, by kernel_rfl, by kernel_rfl⟩

/-! ### math.IsInf -/

def ac80_0 : List AOper := [
 oO 4 (.mv (.const (.bool false)))]

def ac80_1 : List AOper := [
 oM 5 1,
 oO 6 (.bin .eql 3 (.tmp 5) (.const (.int .i64 0)))]

def ac80_2 : List AOper := [
 oM 7 0,
 oO 8 (.call 123 [(.tmp 7)]),
 oM 0 8]

def ac80_3 : List AOper := [
 oM 9 1,
 oO 10 (.bin .lss 3 (.tmp 9) (.const (.int .i64 0)))]

def ac80_4 : List AOper := [
 oM 11 0,
 oO 12 (.pure (oB (.unOp .neg 141 (.tmp 11)) 141)),
 oM 0 12]

def ac80_5 : List AOper := [
 oM 13 0,
 oO 14 (.bin .gtr 141 (.tmp 13) (.const (.float Go.FloatKind.f64 9218868437227405311))),
 oM 4 14]

def tr80 : List (Nat × Tidy) := [(0, ⟨[0, 1], false, [], []⟩), (1, ⟨[0, 1, 6], false, [], []⟩), (2, ⟨[0], false, [], []⟩), (3, ⟨[0, 10], false, [], []⟩), (4, ⟨[0], false, [], []⟩), (5, ⟨[4], false, [], []⟩)]
def tl80 : List (Nat × Tidy) := []
def ac80 : ACode := (.seq (.region ac80_0 [] (some ⟨[0, 1], false, [], []⟩)) (.seq (.seq (.region ac80_1 [] (some ⟨[0, 1, 6], false, [], []⟩)) (.cond (.tmp 6) (.region ac80_2 [] (some ⟨[0], false, [], []⟩)) (.seq (.region ac80_3 [] (some ⟨[0, 10], false, [], []⟩)) (.cond (.tmp 10) (.region ac80_4 [] (some ⟨[0], false, [], []⟩)) .skip)))) (.seq (.region ac80_5 [] (some ⟨[4], false, [], []⟩)) .ret)))
def rs80 : List AResV := [.tmp 4]
def ft80 : FnT := ⟨15, tr80, tl80, ac80, rs80⟩
theorem is80 : FnIs Try.prog 80 15 tr80 tl80 ac80 rs80 := ⟨Try.f80, Try.func80, rfl, by kernel_rfl, by kernel_rfl, by kernel_rfl⟩

/-! ### slices.Max[[]int,int] -/

def ac81_0 : List AOper := [
 oO 2 (.mv (.const (.int .i64 0)))]

def ac81_1 : List AOper := [
 oM 5 0,
 oO 6 (.len (.tmp 5)),
 oO 7 (.bin .lss 3 (.tmp 6) (.const (.int .i64 1)))]

def ac81_2 : List AOper := [
 ⟨(some 8), .bad, none⟩,
  ⟨none, .bad, none⟩]

def ac81_3 : List AOper := [
 oM 9 0,
 oO 10 (.iaddr 1 none (.tmp 9) (.const (.int .i64 0))),
 oO 11 (.load false 1 (.tmp 10)),
 oM 3 11]

def ac81_4 : List AOper := [
 oO 4 (.mv (.const (.int .i64 1)))]

def ac81_5 : List AOper := [
 oM 12 4,
 oM 13 0,
 oO 14 (.len (.tmp 13)),
 oO 15 (.bin .lss 3 (.tmp 12) (.tmp 14))]

def ac81_6 : List AOper := [
 oM 18 3,
 oM 19 0,
 oM 20 4,
 oO 21 (.iaddr 1 none (.tmp 19) (.tmp 20)),
 oO 22 (.load false 1 (.tmp 21)),
 oO 23 (.pure (oB (.call { callee := .builtin .max, args := #[(.tmp 18), (.tmp 22)], argTypes := #[3, 3] }) 3)),
 oM 3 23]

def ac81_7 : List AOper := [
 oM 16 4,
 oO 17 (.bin .add 3 (.tmp 16) (.const (.int .i64 1))),
 oM 4 17]

def ac81_8 : List AOper := [
 oM 24 3,
 oM 2 24]

def tr81 : List (Nat × Tidy) := [(0, ⟨[0], false, [], []⟩), (1, ⟨[0, 7], false, [], []⟩), (2, ⟨[0], false, [], []⟩), (3, ⟨[0, 3], false, [], []⟩), (4, ⟨[0, 3, 4], false, [], []⟩), (5, ⟨[0, 3, 4, 15], false, [], []⟩), (7, ⟨[0, 3, 4], false, [], []⟩), (6, ⟨[0, 3, 4], false, [], []⟩), (8, ⟨[2], false, [], []⟩)]
def tl81 : List (Nat × Tidy) := [(5, ⟨[0, 3, 4], true, [⟨false, 3, 0, 20003, 0⟩, ⟨false, 4, 0, 20004, 0⟩], []⟩)]
def ac81 : ACode := (.seq (.region ac81_0 [] (some ⟨[0], false, [], []⟩)) (.seq (.seq (.region ac81_1 [] (some ⟨[0, 7], false, [], []⟩)) (.cond (.tmp 7) (.region ac81_2 [] (some ⟨[0], false, [], []⟩)) .skip)) (.seq (.region ac81_3 [] (some ⟨[0, 3], false, [], []⟩)) (.seq (.seq (.region ac81_4 [] (some ⟨[0, 3, 4], false, [], []⟩)) (.block 0 (.loop (some ⟨[0, 3, 4], true, [⟨false, 3, 0, 20003, 0⟩, ⟨false, 4, 0, 20004, 0⟩], []⟩) (.seq (.seq (.region ac81_5 [] (some ⟨[0, 3, 4, 15], false, [], []⟩)) (.cond (.tmp 15) .skip (.exit 0))) (.seq (.block 1 (.region ac81_6 [] (some ⟨[0, 3, 4], false, [], []⟩))) (.region ac81_7 [] (some ⟨[0, 3, 4], false, [], []⟩))))))) (.seq (.region ac81_8 [] (some ⟨[2], false, [], []⟩)) .ret)))))
def rs81 : List AResV := [.tmp 2]
def ft81 : FnT := ⟨25, tr81, tl81, ac81, rs81⟩
theorem is81 : FnIs Try.prog 81 25 tr81 tl81 ac81 rs81 := ⟨Try.f81, Try.func81, rfl, by kernel_rfl, by kernel_rfl, by kernel_rfl⟩

/-! ### slices.Min[[]int,int] -/

def ac82_0 : List AOper := [
 oO 2 (.mv (.const (.int .i64 0)))]

def ac82_1 : List AOper := [
 oM 5 0,
 oO 6 (.len (.tmp 5)),
 oO 7 (.bin .lss 3 (.tmp 6) (.const (.int .i64 1)))]

def ac82_2 : List AOper := [
 ⟨(some 8), .bad, none⟩,
  ⟨none, .bad, none⟩]

def ac82_3 : List AOper := [
 oM 9 0,
 oO 10 (.iaddr 1 none (.tmp 9) (.const (.int .i64 0))),
 oO 11 (.load false 1 (.tmp 10)),
 oM 3 11]

def ac82_4 : List AOper := [
 oO 4 (.mv (.const (.int .i64 1)))]

def ac82_5 : List AOper := [
 oM 12 4,
 oM 13 0,
 oO 14 (.len (.tmp 13)),
 oO 15 (.bin .lss 3 (.tmp 12) (.tmp 14))]

def ac82_6 : List AOper := [
 oM 18 3,
 oM 19 0,
 oM 20 4,
 oO 21 (.iaddr 1 none (.tmp 19) (.tmp 20)),
 oO 22 (.load false 1 (.tmp 21)),
 oO 23 (.pure (oB (.call { callee := .builtin .min, args := #[(.tmp 18), (.tmp 22)], argTypes := #[3, 3] }) 3)),
 oM 3 23]

def ac82_7 : List AOper := [
 oM 16 4,
 oO 17 (.bin .add 3 (.tmp 16) (.const (.int .i64 1))),
 oM 4 17]

def ac82_8 : List AOper := [
 oM 24 3,
 oM 2 24]

def tr82 : List (Nat × Tidy) := [(0, ⟨[0], false, [], []⟩), (1, ⟨[0, 7], false, [], []⟩), (2, ⟨[0], false, [], []⟩), (3, ⟨[0, 3], false, [], []⟩), (4, ⟨[0, 3, 4], false, [], []⟩), (5, ⟨[0, 3, 4, 15], false, [], []⟩), (7, ⟨[0, 3, 4], false, [], []⟩), (6, ⟨[0, 3, 4], false, [], []⟩), (8, ⟨[2], false, [], []⟩)]
def tl82 : List (Nat × Tidy) := [(5, ⟨[0, 3, 4], true, [⟨false, 3, 0, 20003, 0⟩, ⟨false, 4, 0, 20004, 0⟩], []⟩)]
def ac82 : ACode := (.seq (.region ac82_0 [] (some ⟨[0], false, [], []⟩)) (.seq (.seq (.region ac82_1 [] (some ⟨[0, 7], false, [], []⟩)) (.cond (.tmp 7) (.region ac82_2 [] (some ⟨[0], false, [], []⟩)) .skip)) (.seq (.region ac82_3 [] (some ⟨[0, 3], false, [], []⟩)) (.seq (.seq (.region ac82_4 [] (some ⟨[0, 3, 4], false, [], []⟩)) (.block 0 (.loop (some ⟨[0, 3, 4], true, [⟨false, 3, 0, 20003, 0⟩, ⟨false, 4, 0, 20004, 0⟩], []⟩) (.seq (.seq (.region ac82_5 [] (some ⟨[0, 3, 4, 15], false, [], []⟩)) (.cond (.tmp 15) .skip (.exit 0))) (.seq (.block 1 (.region ac82_6 [] (some ⟨[0, 3, 4], false, [], []⟩))) (.region ac82_7 [] (some ⟨[0, 3, 4], false, [], []⟩))))))) (.seq (.region ac82_8 [] (some ⟨[2], false, [], []⟩)) .ret)))))
def rs82 : List AResV := [.tmp 2]
def ft82 : FnT := ⟨25, tr82, tl82, ac82, rs82⟩
theorem is82 : FnIs Try.prog 82 25 tr82 tl82 ac82 rs82 := ⟨Try.f82, Try.func82, rfl, by kernel_rfl, by kernel_rfl, by kernel_rfl⟩

/-! ### (etalon/grow.stretch).turn -/

def ac83_0 : List AOper := [
 oO 3 (.box (.tmp 0)),
 oO 6 (.alloc [(.d (.v (.bool false))), (.d (.v (.int .i64 0))), (.d (.v (.int .i64 0))), (.d (.v (.int .i64 0)))])]

def ac83_1 : List AOper := [
 oO 11 (.faddr 1 (.tmp 3)),
 oO 12 (.load false 1 (.tmp 11)),
 oM 13 2,
 oO 14 (.call 124 [(.tmp 12), (.tmp 13)]),
 oM 7 14]

def ac83_2 : List AOper := [
 oM 15 7,
 oM 8 15]

def ac83_3 : List AOper := [
 oO 16 (.faddr 1 (.tmp 3)),
 oO 17 (.load false 1 (.tmp 16)),
 oO 18 (.len (.tmp 17)),
 oO 19 (.mv (.const (.int .i64 0)))]

def ac83_4 : List AOper := [
 oO 20 (.bin .lss 3 (.tmp 19) (.tmp 18))]

def ac83_5 : List AOper := [
 oM 21 19,
 oO 22 (.iaddr 1 none (.tmp 17) (.tmp 19)),
 oO 23 (.load false 1 (.tmp 22)),
 oM 9 21,
 oM 10 23]

def ac83_6 : List AOper := [
 oM 24 2,
 oM 25 10,
 oO 26 (.calld (.tmp 24) [(.tmp 25)])]

def ac83_7 : List AOper := [
 oM 27 9,
 oM 8 27]

def ac83_8 : List AOper := [
 oO 28 (.bin .add 3 (.tmp 19) (.const (.int .i64 1))),
 oM 19 28]

def ac83_9 : List AOper := [
 oO 29 (.faddr 2 (.tmp 3)),
 oO 30 (.load false 1 (.tmp 29)),
 oO 31 (.bin .eql 3 (.tmp 30) (.const (.int .i64 1))),
 oO 32 (.faddr 0 (.tmp 3)),
 oO 33 (.load false 1 (.tmp 32)),
 oM 34 7,
 oO 35 (.bin .add 3 (.tmp 33) (.tmp 34)),
 oO 36 (.faddr 0 (.tmp 3)),
 oO 37 (.load false 1 (.tmp 36)),
 oM 38 8,
 oO 39 (.bin .add 3 (.tmp 37) (.tmp 38)),
 oM 40 1,
 oO 41 (.build [(.d (.v (.bool false))), (.d (.v (.int .i64 0))), (.d (.v (.int .i64 0))), (.d (.v (.int .i64 0)))] [(0, 1, (.tmp 31)), (1, 1, (.tmp 35)), (2, 1, (.tmp 39)), (3, 1, (.tmp 40))]),
  ⟨none, (.store 4 (.tmp 6) (.tmp 41)), none⟩]

def tr83 : List (Nat × Tidy) := [(0, ⟨[1, 2, 3, 6], false, [], []⟩), (1, ⟨[1, 2, 3, 6, 7], false, [], []⟩), (2, ⟨[1, 2, 3, 6, 7, 8], false, [], []⟩), (3, ⟨[1, 2, 3, 6, 7, 8, 17, 18, 19], false, [], []⟩), (4, ⟨[1, 2, 3, 6, 7, 8, 17, 18, 19, 20], false, [], []⟩), (5, ⟨[1, 2, 3, 6, 7, 8, 9, 10, 17, 18, 19], false, [], []⟩), (6, ⟨[1, 2, 3, 6, 7, 8, 9, 17, 18, 19, 26], false, [], []⟩), (7, ⟨[1, 2, 3, 6, 7, 8, 17, 18, 19], false, [], []⟩), (8, ⟨[1, 2, 3, 6, 7, 8, 17, 18, 19], false, [], []⟩), (9, ⟨[6], false, [], []⟩)]
def tl83 : List (Nat × Tidy) := [(4, ⟨[1, 2, 3, 6, 7, 8, 17, 18, 19], true, [⟨false, 7, 0, 20007, 0⟩, ⟨false, 8, 0, 20008, 0⟩, ⟨false, 17, 0, 20017, 0⟩, ⟨false, 19, 0, 20019, 0⟩], []⟩)]
def ac83 : ACode := (.seq (.region ac83_0 [] (some ⟨[1, 2, 3, 6], false, [], []⟩)) (.seq (.region ac83_1 [] (some ⟨[1, 2, 3, 6, 7], false, [], []⟩)) (.seq (.region ac83_2 [] (some ⟨[1, 2, 3, 6, 7, 8], false, [], []⟩)) (.seq (.seq (.region ac83_3 [] (some ⟨[1, 2, 3, 6, 7, 8, 17, 18, 19], false, [], []⟩)) (.block 0 (.loop (some ⟨[1, 2, 3, 6, 7, 8, 17, 18, 19], true, [⟨false, 7, 0, 20007, 0⟩, ⟨false, 8, 0, 20008, 0⟩, ⟨false, 17, 0, 20017, 0⟩, ⟨false, 19, 0, 20019, 0⟩], []⟩) (.seq (.region ac83_4 [] (some ⟨[1, 2, 3, 6, 7, 8, 17, 18, 19, 20], false, [], []⟩)) (.seq (.cond (.tmp 20) .skip (.exit 0)) (.seq (.block 1 (.seq (.region ac83_5 [] (some ⟨[1, 2, 3, 6, 7, 8, 9, 10, 17, 18, 19], false, [], []⟩)) (.seq (.region ac83_6 [] (some ⟨[1, 2, 3, 6, 7, 8, 9, 17, 18, 19, 26], false, [], []⟩)) (.cond (.tmp 26) (.region ac83_7 [] (some ⟨[1, 2, 3, 6, 7, 8, 17, 18, 19], false, [], []⟩)) .skip)))) (.region ac83_8 [] (some ⟨[1, 2, 3, 6, 7, 8, 17, 18, 19], false, [], []⟩)))))))) (.seq (.region ac83_9 [] (some ⟨[6], false, [], []⟩)) .ret)))))
def rs83 : List AResV := [.cell 6 true 4]
def ft83 : FnT := ⟨42, tr83, tl83, ac83, rs83⟩
theorem is83 : FnIs Try.prog 83 42 tr83 tl83 ac83 rs83 := ⟨Try.f83, Try.func83, rfl, by kernel_rfl, by kernel_rfl, by kernel_rfl⟩

/-! ### etalon/grow.Turns$1 -/

def ac84_0 : List AOper := [
 oO 4 (.mv (.const (.bool false)))]

def ac84_1 : List AOper := [
 oM 5 0,
 oO 6 (.load false 1 (.tmp 1)),
 oO 7 (.load false 1 (.tmp 2)),
 oO 8 (.bin .sub 3 (.tmp 6) (.tmp 7)),
 oO 9 (.bin .geq 3 (.tmp 5) (.tmp 8)),
 oM 4 9]

def tr84 : List (Nat × Tidy) := [(0, ⟨[0, 1, 2], false, [], []⟩), (1, ⟨[4], false, [], []⟩)]
def tl84 : List (Nat × Tidy) := []
def ac84 : ACode := (.seq (.region ac84_0 [] (some ⟨[0, 1, 2], false, [], []⟩)) (.seq (.region ac84_1 [] (some ⟨[4], false, [], []⟩)) .ret))
def rs84 : List AResV := [.tmp 4]
def ft84 : FnT := ⟨10, tr84, tl84, ac84, rs84⟩
theorem is84 : FnIs Try.prog 84 10 tr84 tl84 ac84 rs84 := ⟨Try.f84, Try.func84, rfl, by kernel_rfl, by kernel_rfl, by kernel_rfl⟩

/-! ### etalon/grow.Turns$2 -/

def ac85_0 : List AOper := [
 oO 4 (.mv (.const (.bool false)))]

def ac85_1 : List AOper := [
 oM 5 0,
 oO 6 (.load false 1 (.tmp 1)),
 oO 7 (.load false 1 (.tmp 2)),
 oO 8 (.bin .add 3 (.tmp 6) (.tmp 7)),
 oO 9 (.bin .leq 3 (.tmp 5) (.tmp 8)),
 oM 4 9]

def tr85 : List (Nat × Tidy) := [(0, ⟨[0, 1, 2], false, [], []⟩), (1, ⟨[4], false, [], []⟩)]
def tl85 : List (Nat × Tidy) := []
def ac85 : ACode := (.seq (.region ac85_0 [] (some ⟨[0, 1, 2], false, [], []⟩)) (.seq (.region ac85_1 [] (some ⟨[4], false, [], []⟩)) .ret))
def rs85 : List AResV := [.tmp 4]
def ft85 : FnT := ⟨10, tr85, tl85, ac85, rs85⟩
theorem is85 : FnIs Try.prog 85 10 tr85 tl85 ac85 rs85 := ⟨Try.f85, Try.func85, rfl, by kernel_rfl, by kernel_rfl, by kernel_rfl⟩

/-! ### etalon/grow.first -/

def ac88_0 : List AOper := [
 oO 2 (.mv (.const (.int .i64 0)))]

def ac88_1 : List AOper := [
 oM 5 0,
 oO 6 (.len (.tmp 5)),
 oO 7 (.mv (.const (.int .i64 0)))]

def ac88_2 : List AOper := [
 oO 8 (.bin .lss 3 (.tmp 7) (.tmp 6))]

def ac88_3 : List AOper := [
 oO 9 (.iaddr 1 none (.tmp 5) (.tmp 7)),
 oO 10 (.load false 1 (.tmp 9)),
 oM 4 10]

def ac88_4 : List AOper := [
 oM 11 4,
 oO 12 (.bin .neq 32 (.tmp 11) (.const (.int .i64 0)))]

def ac88_5 : List AOper := [
 oM 13 4,
 oM 2 13]

def ac88_6 : List AOper := [
 oO 14 (.bin .add 3 (.tmp 7) (.const (.int .i64 1))),
 oM 7 14]

def ac88_7 : List AOper := [
 oO 2 (.mv (.const (.int .i64 0)))]

def tr88 : List (Nat × Tidy) := [(0, ⟨[0], false, [], []⟩), (1, ⟨[5, 6, 7], false, [], []⟩), (2, ⟨[5, 6, 7, 8], false, [], []⟩), (3, ⟨[4, 5, 6, 7], false, [], []⟩), (4, ⟨[4, 5, 6, 7, 12], false, [], []⟩), (5, ⟨[2], false, [], []⟩), (6, ⟨[5, 6, 7], false, [], []⟩), (7, ⟨[2], false, [], []⟩)]
def tl88 : List (Nat × Tidy) := [(2, ⟨[5, 6, 7], true, [⟨false, 5, 0, 20005, 0⟩, ⟨false, 7, 0, 20007, 0⟩], []⟩)]
def ac88 : ACode := (.seq (.region ac88_0 [] (some ⟨[0], false, [], []⟩)) (.seq (.seq (.region ac88_1 [] (some ⟨[5, 6, 7], false, [], []⟩)) (.block 0 (.loop (some ⟨[5, 6, 7], true, [⟨false, 5, 0, 20005, 0⟩, ⟨false, 7, 0, 20007, 0⟩], []⟩) (.seq (.region ac88_2 [] (some ⟨[5, 6, 7, 8], false, [], []⟩)) (.seq (.cond (.tmp 8) .skip (.exit 0)) (.seq (.block 1 (.seq (.region ac88_3 [] (some ⟨[4, 5, 6, 7], false, [], []⟩)) (.seq (.region ac88_4 [] (some ⟨[4, 5, 6, 7, 12], false, [], []⟩)) (.cond (.tmp 12) (.seq (.region ac88_5 [] (some ⟨[2], false, [], []⟩)) .ret) .skip)))) (.region ac88_6 [] (some ⟨[5, 6, 7], false, [], []⟩)))))))) (.seq (.region ac88_7 [] (some ⟨[2], false, [], []⟩)) .ret)))
def rs88 : List AResV := [.tmp 2]
def ft88 : FnT := ⟨15, tr88, tl88, ac88, rs88⟩
theorem is88 : FnIs Try.prog 88 15 tr88 tl88 ac88 rs88 := ⟨Try.f88, Try.func88, rfl, by kernel_rfl, by kernel_rfl, by kernel_rfl⟩

/-! ### etalon/grow.rateErr -/

def ac89_0 : List AOper := [
 oO 1 (.box (.tmp 0)),
 oO 2 (.mv (.const (.int .i64 0)))]

def ac89_1 : List AOper := [
 oO 3 (.load true 2 (.tmp 1)),
 oO 4 (.call 117 [(.tmp 3), (.const (.int .i64 1)), (.const (.int .i64 1000000))]),
 oM 2 4]

def tr89 : List (Nat × Tidy) := [(0, ⟨[1], false, [], []⟩), (1, ⟨[2], false, [], []⟩)]
def tl89 : List (Nat × Tidy) := []
def ac89 : ACode := (.seq (.region ac89_0 [] (some ⟨[1], false, [], []⟩)) (.seq (.region ac89_1 [] (some ⟨[2], false, [], []⟩)) .ret))
def rs89 : List AResV := [.tmp 2]
def ft89 : FnT := ⟨5, tr89, tl89, ac89, rs89⟩
theorem is89 : FnIs Try.prog 89 5 tr89 tl89 ac89 rs89 := ⟨Try.f89, Try.func89, rfl, by kernel_rfl, by kernel_rfl, by kernel_rfl⟩

/-! ### etalon/grow.secondsErr -/

def ac90_0 : List AOper := [
 oO 1 (.box (.tmp 0)),
 oO 2 (.mv (.const (.int .i64 0)))]

def ac90_1 : List AOper := [
 oO 3 (.load true 2 (.tmp 1)),
 oO 4 (.call 117 [(.tmp 3), (.const (.int .i64 0)), (.const (.int .i64 100000))]),
 oM 2 4]

def tr90 : List (Nat × Tidy) := [(0, ⟨[1], false, [], []⟩), (1, ⟨[2], false, [], []⟩)]
def tl90 : List (Nat × Tidy) := []
def ac90 : ACode := (.seq (.region ac90_0 [] (some ⟨[1], false, [], []⟩)) (.seq (.region ac90_1 [] (some ⟨[2], false, [], []⟩)) .ret))
def rs90 : List AResV := [.tmp 2]
def ft90 : FnT := ⟨5, tr90, tl90, ac90, rs90⟩
theorem is90 : FnIs Try.prog 90 5 tr90 tl90 ac90 rs90 := ⟨Try.f90, Try.func90, rfl, by kernel_rfl, by kernel_rfl, by kernel_rfl⟩

/-! ### etalon/grow.down -/

def ac91_0 : List AOper := [
 oO 4 (.mv (.const (.int .i64 0)))]

def ac91_1 : List AOper := [
 oM 5 0,
 oM 6 1,
 oO 7 (.bin .quo 3 (.tmp 5) (.tmp 6)),
 oM 4 7]

def tr91 : List (Nat × Tidy) := [(0, ⟨[0, 1], false, [], []⟩), (1, ⟨[4], false, [], []⟩)]
def tl91 : List (Nat × Tidy) := []
def ac91 : ACode := (.seq (.region ac91_0 [] (some ⟨[0, 1], false, [], []⟩)) (.seq (.region ac91_1 [] (some ⟨[4], false, [], []⟩)) .ret))
def rs91 : List AResV := [.tmp 4]
def ft91 : FnT := ⟨8, tr91, tl91, ac91, rs91⟩
theorem is91 : FnIs Try.prog 91 8 tr91 tl91 ac91 rs91 := ⟨Try.f91, Try.func91, rfl, by kernel_rfl, by kernel_rfl, by kernel_rfl⟩

/-! ### etalon/grow.up -/

def ac92_0 : List AOper := [
 oO 4 (.mv (.const (.int .i64 0)))]

def ac92_1 : List AOper := [
 oM 5 0,
 oM 6 1,
 oO 7 (.bin .add 3 (.tmp 5) (.tmp 6)),
 oO 8 (.bin .sub 3 (.tmp 7) (.const (.int .i64 1))),
 oM 9 1,
 oO 10 (.bin .quo 3 (.tmp 8) (.tmp 9)),
 oM 4 10]

def tr92 : List (Nat × Tidy) := [(0, ⟨[0, 1], false, [], []⟩), (1, ⟨[4], false, [], []⟩)]
def tl92 : List (Nat × Tidy) := []
def ac92 : ACode := (.seq (.region ac92_0 [] (some ⟨[0, 1], false, [], []⟩)) (.seq (.region ac92_1 [] (some ⟨[4], false, [], []⟩)) .ret))
def rs92 : List AResV := [.tmp 4]
def ft92 : FnT := ⟨11, tr92, tl92, ac92, rs92⟩
theorem is92 : FnIs Try.prog 92 11 tr92 tl92 ac92 rs92 := ⟨Try.f92, Try.func92, rfl, by kernel_rfl, by kernel_rfl, by kernel_rfl⟩

/-! ### etalon/grow.quarterErr -/

def ac98_0 : List AOper := [
 oO 1 (.box (.tmp 0)),
 oO 2 (.mv (.const (.int .i64 0)))]

def ac98_1 : List AOper := [
 oO 3 (.faddr 0 (.tmp 1)),
 oO 4 (.load false 1 (.tmp 3)),
 oO 5 (.call 78 [(.tmp 4), (.const (.int .i64 5000)), (.const (.int .i64 80000))]),
 oO 6 (.pure (oB (.unOp .not 4 (.tmp 5)) 4)),
 oM 7 6,
 ⟨(some 8), (.faddr 1 (.tmp 1)), (some (7, false))⟩,
 ⟨(some 9), (.load false 1 (.tmp 8)), (some (7, false))⟩,
 ⟨(some 10), (.call 78 [(.tmp 9), (.const (.int .i64 1000)), (.const (.int .i64 200000))]), (some (7, false))⟩,
 ⟨(some 11), (.pure (oB (.unOp .not 4 (.tmp 10)) 4)), (some (7, false))⟩,
 oO 12 (.pick (.tmp 7) (.const (.bool true)) (.tmp 11)),
 oM 13 12,
 ⟨(some 14), (.faddr 2 (.tmp 1)), (some (13, false))⟩,
 ⟨(some 15), (.load false 1 (.tmp 14)), (some (13, false))⟩,
 ⟨(some 16), (.call 78 [(.tmp 15), (.const (.int .i64 1)), (.const (.int .i64 200))]), (some (13, false))⟩,
 ⟨(some 17), (.pure (oB (.unOp .not 4 (.tmp 16)) 4)), (some (13, false))⟩,
 oO 18 (.pick (.tmp 13) (.const (.bool true)) (.tmp 17))]

def ac98_2 : List AOper := [
 oO 2 (.mv (.const (.int .i64 2)))]

def ac98_3 : List AOper := [
 oO 2 (.mv (.const (.int .i64 0)))]

def tr98 : List (Nat × Tidy) := [(0, ⟨[1], false, [], []⟩), (1, ⟨[18], false, [], []⟩), (2, ⟨[2], false, [], []⟩), (3, ⟨[2], false, [], []⟩)]
def tl98 : List (Nat × Tidy) := []
def ac98 : ACode := (.seq (.region ac98_0 [] (some ⟨[1], false, [], []⟩)) (.seq (.seq (.region ac98_1 [] (some ⟨[18], false, [], []⟩)) (.cond (.tmp 18) (.seq (.region ac98_2 [] (some ⟨[2], false, [], []⟩)) .ret) .skip)) (.seq (.region ac98_3 [] (some ⟨[2], false, [], []⟩)) .ret)))
def rs98 : List AResV := [.tmp 2]
def ft98 : FnT := ⟨19, tr98, tl98, ac98, rs98⟩
theorem is98 : FnIs Try.prog 98 19 tr98 tl98 ac98 rs98 := ⟨Try.f98, Try.func98, rfl, by kernel_rfl, by kernel_rfl, by kernel_rfl⟩

/-! ### etalon/grow.thickOf -/

def ac99_0 : List AOper := [
 oO 1 (.box (.tmp 0)),
 oO 2 (.mv (.const (.int .i64 0))),
 oO 3 (.mv (.const (.int .i64 0)))]

def ac99_1 : List AOper := [
 oO 4 (.faddr 2 (.tmp 1)),
 oO 5 (.load false 1 (.tmp 4)),
 oO 6 (.faddr 1 (.tmp 1)),
 oO 7 (.load false 1 (.tmp 6)),
 oO 8 (.bin .mul 3 (.tmp 5) (.tmp 7)),
 oO 9 (.bin .mul 3 (.tmp 8) (.const (.int .i64 10000))),
 oO 10 (.faddr 0 (.tmp 1)),
 oO 11 (.load false 1 (.tmp 10)),
 oO 12 (.bin .mul 3 (.const (.int .i64 4)) (.tmp 11)),
 oM 2 9,
 oM 3 12]

def tr99 : List (Nat × Tidy) := [(0, ⟨[1], false, [], []⟩), (1, ⟨[2, 3], false, [], []⟩)]
def tl99 : List (Nat × Tidy) := []
def ac99 : ACode := (.seq (.region ac99_0 [] (some ⟨[1], false, [], []⟩)) (.seq (.region ac99_1 [] (some ⟨[2, 3], false, [], []⟩)) .ret))
def rs99 : List AResV := [.tmp 2, .tmp 3]
def ft99 : FnT := ⟨13, tr99, tl99, ac99, rs99⟩
theorem is99 : FnIs Try.prog 99 13 tr99 tl99 ac99 rs99 := ⟨Try.f99, Try.func99, rfl, by kernel_rfl, by kernel_rfl, by kernel_rfl⟩

/-! ### etalon/grow.isName -/

def ac100_0 : List AOper := [
 oO 2 (.mv (.const (.bool false)))]

def ac100_1 : List AOper := [
 oM 6 0,
 oO 7 (.bytes (.tmp 6)),
 oO 8 (.len (.tmp 7)),
 oO 9 (.mv (.const (.int .i64 0)))]

def ac100_2 : List AOper := [
 oO 10 (.bin .lss 3 (.tmp 9) (.tmp 8))]

def ac100_3 : List AOper := [
 oM 11 9,
 oO 12 (.iaddr 1 none (.tmp 7) (.tmp 9)),
 oO 13 (.load false 1 (.tmp 12)),
 oM 3 11,
 oM 4 13]

def ac100_4 : List AOper := [
 oM 14 4,
 oO 15 (.bin .geq 5 (.tmp 14) (.const (.int .u8 97))),
 oM 16 15,
 ⟨(some 17), (.mv (.tmp 4)), (some (16, true))⟩,
 ⟨(some 18), (.bin .leq 5 (.tmp 17) (.const (.int .u8 122))), (some (16, true))⟩,
 oO 19 (.pick (.tmp 16) (.tmp 18) (.const (.bool false))),
 oM 20 19,
 ⟨(some 21), (.mv (.tmp 4)), (some (20, false))⟩,
 ⟨(some 22), (.bin .geq 5 (.tmp 21) (.const (.int .u8 65))), (some (20, false))⟩,
 ⟨(some 23), (.mv (.tmp 22)), (some (20, false))⟩,
 ⟨(some 24), (.mv (.tmp 4)), (some (23, true))⟩,
 ⟨(some 25), (.bin .leq 5 (.tmp 24) (.const (.int .u8 90))), (some (23, true))⟩,
 ⟨(some 26), (.pick (.tmp 23) (.tmp 25) (.const (.bool false))), (some (20, false))⟩,
 oO 27 (.pick (.tmp 20) (.const (.bool true)) (.tmp 26)),
 oM 5 27]

def ac100_5 : List AOper := [
 oM 28 5,
 oO 29 (.pure (oB (.unOp .not 4 (.tmp 28)) 4)),
 oM 30 29,
 ⟨(some 31), (.mv (.tmp 3)), (some (30, true))⟩,
 ⟨(some 32), (.bin .eql 3 (.tmp 31) (.const (.int .i64 0))), (some (30, true))⟩,
 ⟨(some 33), (.mv (.tmp 32)), (some (30, true))⟩,
 ⟨(some 34), (.mv (.tmp 4)), (some (33, false))⟩,
 ⟨(some 35), (.bin .neq 5 (.tmp 34) (.const (.int .u8 45))), (some (33, false))⟩,
 ⟨(some 36), (.mv (.tmp 35)), (some (33, false))⟩,
 ⟨(some 37), (.mv (.tmp 4)), (some (36, true))⟩,
 ⟨(some 38), (.bin .lss 5 (.tmp 37) (.const (.int .u8 48))), (some (36, true))⟩,
 ⟨(some 39), (.mv (.tmp 38)), (some (36, true))⟩,
 ⟨(some 40), (.mv (.tmp 4)), (some (39, false))⟩,
 ⟨(some 41), (.bin .gtr 5 (.tmp 40) (.const (.int .u8 57))), (some (39, false))⟩,
 ⟨(some 42), (.pick (.tmp 39) (.const (.bool true)) (.tmp 41)), (some (36, true))⟩,
 ⟨(some 43), (.pick (.tmp 36) (.tmp 42) (.const (.bool false))), (some (33, false))⟩,
 ⟨(some 44), (.pick (.tmp 33) (.const (.bool true)) (.tmp 43)), (some (30, true))⟩,
 oO 45 (.pick (.tmp 30) (.tmp 44) (.const (.bool false)))]

def ac100_6 : List AOper := [
 oO 2 (.mv (.const (.bool false)))]

def ac100_7 : List AOper := [
 oO 46 (.bin .add 3 (.tmp 9) (.const (.int .i64 1))),
 oM 9 46]

def ac100_8 : List AOper := [
 oM 47 0,
 ⟨(some 48), (.bin .neq 9 (.tmp 47) (.const (.string ⟨#[]⟩))), none⟩,
 oM 49 48,
 ⟨(some 50), (.mv (.tmp 0)), (some (49, true))⟩,
 ⟨(some 51), (.pure (oB (.call { callee := .builtin .len, args := #[(.tmp 50)], argTypes := #[9] }) 3)), (some (49, true))⟩,
 ⟨(some 52), (.bin .leq 3 (.tmp 51) (.const (.int .i64 12))), (some (49, true))⟩,
 oO 53 (.pick (.tmp 49) (.tmp 52) (.const (.bool false))),
 oM 2 53]

def tr100 : List (Nat × Tidy) := [(0, ⟨[0], false, [], []⟩), (1, ⟨[0, 7, 8, 9], false, [], []⟩), (2, ⟨[0, 7, 8, 9, 10], false, [], []⟩), (3, ⟨[0, 3, 4, 7, 8, 9], false, [], []⟩), (4, ⟨[0, 3, 4, 5, 7, 8, 9], false, [], []⟩), (5, ⟨[0, 7, 8, 9, 45], false, [], []⟩), (6, ⟨[2], false, [], []⟩), (7, ⟨[0, 7, 8, 9], false, [], []⟩), (8, ⟨[2], false, [], []⟩)]
def tl100 : List (Nat × Tidy) := [(2, ⟨[0, 7, 8, 9], true, [⟨false, 7, 0, 20007, 0⟩, ⟨false, 9, 0, 20009, 0⟩], []⟩)]
def ac100 : ACode := (.seq (.region ac100_0 [] (some ⟨[0], false, [], []⟩)) (.seq (.seq (.region ac100_1 [] (some ⟨[0, 7, 8, 9], false, [], []⟩)) (.block 0 (.loop (some ⟨[0, 7, 8, 9], true, [⟨false, 7, 0, 20007, 0⟩, ⟨false, 9, 0, 20009, 0⟩], []⟩) (.seq (.region ac100_2 [] (some ⟨[0, 7, 8, 9, 10], false, [], []⟩)) (.seq (.cond (.tmp 10) .skip (.exit 0)) (.seq (.block 1 (.seq (.region ac100_3 [] (some ⟨[0, 3, 4, 7, 8, 9], false, [], []⟩)) (.seq (.region ac100_4 [] (some ⟨[0, 3, 4, 5, 7, 8, 9], false, [], []⟩)) (.seq (.region ac100_5 [] (some ⟨[0, 7, 8, 9, 45], false, [], []⟩)) (.cond (.tmp 45) (.seq (.region ac100_6 [] (some ⟨[2], false, [], []⟩)) .ret) .skip))))) (.region ac100_7 [] (some ⟨[0, 7, 8, 9], false, [], []⟩)))))))) (.seq (.region ac100_8 [] (some ⟨[2], false, [], []⟩)) .ret)))
def rs100 : List AResV := [.tmp 2]
def ft100 : FnT := ⟨54, tr100, tl100, ac100, rs100⟩
theorem is100 : FnIs Try.prog 100 54 tr100 tl100 ac100 rs100 := ⟨Try.f100, Try.func100, rfl, by kernel_rfl, by kernel_rfl, by kernel_rfl⟩

/-! ### slices.Contains[[]string,string] -/

def ac101_0 : List AOper := [
 oO 4 (.mv (.const (.bool false)))]

def ac101_1 : List AOper := [
 oM 5 0,
 oM 6 1,
 oO 7 (.call 125 [(.tmp 5), (.tmp 6)]),
 oO 8 (.bin .geq 3 (.tmp 7) (.const (.int .i64 0))),
 oM 4 8]

def tr101 : List (Nat × Tidy) := [(0, ⟨[0, 1], false, [], []⟩), (1, ⟨[4], false, [], []⟩)]
def tl101 : List (Nat × Tidy) := []
def ac101 : ACode := (.seq (.region ac101_0 [] (some ⟨[0, 1], false, [], []⟩)) (.seq (.region ac101_1 [] (some ⟨[4], false, [], []⟩)) .ret))
def rs101 : List AResV := [.tmp 4]
def ft101 : FnT := ⟨9, tr101, tl101, ac101, rs101⟩
theorem is101 : FnIs Try.prog 101 9 tr101 tl101 ac101 rs101 := ⟨Try.f101, Try.func101, rfl, by kernel_rfl, by kernel_rfl, by kernel_rfl⟩

/-! ### etalon/grow.open -/

def ac103_0 : List AOper := [
 oO 2 (.box (.tmp 0)),
 oO 4 (.alloc [.nils, .nils]),
 oO 5 (.mv (.const (.slice none 0 0))),
 oO 6 (.mv (.const (.int .i64 0)))]

def ac103_1 : List AOper := [
 oO 13 (.load true 2 (.tmp 2)),
 oO 14 (.call 45 [(.tmp 13)]),
 oM 12 14,
 oO 15 (.extract 0 (.tmp 12)),
 oO 16 (.extract 1 (.tmp 12)),
 oM 7 15,
 oM 8 16]

def ac103_2 : List AOper := [
 oM 17 8,
 oO 18 (.bin .neq 32 (.tmp 17) (.const (.int .i64 0)))]

def ac103_3 : List AOper := [
 oO 19 (.build [.nils, .nils] []),
 oM 20 8,
  ⟨none, (.store 2 (.tmp 4) (.tmp 19)), none⟩,
 oO 5 (.mv (.const (.slice none 0 0))),
 oM 6 20]

def ac103_4 : List AOper := [
 oO 9 (.mv (.const (.slice none 0 0)))]

def ac103_5 : List AOper := [
 oM 21 1,
 oO 22 (.len (.tmp 21)),
 oO 23 (.mv (.const (.int .i64 0)))]

def ac103_6 : List AOper := [
 oO 24 (.bin .lss 3 (.tmp 23) (.tmp 22))]

def ac103_7 : List AOper := [
 oO 25 (.iaddr 1 none (.tmp 21) (.tmp 23)),
 oO 26 (.load false 1 (.tmp 25)),
 oM 11 26]

def ac103_8 : List AOper := [
 oM 27 11,
 oO 28 (.len (.tmp 27)),
 oO 29 (.faddr 0 (.tmp 2)),
 oO 30 (.load false 1 (.tmp 29)),
 oO 31 (.len (.tmp 30)),
 oO 32 (.bin .neq 3 (.tmp 28) (.tmp 31))]

def ac103_9 : List AOper := [
 oO 33 (.build [.nils, .nils] []),
  ⟨none, (.store 2 (.tmp 4) (.tmp 33)), none⟩,
 oO 5 (.mv (.const (.slice none 0 0))),
 oO 6 (.mv (.const (.int .i64 12)))]

def ac103_10 : List AOper := [
 oM 34 9,
 oM 35 11,
 oO 36 (.call 126 [(.tmp 35)]),
 oO 37 (.bslice 1 1 [(.v (.int .i64 0))] [(0, (.tmp 36))]),
 oO 38 (.append 1 8 (.tmp 34) (.tmp 37)),
 oM 9 38]

def ac103_11 : List AOper := [
 oO 39 (.bin .add 3 (.tmp 23) (.const (.int .i64 1))),
 oM 23 39]

def ac103_12 : List AOper := [
 oO 40 (.load true 2 (.tmp 2)),
 oO 41 (.build [.nils, .nils] [(0, 2, (.tmp 40))]),
 oM 42 9,
  ⟨none, (.store 2 (.tmp 4) (.tmp 41)), none⟩,
 oM 5 42,
 oO 6 (.mv (.const (.int .i64 0)))]

def tr103 : List (Nat × Tidy) := [(0, ⟨[1, 2, 4], false, [], []⟩), (1, ⟨[1, 2, 4, 8], false, [], []⟩), (2, ⟨[1, 2, 4, 8, 18], false, [], []⟩), (3, ⟨[4, 5, 6], false, [], []⟩), (4, ⟨[1, 2, 4, 9], false, [], []⟩), (5, ⟨[2, 4, 9, 21, 22, 23], false, [], []⟩), (6, ⟨[2, 4, 9, 21, 22, 23, 24], false, [], []⟩), (7, ⟨[2, 4, 9, 11, 21, 22, 23], false, [], []⟩), (8, ⟨[2, 4, 9, 11, 21, 22, 23, 32], false, [], []⟩), (9, ⟨[4, 5, 6], false, [], []⟩), (10, ⟨[2, 4, 9, 21, 22, 23], false, [], []⟩), (11, ⟨[2, 4, 9, 21, 22, 23], false, [], []⟩), (12, ⟨[4, 5, 6], false, [], []⟩)]
def tl103 : List (Nat × Tidy) := [(6, ⟨[2, 4, 9, 21, 22, 23], true, [⟨false, 9, 0, 20009, 0⟩, ⟨false, 21, 0, 20021, 0⟩, ⟨false, 23, 0, 20023, 0⟩, ⟨true, 4, 0, 30400, 0⟩, ⟨true, 4, 1, 30401, 0⟩], []⟩)]
def ac103 : ACode := (.seq (.region ac103_0 [] (some ⟨[1, 2, 4], false, [], []⟩)) (.seq (.seq (.region ac103_1 [] (some ⟨[1, 2, 4, 8], false, [], []⟩)) (.seq (.region ac103_2 [] (some ⟨[1, 2, 4, 8, 18], false, [], []⟩)) (.cond (.tmp 18) (.seq (.region ac103_3 [] (some ⟨[4, 5, 6], false, [], []⟩)) .ret) .skip))) (.seq (.region ac103_4 [] (some ⟨[1, 2, 4, 9], false, [], []⟩)) (.seq (.seq (.region ac103_5 [] (some ⟨[2, 4, 9, 21, 22, 23], false, [], []⟩)) (.block 0 (.loop (some ⟨[2, 4, 9, 21, 22, 23], true, [⟨false, 9, 0, 20009, 0⟩, ⟨false, 21, 0, 20021, 0⟩, ⟨false, 23, 0, 20023, 0⟩, ⟨true, 4, 0, 30400, 0⟩, ⟨true, 4, 1, 30401, 0⟩], []⟩) (.seq (.region ac103_6 [] (some ⟨[2, 4, 9, 21, 22, 23, 24], false, [], []⟩)) (.seq (.cond (.tmp 24) .skip (.exit 0)) (.seq (.block 1 (.seq (.region ac103_7 [] (some ⟨[2, 4, 9, 11, 21, 22, 23], false, [], []⟩)) (.seq (.seq (.region ac103_8 [] (some ⟨[2, 4, 9, 11, 21, 22, 23, 32], false, [], []⟩)) (.cond (.tmp 32) (.seq (.region ac103_9 [] (some ⟨[4, 5, 6], false, [], []⟩)) .ret) .skip)) (.region ac103_10 [] (some ⟨[2, 4, 9, 21, 22, 23], false, [], []⟩))))) (.region ac103_11 [] (some ⟨[2, 4, 9, 21, 22, 23], false, [], []⟩)))))))) (.seq (.region ac103_12 [] (some ⟨[4, 5, 6], false, [], []⟩)) .ret)))))
def rs103 : List AResV := [.cell 4 true 2, .tmp 5, .tmp 6]
def ft103 : FnT := ⟨43, tr103, tl103, ac103, rs103⟩
theorem is103 : FnIs Try.prog 103 43 tr103 tl103 ac103 rs103 := ⟨Try.f103, Try.func103, rfl, by kernel_rfl, by kernel_rfl, by kernel_rfl⟩

/-! ### (etalon/grow.chamber).broken -/

def ac104_0 : List AOper := [
 oO 2 (.box (.tmp 0)),
 oO 3 (.box (.tmp 1)),
 oO 4 (.mv (.const (.int .i64 0)))]

def ac104_1 : List AOper := [
 oO 5 (.faddr 0 (.tmp 2)),
 oO 6 (.faddr 1 (.tmp 5)),
 oO 7 (.load false 1 (.tmp 6)),
 oO 8 (.mkfn 128 [(.tmp 3)]),
 oO 9 (.call 127 [(.tmp 7), (.tmp 8)]),
 oM 4 9]

def tr104 : List (Nat × Tidy) := [(0, ⟨[2, 3], false, [], []⟩), (1, ⟨[4], false, [], []⟩)]
def tl104 : List (Nat × Tidy) := []
def ac104 : ACode := (.seq (.region ac104_0 [] (some ⟨[2, 3], false, [], []⟩)) (.seq (.region ac104_1 [] (some ⟨[4], false, [], []⟩)) .ret))
def rs104 : List AResV := [.tmp 4]
def ft104 : FnT := ⟨10, tr104, tl104, ac104, rs104⟩
theorem is104 : FnIs Try.prog 104 10 tr104 tl104 ac104 rs104 := ⟨Try.f104, Try.func104, rfl, by kernel_rfl, by kernel_rfl, by kernel_rfl⟩

/-! ### (etalon/grow.state).switched -/

def ac105_0 : List AOper := [
 oO 4 (.mv (.const (.int .i64 0)))]

def ac105_1 : List AOper := [
 oM 5 0,
 oM 6 1,
 oO 7 (.bin .shl 171 (.const (.int .i64 1)) (.tmp 6)),
 oO 8 (.bin .xor 171 (.tmp 5) (.tmp 7)),
 oM 4 8]

def tr105 : List (Nat × Tidy) := [(0, ⟨[0, 1], false, [], []⟩), (1, ⟨[4], false, [], []⟩)]
def tl105 : List (Nat × Tidy) := []
def ac105 : ACode := (.seq (.region ac105_0 [] (some ⟨[0, 1], false, [], []⟩)) (.seq (.region ac105_1 [] (some ⟨[4], false, [], []⟩)) .ret))
def rs105 : List AResV := [.tmp 4]
def ft105 : FnT := ⟨9, tr105, tl105, ac105, rs105⟩
theorem is105 : FnIs Try.prog 105 9 tr105 tl105 ac105 rs105 := ⟨Try.f105, Try.func105, rfl, by kernel_rfl, by kernel_rfl, by kernel_rfl⟩

/-! ### etalon/grow.openChange -/

def ac109_0 : List AOper := [
 oO 2 (.box (.tmp 0)),
 oO 3 (.box (.tmp 1)),
 oO 4 (.alloc [.nils, .nils, (.d (.v (.int .i64 0))), (.d (.v (.int .i64 0)))]),
 oO 5 (.mv (.const (.int .i64 0)))]

def ac109_1 : List AOper := [
 oO 11 (.load true 2 (.tmp 2)),
 oO 12 (.faddr 0 (.tmp 3)),
 oO 13 (.load false 1 (.tmp 12)),
 oO 14 (.faddr 1 (.tmp 3)),
 oO 15 (.load false 1 (.tmp 14)),
 oO 16 (.bslice 1 2 [(.sl [])] [(0, (.tmp 13)), (1, (.tmp 15))]),
 oO 17 (.call 103 [(.tmp 11), (.tmp 16)]),
 oM 10 17,
 oO 18 (.extract 0 (.tmp 10)),
 oO 19 (.extract 1 (.tmp 10)),
 oO 20 (.extract 2 (.tmp 10)),
 oO 6 (.alloc [.nils, .nils]),
  ⟨none, (.store 2 (.tmp 6) (.tmp 18)), none⟩,
 oM 7 19,
 oM 8 20]

def ac109_2 : List AOper := [
 oM 21 8,
 oO 22 (.bin .neq 32 (.tmp 21) (.const (.int .i64 0)))]

def ac109_3 : List AOper := [
 oO 23 (.build [.nils, .nils, (.d (.v (.int .i64 0))), (.d (.v (.int .i64 0)))] []),
 oM 24 8,
  ⟨none, (.store 4 (.tmp 4) (.tmp 23)), none⟩,
 oM 5 24]

def ac109_4 : List AOper := [
 oO 25 (.load true 2 (.tmp 6)),
 oM 26 7,
 oO 27 (.iaddr 1 none (.tmp 26) (.const (.int .i64 0))),
 oO 28 (.load false 1 (.tmp 27)),
 oM 29 7,
 oO 30 (.iaddr 1 none (.tmp 29) (.const (.int .i64 1))),
 oO 31 (.load false 1 (.tmp 30)),
 oO 32 (.build [.nils, .nils, (.d (.v (.int .i64 0))), (.d (.v (.int .i64 0)))] [(0, 2, (.tmp 25)), (2, 1, (.tmp 28)), (3, 1, (.tmp 31))]),
 oO 9 (.alloc [.nils, .nils, (.d (.v (.int .i64 0))), (.d (.v (.int .i64 0)))]),
  ⟨none, (.store 4 (.tmp 9) (.tmp 32)), none⟩]

def ac109_5 : List AOper := [
 oO 33 (.load true 2 (.tmp 6)),
 oO 34 (.faddr 2 (.tmp 9)),
 oO 35 (.load false 1 (.tmp 34)),
 oO 36 (.call 116 [(.tmp 33), (.tmp 35)]),
 oO 37 (.pure (oB (.unOp .not 4 (.tmp 36)) 4)),
 oM 38 37,
 ⟨(some 39), (.load true 2 (.tmp 6)), (some (38, false))⟩,
 ⟨(some 40), (.faddr 3 (.tmp 9)), (some (38, false))⟩,
 ⟨(some 41), (.load false 1 (.tmp 40)), (some (38, false))⟩,
 ⟨(some 42), (.call 116 [(.tmp 39), (.tmp 41)]), (some (38, false))⟩,
 ⟨(some 43), (.pure (oB (.unOp .not 4 (.tmp 42)) 4)), (some (38, false))⟩,
 oO 44 (.pick (.tmp 38) (.const (.bool true)) (.tmp 43))]

def ac109_6 : List AOper := [
 oO 45 (.build [.nils, .nils, (.d (.v (.int .i64 0))), (.d (.v (.int .i64 0)))] []),
  ⟨none, (.store 4 (.tmp 4) (.tmp 45)), none⟩,
 oO 5 (.mv (.const (.int .i64 24)))]

def ac109_7 : List AOper := [
 oO 46 (.load true 4 (.tmp 9)),
  ⟨none, (.store 4 (.tmp 4) (.tmp 46)), none⟩,
 oO 5 (.mv (.const (.int .i64 0)))]

def tr109 : List (Nat × Tidy) := [(0, ⟨[2, 3, 4], false, [], []⟩), (1, ⟨[4, 6, 7, 8], false, [], []⟩), (2, ⟨[4, 6, 7, 8, 22], false, [], []⟩), (3, ⟨[4, 5], false, [], []⟩), (4, ⟨[4, 6, 9], false, [], []⟩), (5, ⟨[4, 9, 44], false, [], []⟩), (6, ⟨[4, 5], false, [], []⟩), (7, ⟨[4, 5], false, [], []⟩)]
def tl109 : List (Nat × Tidy) := []
def ac109 : ACode := (.seq (.region ac109_0 [] (some ⟨[2, 3, 4], false, [], []⟩)) (.seq (.region ac109_1 [] (some ⟨[4, 6, 7, 8], false, [], []⟩)) (.seq (.seq (.region ac109_2 [] (some ⟨[4, 6, 7, 8, 22], false, [], []⟩)) (.cond (.tmp 22) (.seq (.region ac109_3 [] (some ⟨[4, 5], false, [], []⟩)) .ret) .skip)) (.seq (.region ac109_4 [(0, 8), (2, 8), (3, 8), (5, 8), (6, 8)] (some ⟨[4, 6, 9], false, [], []⟩)) (.seq (.seq (.region ac109_5 [] (some ⟨[4, 9, 44], false, [], []⟩)) (.cond (.tmp 44) (.seq (.region ac109_6 [] (some ⟨[4, 5], false, [], []⟩)) .ret) .skip)) (.seq (.region ac109_7 [] (some ⟨[4, 5], false, [], []⟩)) .ret))))))
def rs109 : List AResV := [.cell 4 true 4, .tmp 5]
def ft109 : FnT := ⟨47, tr109, tl109, ac109, rs109⟩
theorem is109 : FnIs Try.prog 109 47 tr109 tl109 ac109 rs109 := ⟨Try.f109, Try.func109, rfl, by kernel_rfl, by kernel_rfl, by kernel_rfl⟩

/-! ### (etalon/grow.chamber).labels -/

def ac110_0 : List AOper := [
 oO 2 (.box (.tmp 0)),
 oO 4 (.mv (.const (.slice none 0 0)))]

def ac110_1 : List AOper := [
 oO 10 (.bslice 1 1 [(.v (.int .i64 0))] [(0, (.const (.int .i64 1000)))]),
 oO 11 (.faddr 0 (.tmp 2)),
 oO 12 (.faddr 0 (.tmp 11)),
 oO 13 (.load false 1 (.tmp 12)),
 oO 14 (.len (.tmp 13)),
 oO 15 (.bin .shl 3 (.const (.int .i64 1)) (.tmp 14)),
 oO 16 (.call 130 [(.tmp 10), (.tmp 15)]),
 oO 5 (.alloc [.nils]),
  ⟨none, (.store 1 (.tmp 5) (.tmp 16)), none⟩]

def ac110_2 : List AOper := [
 oO 17 (.load false 1 (.tmp 5)),
 oM 18 1,
 oO 19 (.iaddr 1 none (.tmp 17) (.tmp 18)),
  ⟨none, (.store 1 (.tmp 19) (.const (.int .i64 0))), none⟩]

def ac110_3 : List AOper := [
 oM 20 1,
 oO 21 (.bslice 1 1 [(.v (.int .i64 0))] [(0, (.tmp 20))]),
 oO 6 (.alloc [.nils]),
  ⟨none, (.store 1 (.tmp 6) (.tmp 21)), none⟩]

def ac110_4 : List AOper := [
 oO 22 (.load false 1 (.tmp 6)),
 oO 23 (.len (.tmp 22)),
 oO 24 (.bin .gtr 3 (.tmp 23) (.const (.int .i64 0)))]

def ac110_5 : List AOper := [
 oO 25 (.load false 1 (.tmp 6)),
 oO 26 (.iaddr 1 none (.tmp 25) (.const (.int .i64 0))),
 oO 27 (.load false 1 (.tmp 26)),
 oO 7 (.alloc [(.d (.v (.int .i64 0)))]),
  ⟨none, (.store 1 (.tmp 7) (.tmp 27)), none⟩]

def ac110_6 : List AOper := [
 oO 28 (.load false 1 (.tmp 6)),
 oO 29 (.slice 1 true (.tmp 28) (some (.const (.int .i64 1))) none),
  ⟨none, (.store 1 (.tmp 6) (.tmp 29)), none⟩]

def ac110_7 : List AOper := [
 oO 30 (.load true 2 (.tmp 2)),
 oO 31 (.load false 1 (.tmp 7)),
 oO 32 (.call 111 [(.tmp 30), (.tmp 31)])]

def ac110_8 : List AOper := [
 oM 9 34]

def ac110_9 : List AOper := [
 oO 35 (.load false 1 (.tmp 5)),
 oM 36 9,
 oO 37 (.iaddr 1 none (.tmp 35) (.tmp 36)),
 oO 38 (.load false 1 (.tmp 37)),
 oO 39 (.bin .eql 3 (.tmp 38) (.const (.int .i64 1000)))]

def ac110_10 : List AOper := [
 oO 40 (.load false 1 (.tmp 5)),
 oM 41 9,
 oO 42 (.load false 1 (.tmp 5)),
 oO 43 (.load false 1 (.tmp 7)),
 oO 44 (.iaddr 1 none (.tmp 42) (.tmp 43)),
 oO 45 (.load false 1 (.tmp 44)),
 oO 46 (.bin .add 3 (.tmp 45) (.const (.int .i64 1))),
 oO 47 (.iaddr 1 none (.tmp 40) (.tmp 41)),
  ⟨none, (.store 1 (.tmp 47) (.tmp 46)), none⟩]

def ac110_11 : List AOper := [
 oO 48 (.load false 1 (.tmp 6)),
 oM 49 9,
 oO 50 (.bslice 1 1 [(.v (.int .i64 0))] [(0, (.tmp 49))]),
 oO 51 (.append 1 8 (.tmp 48) (.tmp 50)),
  ⟨none, (.store 1 (.tmp 6) (.tmp 51)), none⟩]

def ac110_12 : List AOper := [
 oO 52 (.load false 1 (.tmp 5)),
 oM 4 52]

def tr110 : List (Nat × Tidy) := [(0, ⟨[1, 2, 4], false, [], []⟩), (1, ⟨[1, 2, 4, 5], false, [], []⟩), (2, ⟨[1, 2, 4, 5], false, [], []⟩), (3, ⟨[2, 4, 5, 6], false, [], []⟩), (4, ⟨[2, 4, 5, 6, 24], false, [], []⟩), (5, ⟨[2, 4, 5, 6, 7], false, [], []⟩), (6, ⟨[2, 4, 5, 6, 7], false, [], []⟩), (7, ⟨[2, 4, 5, 6, 7, 32], false, [], []⟩), (8, ⟨[2, 4, 5, 6, 7, 9], false, [], []⟩), (9, ⟨[2, 4, 5, 6, 7, 9, 39], false, [], []⟩), (10, ⟨[2, 4, 5, 6, 7, 9], false, [], []⟩), (11, ⟨[2, 4, 5, 6, 7], false, [], []⟩), (12, ⟨[4], false, [], []⟩), (1000029, ⟨[], false, [], []⟩)]
def tl110 : List (Nat × Tidy) := [(4, ⟨[2, 4, 5, 6], true, [⟨false, 4, 0, 20004, 0⟩, ⟨true, 5, 0, 30500, 0⟩, ⟨true, 6, 0, 30600, 0⟩], []⟩), (9, ⟨[2, 4, 5, 6, 7], true, [⟨false, 4, 0, 20004, 0⟩, ⟨true, 5, 0, 30500, 0⟩, ⟨true, 6, 0, 30600, 0⟩], []⟩)]
def ac110 : ACode := (.seq (.region ac110_0 [] (some ⟨[1, 2, 4], false, [], []⟩)) (.seq (.region ac110_1 [] (some ⟨[1, 2, 4, 5], false, [], []⟩)) (.seq (.region ac110_2 [] (some ⟨[1, 2, 4, 5], false, [], []⟩)) (.seq (.region ac110_3 [] (some ⟨[2, 4, 5, 6], false, [], []⟩)) (.seq (.block 0 (.loop (some ⟨[2, 4, 5, 6], true, [⟨false, 4, 0, 20004, 0⟩, ⟨true, 5, 0, 30500, 0⟩, ⟨true, 6, 0, 30600, 0⟩], []⟩) (.seq (.seq (.region ac110_4 [] (some ⟨[2, 4, 5, 6, 24], false, [], []⟩)) (.cond (.tmp 24) .skip (.exit 0))) (.block 1 (.seq (.region ac110_5 [] (some ⟨[2, 4, 5, 6, 7], false, [], []⟩)) (.seq (.region ac110_6 [] (some ⟨[2, 4, 5, 6, 7], false, [], []⟩)) (.seq (.region ac110_7 [] (some ⟨[2, 4, 5, 6, 7, 32], false, [], []⟩)) (.block 2 (.rangeF (.tmp 32) [33, 34] (some ⟨[2, 4, 5, 6, 7], true, [⟨false, 4, 0, 20004, 0⟩, ⟨true, 5, 0, 30500, 0⟩, ⟨true, 6, 0, 30600, 0⟩], []⟩) (.region ac110_8 [] (some ⟨[2, 4, 5, 6, 7, 9], false, [], []⟩)) (.block 3 (.seq (.region ac110_9 [] (some ⟨[2, 4, 5, 6, 7, 9, 39], false, [], []⟩)) (.cond (.tmp 39) (.seq (.region ac110_10 [] (some ⟨[2, 4, 5, 6, 7, 9], false, [], []⟩)) (.region ac110_11 [] (some ⟨[2, 4, 5, 6, 7], false, [], []⟩))) .skip)))))))))))) (.seq (.region ac110_12 [] (some ⟨[4], false, [], []⟩)) .ret))))))
def rs110 : List AResV := [.tmp 4]
def ft110 : FnT := ⟨53, tr110, tl110, ac110, rs110⟩
theorem is110 : FnIs Try.prog 110 53 tr110 tl110 ac110 rs110 := ⟨Try.f110, Try.func110, rfl, by kernel_rfl, by kernel_rfl, by kernel_rfl⟩

/-! ### (etalon/grow.chamber).next -/

def ac111_0 : List AOper := [
 oO 2 (.box (.tmp 0)),
 oO 3 (.box (.tmp 1)),
 oO 4 (.mv (.const .nilFunc))]

def ac111_1 : List AOper := [
 oO 5 (.mkfn 131 [(.tmp 2), (.tmp 3)]),
 oM 4 5]

def tr111 : List (Nat × Tidy) := [(0, ⟨[2, 3], false, [], []⟩), (1, ⟨[4], false, [], []⟩)]
def tl111 : List (Nat × Tidy) := []
def ac111 : ACode := (.seq (.region ac111_0 [] (some ⟨[2, 3], false, [], []⟩)) (.seq (.region ac111_1 [] (some ⟨[4], false, [], []⟩)) .ret))
def rs111 : List AResV := [.tmp 4]
def ft111 : FnT := ⟨6, tr111, tl111, ac111, rs111⟩
theorem is111 : FnIs Try.prog 111 6 tr111 tl111 ac111 rs111 := ⟨Try.f111, Try.func111, rfl, by kernel_rfl, by kernel_rfl, by kernel_rfl⟩

/-! ### (etalon/grow.chamber).safe -/

def ac116_0 : List AOper := [
 oO 2 (.box (.tmp 0)),
 oO 4 (.mv (.const (.bool false)))]

def ac116_1 : List AOper := [
 oO 5 (.load true 2 (.tmp 2)),
 oM 6 1,
 oO 7 (.call 104 [(.tmp 5), (.tmp 6)]),
 oO 8 (.bin .lss 3 (.tmp 7) (.const (.int .i64 0))),
 oM 4 8]

def tr116 : List (Nat × Tidy) := [(0, ⟨[1, 2], false, [], []⟩), (1, ⟨[4], false, [], []⟩)]
def tl116 : List (Nat × Tidy) := []
def ac116 : ACode := (.seq (.region ac116_0 [] (some ⟨[1, 2], false, [], []⟩)) (.seq (.region ac116_1 [] (some ⟨[4], false, [], []⟩)) .ret))
def rs116 : List AResV := [.tmp 4]
def ft116 : FnT := ⟨9, tr116, tl116, ac116, rs116⟩
theorem is116 : FnIs Try.prog 116 9 tr116 tl116 ac116 rs116 := ⟨Try.f116, Try.func116, rfl, by kernel_rfl, by kernel_rfl, by kernel_rfl⟩

/-! ### etalon/grow.ordered -/

def ac117_0 : List AOper := [
 oO 3 (.box (.tmp 0)),
 oO 6 (.mv (.const (.int .i64 0)))]

def ac117_1 : List AOper := [
 oO 8 (.load true 2 (.tmp 3)),
 oM 9 1,
 oM 10 2,
 oO 11 (.call 132 [(.tmp 8), (.tmp 9), (.tmp 10)]),
 oO 12 (.pure (oB (.unOp .not 4 (.tmp 11)) 4)),
 oM 7 12]

def ac117_2 : List AOper := [
 oO 6 (.mv (.const (.int .i64 2)))]

def ac117_3 : List AOper := [
 oO 14 (.faddr 0 (.tmp 3)),
 oO 15 (.load false 1 (.tmp 14)),
 oO 16 (.faddr 1 (.tmp 3)),
 oO 17 (.load false 1 (.tmp 16)),
 oO 18 (.bin .gtr 3 (.tmp 15) (.tmp 17)),
 oM 13 18]

def ac117_4 : List AOper := [
 oO 6 (.mv (.const (.int .i64 10)))]

def ac117_5 : List AOper := [
 oO 6 (.mv (.const (.int .i64 0)))]

def tr117 : List (Nat × Tidy) := [(0, ⟨[1, 2, 3], false, [], []⟩), (1, ⟨[3, 7], false, [], []⟩), (2, ⟨[6], false, [], []⟩), (3, ⟨[13], false, [], []⟩), (4, ⟨[6], false, [], []⟩), (5, ⟨[6], false, [], []⟩)]
def tl117 : List (Nat × Tidy) := []
def ac117 : ACode := (.seq (.region ac117_0 [] (some ⟨[1, 2, 3], false, [], []⟩)) (.seq (.block 0 (.seq (.region ac117_1 [] (some ⟨[3, 7], false, [], []⟩)) (.cond (.tmp 7) (.seq (.region ac117_2 [] (some ⟨[6], false, [], []⟩)) .ret) (.seq (.region ac117_3 [] (some ⟨[13], false, [], []⟩)) (.cond (.tmp 13) (.seq (.region ac117_4 [] (some ⟨[6], false, [], []⟩)) .ret) .skip))))) (.seq (.region ac117_5 [] (some ⟨[6], false, [], []⟩)) .ret)))
def rs117 : List AResV := [.tmp 6]
def ft117 : FnT := ⟨19, tr117, tl117, ac117, rs117⟩
theorem is117 : FnIs Try.prog 117 19 tr117 tl117 ac117 rs117 := ⟨Try.f117, Try.func117, rfl, by kernel_rfl, by kernel_rfl, by kernel_rfl⟩

/-! ### math.trunc -/

def ac122_0 : List AOper := [
 oO 2 (.mv (.const (.float Go.FloatKind.f64 0)))]

def ac122_1 : List AOper := [
 oM 5 0,
 oO 6 (.call 123 [(.tmp 5)]),
 oO 7 (.bin .lss 141 (.tmp 6) (.const (.float Go.FloatKind.f64 4607182418800017408)))]

def ac122_2 : List AOper := [
 oM 8 0,
 oO 9 (.call 138 [(.const (.float Go.FloatKind.f64 0)), (.tmp 8)]),
 oM 2 9]

def ac122_3 : List AOper := [
 oM 10 0,
 oO 11 (.pure (oB (.call { callee := .value (.func 139), args := #[(.tmp 10)], argTypes := #[141] }) 205)),
 oM 3 11]

def ac122_4 : List AOper := [
 oM 12 3,
 oO 13 (.bin .shr 205 (.tmp 12) (.const (.int .u64 52))),
 oO 14 (.bin .and 207 (.tmp 13) (.const (.int .u64 2047))),
 oO 15 (.bin .sub 207 (.tmp 14) (.const (.int .u64 1023))),
 oM 4 15]

def ac122_5 : List AOper := [
 oM 16 4,
 oO 17 (.bin .lss 207 (.tmp 16) (.const (.int .u64 52)))]

def ac122_6 : List AOper := [
 oM 18 3,
 oM 19 4,
 oO 20 (.bin .sub 207 (.const (.int .u64 52)) (.tmp 19)),
 oO 21 (.bin .shl 205 (.const (.int .u64 1)) (.tmp 20)),
 oO 22 (.bin .sub 205 (.tmp 21) (.const (.int .u64 1))),
 oO 23 (.bin .andNot 205 (.tmp 18) (.tmp 22)),
 oM 3 23]

def ac122_7 : List AOper := [
 oM 24 3,
 oO 25 (.pure (oB (.call { callee := .value (.func 140), args := #[(.tmp 24)], argTypes := #[205] }) 141)),
 oM 2 25]

def tr122 : List (Nat × Tidy) := [(0, ⟨[0], false, [], []⟩), (1, ⟨[0, 7], false, [], []⟩), (2, ⟨[2], false, [], []⟩), (3, ⟨[3], false, [], []⟩), (4, ⟨[3, 4], false, [], []⟩), (5, ⟨[3, 4, 17], false, [], []⟩), (6, ⟨[3], false, [], []⟩), (7, ⟨[2], false, [], []⟩)]
def tl122 : List (Nat × Tidy) := []
def ac122 : ACode := (.seq (.region ac122_0 [] (some ⟨[0], false, [], []⟩)) (.seq (.seq (.region ac122_1 [] (some ⟨[0, 7], false, [], []⟩)) (.cond (.tmp 7) (.seq (.region ac122_2 [] (some ⟨[2], false, [], []⟩)) .ret) .skip)) (.seq (.region ac122_3 [] (some ⟨[3], false, [], []⟩)) (.seq (.region ac122_4 [] (some ⟨[3, 4], false, [], []⟩)) (.seq (.seq (.region ac122_5 [] (some ⟨[3, 4, 17], false, [], []⟩)) (.cond (.tmp 17) (.region ac122_6 [] (some ⟨[3], false, [], []⟩)) .skip)) (.seq (.region ac122_7 [] (some ⟨[2], false, [], []⟩)) .ret))))))
def rs122 : List AResV := [.tmp 2]
def ft122 : FnT := ⟨26, tr122, tl122, ac122, rs122⟩
theorem is122 : FnIs Try.prog 122 26 tr122 tl122 ac122 rs122 := ⟨Try.f122, Try.func122, rfl, by kernel_rfl, by kernel_rfl, by kernel_rfl⟩

/-! ### math.Abs -/

def ac123_0 : List AOper := [
 oO 2 (.mv (.const (.float Go.FloatKind.f64 0)))]

def ac123_1 : List AOper := [
 oM 3 0,
 oO 4 (.pure (oB (.call { callee := .value (.func 139), args := #[(.tmp 3)], argTypes := #[141] }) 205)),
 oO 5 (.bin .andNot 205 (.tmp 4) (.const (.int .u64 9223372036854775808))),
 oO 6 (.pure (oB (.call { callee := .value (.func 140), args := #[(.tmp 5)], argTypes := #[205] }) 141)),
 oM 2 6]

def tr123 : List (Nat × Tidy) := [(0, ⟨[0], false, [], []⟩), (1, ⟨[2], false, [], []⟩)]
def tl123 : List (Nat × Tidy) := []
def ac123 : ACode := (.seq (.region ac123_0 [] (some ⟨[0], false, [], []⟩)) (.seq (.region ac123_1 [] (some ⟨[2], false, [], []⟩)) .ret))
def rs123 : List AResV := [.tmp 2]
def ft123 : FnT := ⟨7, tr123, tl123, ac123, rs123⟩
theorem is123 : FnIs Try.prog 123 7 tr123 tl123 ac123 rs123 := ⟨Try.f123, Try.func123, rfl, by kernel_rfl, by kernel_rfl, by kernel_rfl⟩

/-! ### slices.IndexFunc[[]int,int] -/

def ac124_0 : List AOper := [
 oO 4 (.mv (.const (.int .i64 0)))]

def ac124_1 : List AOper := [
 oM 6 0,
 oO 7 (.len (.tmp 6)),
 oO 8 (.mv (.const (.int .i64 0)))]

def ac124_2 : List AOper := [
 oO 9 (.bin .lss 3 (.tmp 8) (.tmp 7))]

def ac124_3 : List AOper := [
 oM 10 8,
 oM 5 10]

def ac124_4 : List AOper := [
 oM 11 1,
 oM 12 0,
 oM 13 5,
 oO 14 (.iaddr 1 none (.tmp 12) (.tmp 13)),
 oO 15 (.load false 1 (.tmp 14)),
 oO 16 (.calld (.tmp 11) [(.tmp 15)])]

def ac124_5 : List AOper := [
 oM 17 5,
 oM 4 17]

def ac124_6 : List AOper := [
 oO 18 (.bin .add 3 (.tmp 8) (.const (.int .i64 1))),
 oM 8 18]

def ac124_7 : List AOper := [
 oO 4 (.mv (.const (.int .i64 (-1))))]

def tr124 : List (Nat × Tidy) := [(0, ⟨[0, 1], false, [], []⟩), (1, ⟨[0, 1, 7, 8], false, [], []⟩), (2, ⟨[0, 1, 7, 8, 9], false, [], []⟩), (3, ⟨[0, 1, 5, 7, 8], false, [], []⟩), (4, ⟨[0, 1, 5, 7, 8, 16], false, [], []⟩), (5, ⟨[4], false, [], []⟩), (6, ⟨[0, 1, 7, 8], false, [], []⟩), (7, ⟨[4], false, [], []⟩)]
def tl124 : List (Nat × Tidy) := [(2, ⟨[0, 1, 7, 8], true, [⟨false, 8, 0, 20008, 0⟩], []⟩)]
def ac124 : ACode := (.seq (.region ac124_0 [] (some ⟨[0, 1], false, [], []⟩)) (.seq (.seq (.region ac124_1 [] (some ⟨[0, 1, 7, 8], false, [], []⟩)) (.block 0 (.loop (some ⟨[0, 1, 7, 8], true, [⟨false, 8, 0, 20008, 0⟩], []⟩) (.seq (.region ac124_2 [] (some ⟨[0, 1, 7, 8, 9], false, [], []⟩)) (.seq (.cond (.tmp 9) .skip (.exit 0)) (.seq (.block 1 (.seq (.region ac124_3 [] (some ⟨[0, 1, 5, 7, 8], false, [], []⟩)) (.seq (.region ac124_4 [] (some ⟨[0, 1, 5, 7, 8, 16], false, [], []⟩)) (.cond (.tmp 16) (.seq (.region ac124_5 [] (some ⟨[4], false, [], []⟩)) .ret) .skip)))) (.region ac124_6 [] (some ⟨[0, 1, 7, 8], false, [], []⟩)))))))) (.seq (.region ac124_7 [] (some ⟨[4], false, [], []⟩)) .ret)))
def rs124 : List AResV := [.tmp 4]
def ft124 : FnT := ⟨19, tr124, tl124, ac124, rs124⟩
theorem is124 : FnIs Try.prog 124 19 tr124 tl124 ac124 rs124 := ⟨Try.f124, Try.func124, rfl, by kernel_rfl, by kernel_rfl, by kernel_rfl⟩

/-! ### slices.Index[[]string,string] -/

def ac125_0 : List AOper := [
 oO 4 (.mv (.const (.int .i64 0)))]

def ac125_1 : List AOper := [
 oM 6 0,
 oO 7 (.len (.tmp 6)),
 oO 8 (.mv (.const (.int .i64 0)))]

def ac125_2 : List AOper := [
 oO 9 (.bin .lss 3 (.tmp 8) (.tmp 7))]

def ac125_3 : List AOper := [
 oM 10 8,
 oM 5 10]

def ac125_4 : List AOper := [
 oM 11 1,
 oM 12 0,
 oM 13 5,
 oO 14 (.iaddr 1 none (.tmp 12) (.tmp 13)),
 oO 15 (.load false 1 (.tmp 14)),
 oO 16 (.bin .eql 9 (.tmp 11) (.tmp 15))]

def ac125_5 : List AOper := [
 oM 17 5,
 oM 4 17]

def ac125_6 : List AOper := [
 oO 18 (.bin .add 3 (.tmp 8) (.const (.int .i64 1))),
 oM 8 18]

def ac125_7 : List AOper := [
 oO 4 (.mv (.const (.int .i64 (-1))))]

def tr125 : List (Nat × Tidy) := [(0, ⟨[0, 1], false, [], []⟩), (1, ⟨[0, 1, 7, 8], false, [], []⟩), (2, ⟨[0, 1, 7, 8, 9], false, [], []⟩), (3, ⟨[0, 1, 5, 7, 8], false, [], []⟩), (4, ⟨[0, 1, 5, 7, 8, 16], false, [], []⟩), (5, ⟨[4], false, [], []⟩), (6, ⟨[0, 1, 7, 8], false, [], []⟩), (7, ⟨[4], false, [], []⟩)]
def tl125 : List (Nat × Tidy) := [(2, ⟨[0, 1, 7, 8], true, [⟨false, 8, 0, 20008, 0⟩], []⟩)]
def ac125 : ACode := (.seq (.region ac125_0 [] (some ⟨[0, 1], false, [], []⟩)) (.seq (.seq (.region ac125_1 [] (some ⟨[0, 1, 7, 8], false, [], []⟩)) (.block 0 (.loop (some ⟨[0, 1, 7, 8], true, [⟨false, 8, 0, 20008, 0⟩], []⟩) (.seq (.region ac125_2 [] (some ⟨[0, 1, 7, 8, 9], false, [], []⟩)) (.seq (.cond (.tmp 9) .skip (.exit 0)) (.seq (.block 1 (.seq (.region ac125_3 [] (some ⟨[0, 1, 5, 7, 8], false, [], []⟩)) (.seq (.region ac125_4 [] (some ⟨[0, 1, 5, 7, 8, 16], false, [], []⟩)) (.cond (.tmp 16) (.seq (.region ac125_5 [] (some ⟨[4], false, [], []⟩)) .ret) .skip)))) (.region ac125_6 [] (some ⟨[0, 1, 7, 8], false, [], []⟩)))))))) (.seq (.region ac125_7 [] (some ⟨[4], false, [], []⟩)) .ret)))
def rs125 : List AResV := [.tmp 4]
def ft125 : FnT := ⟨19, tr125, tl125, ac125, rs125⟩
theorem is125 : FnIs Try.prog 125 19 tr125 tl125 ac125 rs125 := ⟨Try.f125, Try.func125, rfl, by kernel_rfl, by kernel_rfl, by kernel_rfl⟩

/-! ### etalon/grow.numberOf -/

def ac126_0 : List AOper := [
 oO 2 (.mv (.const (.int .i64 0)))]

def ac126_1 : List AOper := [
 oO 3 (.mv (.const (.int .i64 0)))]

def ac126_2 : List AOper := [
 oM 6 0,
 oO 7 (.len (.tmp 6)),
 oO 8 (.mv (.const (.int .i64 0)))]

def ac126_3 : List AOper := [
 oO 9 (.bin .lss 3 (.tmp 8) (.tmp 7))]

def ac126_4 : List AOper := [
 oM 10 8,
 oO 11 (.iaddr 1 none (.tmp 6) (.tmp 8)),
 oO 12 (.load false 1 (.tmp 11)),
 oM 4 10,
 oM 5 12]

def ac126_5 : List AOper := [
 oM 13 5]

def ac126_6 : List AOper := [
 oM 14 3,
 oM 15 4,
 oO 16 (.bin .shl 171 (.const (.int .i64 1)) (.tmp 15)),
 oO 17 (.bin .or 171 (.tmp 14) (.tmp 16)),
 oM 3 17]

def ac126_7 : List AOper := [
 oO 18 (.bin .add 3 (.tmp 8) (.const (.int .i64 1))),
 oM 8 18]

def ac126_8 : List AOper := [
 oM 19 3,
 oM 2 19]

def tr126 : List (Nat × Tidy) := [(0, ⟨[0], false, [], []⟩), (1, ⟨[0, 3], false, [], []⟩), (2, ⟨[3, 6, 7, 8], false, [], []⟩), (3, ⟨[3, 6, 7, 8, 9], false, [], []⟩), (4, ⟨[3, 4, 5, 6, 7, 8], false, [], []⟩), (5, ⟨[3, 4, 6, 7, 8, 13], false, [], []⟩), (6, ⟨[3, 6, 7, 8], false, [], []⟩), (7, ⟨[3, 6, 7, 8], false, [], []⟩), (8, ⟨[2], false, [], []⟩)]
def tl126 : List (Nat × Tidy) := [(3, ⟨[3, 6, 7, 8], true, [⟨false, 3, 0, 20003, 0⟩, ⟨false, 6, 0, 20006, 0⟩, ⟨false, 8, 0, 20008, 0⟩], []⟩)]
def ac126 : ACode := (.seq (.region ac126_0 [] (some ⟨[0], false, [], []⟩)) (.seq (.region ac126_1 [] (some ⟨[0, 3], false, [], []⟩)) (.seq (.seq (.region ac126_2 [] (some ⟨[3, 6, 7, 8], false, [], []⟩)) (.block 0 (.loop (some ⟨[3, 6, 7, 8], true, [⟨false, 3, 0, 20003, 0⟩, ⟨false, 6, 0, 20006, 0⟩, ⟨false, 8, 0, 20008, 0⟩], []⟩) (.seq (.region ac126_3 [] (some ⟨[3, 6, 7, 8, 9], false, [], []⟩)) (.seq (.cond (.tmp 9) .skip (.exit 0)) (.seq (.block 1 (.seq (.region ac126_4 [] (some ⟨[3, 4, 5, 6, 7, 8], false, [], []⟩)) (.seq (.region ac126_5 [] (some ⟨[3, 4, 6, 7, 8, 13], false, [], []⟩)) (.cond (.tmp 13) (.region ac126_6 [] (some ⟨[3, 6, 7, 8], false, [], []⟩)) .skip)))) (.region ac126_7 [] (some ⟨[3, 6, 7, 8], false, [], []⟩)))))))) (.seq (.region ac126_8 [] (some ⟨[2], false, [], []⟩)) .ret))))
def rs126 : List AResV := [.tmp 2]
def ft126 : FnT := ⟨20, tr126, tl126, ac126, rs126⟩
theorem is126 : FnIs Try.prog 126 20 tr126 tl126 ac126 rs126 := ⟨Try.f126, Try.func126, rfl, by kernel_rfl, by kernel_rfl, by kernel_rfl⟩

/-! ### slices.IndexFunc[[]etalon/api.GrowRule,etalon/api.GrowRule] -/

def ac127_0 : List AOper := [
 oO 4 (.mv (.const (.int .i64 0)))]

def ac127_1 : List AOper := [
 oM 6 0,
 oO 7 (.len (.tmp 6)),
 oO 8 (.mv (.const (.int .i64 0)))]

def ac127_2 : List AOper := [
 oO 9 (.bin .lss 3 (.tmp 8) (.tmp 7))]

def ac127_3 : List AOper := [
 oM 10 8,
 oM 5 10]

def ac127_4 : List AOper := [
 oM 11 1,
 oM 12 0,
 oM 13 5,
 oO 14 (.iaddr 4 none (.tmp 12) (.tmp 13)),
 oO 15 (.load true 4 (.tmp 14)),
 oO 16 (.calld (.tmp 11) [(.tmp 15)])]

def ac127_5 : List AOper := [
 oM 17 5,
 oM 4 17]

def ac127_6 : List AOper := [
 oO 18 (.bin .add 3 (.tmp 8) (.const (.int .i64 1))),
 oM 8 18]

def ac127_7 : List AOper := [
 oO 4 (.mv (.const (.int .i64 (-1))))]

def tr127 : List (Nat × Tidy) := [(0, ⟨[0, 1], false, [], []⟩), (1, ⟨[0, 1, 7, 8], false, [], []⟩), (2, ⟨[0, 1, 7, 8, 9], false, [], []⟩), (3, ⟨[0, 1, 5, 7, 8], false, [], []⟩), (4, ⟨[0, 1, 5, 7, 8, 16], false, [], []⟩), (5, ⟨[4], false, [], []⟩), (6, ⟨[0, 1, 7, 8], false, [], []⟩), (7, ⟨[4], false, [], []⟩)]
def tl127 : List (Nat × Tidy) := [(2, ⟨[0, 1, 7, 8], true, [⟨false, 8, 0, 20008, 0⟩], []⟩)]
def ac127 : ACode := (.seq (.region ac127_0 [] (some ⟨[0, 1], false, [], []⟩)) (.seq (.seq (.region ac127_1 [] (some ⟨[0, 1, 7, 8], false, [], []⟩)) (.block 0 (.loop (some ⟨[0, 1, 7, 8], true, [⟨false, 8, 0, 20008, 0⟩], []⟩) (.seq (.region ac127_2 [] (some ⟨[0, 1, 7, 8, 9], false, [], []⟩)) (.seq (.cond (.tmp 9) .skip (.exit 0)) (.seq (.block 1 (.seq (.region ac127_3 [] (some ⟨[0, 1, 5, 7, 8], false, [], []⟩)) (.seq (.region ac127_4 [] (some ⟨[0, 1, 5, 7, 8, 16], false, [], []⟩)) (.cond (.tmp 16) (.seq (.region ac127_5 [] (some ⟨[4], false, [], []⟩)) .ret) .skip)))) (.region ac127_6 [] (some ⟨[0, 1, 7, 8], false, [], []⟩)))))))) (.seq (.region ac127_7 [] (some ⟨[4], false, [], []⟩)) .ret)))
def rs127 : List AResV := [.tmp 4]
def ft127 : FnT := ⟨19, tr127, tl127, ac127, rs127⟩
theorem is127 : FnIs Try.prog 127 19 tr127 tl127 ac127 rs127 := ⟨Try.f127, Try.func127, rfl, by kernel_rfl, by kernel_rfl, by kernel_rfl⟩

/-! ### (etalon/grow.chamber).broken$1 -/

def ac128_0 : List AOper := [
 oO 2 (.box (.tmp 0)),
 oO 3 (.mv (.const (.bool false)))]

def ac128_1 : List AOper := [
 oO 4 (.load false 1 (.tmp 1)),
 oO 5 (.faddr 0 (.tmp 2)),
 oO 6 (.load false 1 (.tmp 5)),
 oO 7 (.call 129 [(.tmp 4), (.tmp 6)]),
 oO 8 (.faddr 1 (.tmp 2)),
 oO 9 (.load false 1 (.tmp 8)),
 oO 10 (.bin .eql 4 (.tmp 7) (.tmp 9)),
 oM 11 10,
 ⟨(some 12), (.load false 1 (.tmp 1)), (some (11, true))⟩,
 ⟨(some 13), (.faddr 2 (.tmp 2)), (some (11, true))⟩,
 ⟨(some 14), (.load false 1 (.tmp 13)), (some (11, true))⟩,
 ⟨(some 15), (.call 129 [(.tmp 12), (.tmp 14)]), (some (11, true))⟩,
 ⟨(some 16), (.faddr 3 (.tmp 2)), (some (11, true))⟩,
 ⟨(some 17), (.load false 1 (.tmp 16)), (some (11, true))⟩,
 ⟨(some 18), (.bin .neq 4 (.tmp 15) (.tmp 17)), (some (11, true))⟩,
 oO 19 (.pick (.tmp 11) (.tmp 18) (.const (.bool false))),
 oM 3 19]

def tr128 : List (Nat × Tidy) := [(0, ⟨[1, 2], false, [], []⟩), (1, ⟨[3], false, [], []⟩)]
def tl128 : List (Nat × Tidy) := []
def ac128 : ACode := (.seq (.region ac128_0 [] (some ⟨[1, 2], false, [], []⟩)) (.seq (.region ac128_1 [(3, 5), (11, 13)] (some ⟨[3], false, [], []⟩)) .ret))
def rs128 : List AResV := [.tmp 3]
def ft128 : FnT := ⟨20, tr128, tl128, ac128, rs128⟩
theorem is128 : FnIs Try.prog 128 20 tr128 tl128 ac128 rs128 := ⟨Try.f128, Try.func128, rfl, by kernel_rfl, by kernel_rfl, by kernel_rfl⟩

/-! ### (etalon/grow.state).on -/

def ac129_0 : List AOper := [
 oO 4 (.mv (.const (.bool false)))]

def ac129_1 : List AOper := [
 oM 5 0,
 oM 6 1,
 oO 7 (.bin .shr 171 (.tmp 5) (.tmp 6)),
 oO 8 (.bin .and 171 (.tmp 7) (.const (.int .i64 1))),
 oO 9 (.bin .eql 171 (.tmp 8) (.const (.int .i64 1))),
 oM 4 9]

def tr129 : List (Nat × Tidy) := [(0, ⟨[0, 1], false, [], []⟩), (1, ⟨[4], false, [], []⟩)]
def tl129 : List (Nat × Tidy) := []
def ac129 : ACode := (.seq (.region ac129_0 [] (some ⟨[0, 1], false, [], []⟩)) (.seq (.region ac129_1 [] (some ⟨[4], false, [], []⟩)) .ret))
def rs129 : List AResV := [.tmp 4]
def ft129 : FnT := ⟨10, tr129, tl129, ac129, rs129⟩
theorem is129 : FnIs Try.prog 129 10 tr129 tl129 ac129 rs129 := ⟨Try.f129, Try.func129, rfl, by kernel_rfl, by kernel_rfl, by kernel_rfl⟩

/-! ### slices.Repeat[[]int,int] -/

def ac130_0 : List AOper := [
 oO 4 (.mv (.const (.slice none 0 0)))]

def ac130_1 : List AOper := [
 oM 9 1,
 oO 10 (.bin .lss 3 (.tmp 9) (.const (.int .i64 0)))]

def ac130_2 : List AOper := [
 ⟨(some 11), .bad, none⟩,
  ⟨none, .bad, none⟩]

def ac130_3 : List AOper := [
 oM 13 0,
 oO 14 (.len (.tmp 13)),
 oO 15 (.pure (oB (.convert 3 207 (.tmp 14)) 207)),
 oM 16 1,
 oO 17 (.pure (oB (.convert 3 207 (.tmp 16)) 207)),
 oO 18 (.call 141 [(.tmp 15), (.tmp 17)]),
 oM 12 18,
 oO 19 (.extract 0 (.tmp 12)),
 oO 20 (.extract 1 (.tmp 12)),
 oM 5 19,
 oM 6 20]

def ac130_4 : List AOper := [
 oM 21 5,
 oO 22 (.bin .gtr 207 (.tmp 21) (.const (.int .u64 0))),
 oM 23 22,
 ⟨(some 24), (.mv (.tmp 6)), (some (23, false))⟩,
 ⟨(some 25), (.bin .gtr 207 (.tmp 24) (.const (.int .u64 9223372036854775807))), (some (23, false))⟩,
 oO 26 (.pick (.tmp 23) (.const (.bool true)) (.tmp 25))]

def ac130_5 : List AOper := [
 ⟨(some 27), .bad, none⟩,
  ⟨none, .bad, none⟩]

def ac130_6 : List AOper := [
 oM 28 6,
 oO 29 (.pure (oB (.convert 207 3 (.tmp 28)) 3)),
 oO 30 (.mkslice 1 8 [(.v (.int .i64 0))] (.tmp 29) (.tmp 29)),
 oM 7 30]

def ac130_7 : List AOper := [
 oM 31 7,
 oM 32 0,
 oO 33 (.copy 1 (.tmp 31) (.tmp 32)),
 oM 8 33]

def ac130_8 : List AOper := [
 oM 34 8,
 oM 35 7,
 oO 36 (.len (.tmp 35)),
 oO 37 (.bin .lss 3 (.tmp 34) (.tmp 36))]

def ac130_9 : List AOper := [
 oM 38 8,
 oM 39 7,
 oM 40 8,
 oO 41 (.view 1 (.tmp 39) (some (.tmp 40)) none),
 oM 42 7,
 oM 43 8,
 oO 44 (.view 1 (.tmp 42) none (some (.tmp 43))),
 oO 45 (.copy 1 (.tmp 41) (.tmp 44)),
 oO 46 (.bin .add 3 (.tmp 38) (.tmp 45)),
 oM 8 46]

def ac130_10 : List AOper := [
 oM 47 7,
 oM 4 47]

def tr130 : List (Nat × Tidy) := [(0, ⟨[0, 1], false, [], []⟩), (1, ⟨[0, 1, 10], false, [], []⟩), (2, ⟨[0, 1], false, [], []⟩), (3, ⟨[0, 5, 6], false, [], []⟩), (4, ⟨[0, 6, 26], false, [], []⟩), (5, ⟨[0, 6], false, [], []⟩), (6, ⟨[0, 7], false, [], []⟩), (7, ⟨[7, 8], false, [], []⟩), (8, ⟨[7, 8, 37], false, [], []⟩), (9, ⟨[7, 8], false, [], []⟩), (10, ⟨[4], false, [], []⟩), (1100041, ⟨[], false, [], []⟩), (1100044, ⟨[], false, [], []⟩)]
def tl130 : List (Nat × Tidy) := [(8, ⟨[7, 8], true, [⟨false, 7, 0, 20007, 0⟩, ⟨false, 8, 0, 20008, 0⟩], []⟩)]
def ac130 : ACode := (.seq (.region ac130_0 [] (some ⟨[0, 1], false, [], []⟩)) (.seq (.seq (.region ac130_1 [] (some ⟨[0, 1, 10], false, [], []⟩)) (.cond (.tmp 10) (.region ac130_2 [] (some ⟨[0, 1], false, [], []⟩)) .skip)) (.seq (.region ac130_3 [] (some ⟨[0, 5, 6], false, [], []⟩)) (.seq (.seq (.region ac130_4 [] (some ⟨[0, 6, 26], false, [], []⟩)) (.cond (.tmp 26) (.region ac130_5 [] (some ⟨[0, 6], false, [], []⟩)) .skip)) (.seq (.region ac130_6 [] (some ⟨[0, 7], false, [], []⟩)) (.seq (.region ac130_7 [] (some ⟨[7, 8], false, [], []⟩)) (.seq (.block 0 (.loop (some ⟨[7, 8], true, [⟨false, 7, 0, 20007, 0⟩, ⟨false, 8, 0, 20008, 0⟩], []⟩) (.seq (.seq (.region ac130_8 [] (some ⟨[7, 8, 37], false, [], []⟩)) (.cond (.tmp 37) .skip (.exit 0))) (.block 1 (.region ac130_9 [] (some ⟨[7, 8], false, [], []⟩)))))) (.seq (.region ac130_10 [] (some ⟨[4], false, [], []⟩)) .ret))))))))
def rs130 : List AResV := [.tmp 4]
def ft130 : FnT := ⟨48, tr130, tl130, ac130, rs130⟩
theorem is130 : FnIs Try.prog 130 48 tr130 tl130 ac130 rs130 := ⟨Try.f130, Try.func130, rfl, by kernel_rfl, by kernel_rfl, by kernel_rfl⟩

/-! ### (etalon/grow.chamber).next$1 -/

def ac131_0 : List AOper := [
  ⟨(some 6), (.faddr 0 (.tmp 1)), none⟩,
  ⟨(some 7), (.faddr 0 (.tmp 6)), none⟩,
  ⟨(some 8), (.load false 1 (.tmp 7)), none⟩,
  ⟨(some 9), (.len (.tmp 8)), none⟩,
  ⟨(some 10), (.mv (.const (.int .i64 0))), none⟩]

def ac131_1 : List AOper := [
  ⟨(some 11), (.bin .lss 3 (.tmp 10) (.tmp 9)), none⟩]

def ac131_2 : List AOper := [
  ⟨(some 12), (.mv (.tmp 10)), none⟩,
  ⟨(some 4), (.mv (.tmp 12)), none⟩]

def ac131_3 : List AOper := [
  ⟨(some 13), (.load false 1 (.tmp 2)), none⟩,
  ⟨(some 14), (.mv (.tmp 4)), none⟩,
  ⟨(some 15), (.call 105 [(.tmp 13), (.tmp 14)]), none⟩,
  ⟨(some 5), (.mv (.tmp 15)), none⟩]

def ac131_4 : List AOper := [
  ⟨(some 16), (.load true 2 (.tmp 1)), none⟩,
  ⟨(some 17), (.mv (.tmp 5)), none⟩,
  ⟨(some 18), (.call 116 [(.tmp 16), (.tmp 17)]), none⟩,
  ⟨(some 19), (.mv (.tmp 18)), none⟩,
  ⟨(some 20), (.mv (.tmp 0)), (some (19, true))⟩,
  ⟨(some 21), (.mv (.tmp 4)), (some (19, true))⟩,
  ⟨(some 22), (.mv (.tmp 5)), (some (19, true))⟩,
  ⟨(some 23), (.calld (.tmp 20) [(.tmp 21), (.tmp 22)]), (some (19, true))⟩,
  ⟨(some 24), (.pure (oB (.unOp .not 4 (.tmp 23)) 4)), (some (19, true))⟩,
  ⟨(some 25), (.pick (.tmp 19) (.tmp 24) (.const (.bool false))), none⟩]

def ac131_5 : List AOper := [
  ⟨(some 26), (.bin .add 3 (.tmp 10) (.const (.int .i64 1))), none⟩,
  ⟨(some 10), (.mv (.tmp 26)), none⟩]

def tr131 : List (Nat × Tidy) := [(0, ⟨[0, 1, 2, 9, 10], false, [], []⟩), (1, ⟨[0, 1, 2, 9, 10, 11], false, [], []⟩), (2, ⟨[0, 1, 2, 4, 9, 10], false, [], []⟩), (3, ⟨[0, 1, 2, 4, 5, 9, 10], false, [], []⟩), (4, ⟨[0, 1, 2, 9, 10, 25], false, [], []⟩), (5, ⟨[0, 1, 2, 9, 10], false, [], []⟩)]
def tl131 : List (Nat × Tidy) := [(1, ⟨[0, 1, 2, 9, 10], true, [⟨false, 10, 0, 20010, 0⟩], []⟩)]
def ac131 : ACode := (.seq (.region ac131_0 [] (some ⟨[0, 1, 2, 9, 10], false, [], []⟩)) (.block 0 (.loop (some ⟨[0, 1, 2, 9, 10], true, [⟨false, 10, 0, 20010, 0⟩], []⟩) (.seq (.region ac131_1 [] (some ⟨[0, 1, 2, 9, 10, 11], false, [], []⟩)) (.seq (.cond (.tmp 11) .skip (.exit 0)) (.seq (.block 1 (.seq (.region ac131_2 [] (some ⟨[0, 1, 2, 4, 9, 10], false, [], []⟩)) (.seq (.region ac131_3 [] (some ⟨[0, 1, 2, 4, 5, 9, 10], false, [], []⟩)) (.seq (.region ac131_4 [] (some ⟨[0, 1, 2, 9, 10, 25], false, [], []⟩)) (.cond (.tmp 25) .ret .skip))))) (.region ac131_5 [] (some ⟨[0, 1, 2, 9, 10], false, [], []⟩))))))))
def rs131 : List AResV := []
def ft131 : FnT := ⟨27, tr131, tl131, ac131, rs131⟩
theorem is131 : FnIs Try.prog 131 27 tr131 tl131 ac131 rs131 := ⟨Try.f131, Try.func131, rfl, by kernel_rfl, by kernel_rfl, by kernel_rfl⟩

/-! ### etalon/grow.inside -/

def ac132_0 : List AOper := [
 oO 3 (.box (.tmp 0)),
 oO 6 (.mv (.const (.bool false)))]

def ac132_1 : List AOper := [
 oO 7 (.faddr 0 (.tmp 3)),
 oO 8 (.load false 1 (.tmp 7)),
 oM 9 1,
 oM 10 2,
 oO 11 (.call 78 [(.tmp 8), (.tmp 9), (.tmp 10)]),
 oM 12 11,
 ⟨(some 13), (.faddr 1 (.tmp 3)), (some (12, true))⟩,
 ⟨(some 14), (.load false 1 (.tmp 13)), (some (12, true))⟩,
 ⟨(some 15), (.mv (.tmp 1)), (some (12, true))⟩,
 ⟨(some 16), (.mv (.tmp 2)), (some (12, true))⟩,
 ⟨(some 17), (.call 78 [(.tmp 14), (.tmp 15), (.tmp 16)]), (some (12, true))⟩,
 oO 18 (.pick (.tmp 12) (.tmp 17) (.const (.bool false))),
 oM 6 18]

def tr132 : List (Nat × Tidy) := [(0, ⟨[1, 2, 3], false, [], []⟩), (1, ⟨[6], false, [], []⟩)]
def tl132 : List (Nat × Tidy) := []
def ac132 : ACode := (.seq (.region ac132_0 [] (some ⟨[1, 2, 3], false, [], []⟩)) (.seq (.region ac132_1 [] (some ⟨[6], false, [], []⟩)) .ret))
def rs132 : List AResV := [.tmp 6]
def ft132 : FnT := ⟨19, tr132, tl132, ac132, rs132⟩
theorem is132 : FnIs Try.prog 132 19 tr132 tl132 ac132 rs132 := ⟨Try.f132, Try.func132, rfl, by kernel_rfl, by kernel_rfl, by kernel_rfl⟩

/-! ### math.Copysign -/

def ac138_0 : List AOper := [
 oO 4 (.mv (.const (.float Go.FloatKind.f64 0)))]

def ac138_1 : List AOper := [
 oM 5 0,
 oO 6 (.pure (oB (.call { callee := .value (.func 139), args := #[(.tmp 5)], argTypes := #[141] }) 205)),
 oO 7 (.bin .andNot 205 (.tmp 6) (.const (.int .u64 9223372036854775808))),
 oM 8 1,
 oO 9 (.pure (oB (.call { callee := .value (.func 139), args := #[(.tmp 8)], argTypes := #[141] }) 205)),
 oO 10 (.bin .and 205 (.tmp 9) (.const (.int .u64 9223372036854775808))),
 oO 11 (.bin .or 205 (.tmp 7) (.tmp 10)),
 oO 12 (.pure (oB (.call { callee := .value (.func 140), args := #[(.tmp 11)], argTypes := #[205] }) 141)),
 oM 4 12]

def tr138 : List (Nat × Tidy) := [(0, ⟨[0, 1], false, [], []⟩), (1, ⟨[4], false, [], []⟩)]
def tl138 : List (Nat × Tidy) := []
def ac138 : ACode := (.seq (.region ac138_0 [] (some ⟨[0, 1], false, [], []⟩)) (.seq (.region ac138_1 [] (some ⟨[4], false, [], []⟩)) .ret))
def rs138 : List AResV := [.tmp 4]
def ft138 : FnT := ⟨13, tr138, tl138, ac138, rs138⟩
theorem is138 : FnIs Try.prog 138 13 tr138 tl138 ac138 rs138 := ⟨Try.f138, Try.func138, rfl, by kernel_rfl, by kernel_rfl, by kernel_rfl⟩

/-! ### math/bits.Mul -/

def ac141_0 : List AOper := [
 oO 4 (.mv (.const (.int .u64 0))),
 oO 5 (.mv (.const (.int .u64 0)))]

def ac141_1 : List AOper := [
 oM 11 0,
 oO 12 (.pure (oB (.convert 207 211 (.tmp 11)) 211)),
 oM 13 1,
 oO 14 (.pure (oB (.convert 207 211 (.tmp 13)) 211)),
 oO 15 (.call 142 [(.tmp 12), (.tmp 14)]),
 oM 10 15,
 oO 16 (.extract 0 (.tmp 10)),
 oO 17 (.extract 1 (.tmp 10)),
 oM 6 16,
 oM 7 17]

def ac141_2 : List AOper := [
 oM 18 6,
 oO 19 (.pure (oB (.convert 211 207 (.tmp 18)) 207)),
 oM 20 7,
 oO 21 (.pure (oB (.convert 211 207 (.tmp 20)) 207)),
 oM 4 19,
 oM 5 21]

def ac141_3 : List AOper := [
 oM 23 0,
 oM 24 1,
 oO 25 (.call 143 [(.tmp 23), (.tmp 24)]),
 oM 22 25,
 oO 26 (.extract 0 (.tmp 22)),
 oO 27 (.extract 1 (.tmp 22)),
 oM 8 26,
 oM 9 27]

def ac141_4 : List AOper := [
 oM 28 8,
 oM 29 9,
 oM 4 28,
 oM 5 29]

def tr141 : List (Nat × Tidy) := [(0, ⟨[0, 1], false, [], []⟩), (1, ⟨[6, 7], false, [], []⟩), (2, ⟨[4, 5], false, [], []⟩), (3, ⟨[8, 9], false, [], []⟩), (4, ⟨[4, 5], false, [], []⟩)]
def tl141 : List (Nat × Tidy) := []
def ac141 : ACode := (.seq (.region ac141_0 [] (some ⟨[0, 1], false, [], []⟩)) (.seq (.cond (.const (.bool false)) (.seq (.region ac141_1 [] (some ⟨[6, 7], false, [], []⟩)) (.seq (.region ac141_2 [] (some ⟨[4, 5], false, [], []⟩)) .ret)) .skip) (.seq (.region ac141_3 [] (some ⟨[8, 9], false, [], []⟩)) (.seq (.region ac141_4 [] (some ⟨[4, 5], false, [], []⟩)) .ret))))
def rs141 : List AResV := [.tmp 4, .tmp 5]
def ft141 : FnT := ⟨30, tr141, tl141, ac141, rs141⟩
theorem is141 : FnIs Try.prog 141 30 tr141 tl141 ac141 rs141 := ⟨Try.f141, Try.func141, rfl, by kernel_rfl, by kernel_rfl, by kernel_rfl⟩

/-! ### math/bits.Mul32 -/

def ac142_0 : List AOper := [
 oO 4 (.mv (.const (.int .u32 0))),
 oO 5 (.mv (.const (.int .u32 0)))]

def ac142_1 : List AOper := [
 oM 7 0,
 oO 8 (.pure (oB (.convert 211 205 (.tmp 7)) 205)),
 oM 9 1,
 oO 10 (.pure (oB (.convert 211 205 (.tmp 9)) 205)),
 oO 11 (.bin .mul 205 (.tmp 8) (.tmp 10)),
 oM 6 11]

def ac142_2 : List AOper := [
 oM 12 6,
 oO 13 (.bin .shr 205 (.tmp 12) (.const (.int .u64 32))),
 oO 14 (.pure (oB (.convert 205 211 (.tmp 13)) 211)),
 oM 15 6,
 oO 16 (.pure (oB (.convert 205 211 (.tmp 15)) 211)),
 oM 4 14,
 oM 5 16]

def tr142 : List (Nat × Tidy) := [(0, ⟨[0, 1], false, [], []⟩), (1, ⟨[6], false, [], []⟩), (2, ⟨[4, 5], false, [], []⟩)]
def tl142 : List (Nat × Tidy) := []
def ac142 : ACode := (.seq (.region ac142_0 [] (some ⟨[0, 1], false, [], []⟩)) (.seq (.region ac142_1 [] (some ⟨[6], false, [], []⟩)) (.seq (.region ac142_2 [] (some ⟨[4, 5], false, [], []⟩)) .ret)))
def rs142 : List AResV := [.tmp 4, .tmp 5]
def ft142 : FnT := ⟨17, tr142, tl142, ac142, rs142⟩
theorem is142 : FnIs Try.prog 142 17 tr142 tl142 ac142 rs142 := ⟨Try.f142, Try.func142, rfl, by kernel_rfl, by kernel_rfl, by kernel_rfl⟩

/-! ### math/bits.Mul64 -/

def ac143_0 : List AOper := [
 oO 4 (.mv (.const (.int .u64 0))),
 oO 5 (.mv (.const (.int .u64 0)))]

def ac143_1 : List AOper := [
 oM 14 0,
 oO 15 (.bin .and 205 (.tmp 14) (.const (.int .u64 4294967295))),
 oM 6 15]

def ac143_2 : List AOper := [
 oM 16 0,
 oO 17 (.bin .shr 205 (.tmp 16) (.const (.int .u64 32))),
 oM 7 17]

def ac143_3 : List AOper := [
 oM 18 1,
 oO 19 (.bin .and 205 (.tmp 18) (.const (.int .u64 4294967295))),
 oM 8 19]

def ac143_4 : List AOper := [
 oM 20 1,
 oO 21 (.bin .shr 205 (.tmp 20) (.const (.int .u64 32))),
 oM 9 21]

def ac143_5 : List AOper := [
 oM 22 6,
 oM 23 8,
 oO 24 (.bin .mul 205 (.tmp 22) (.tmp 23)),
 oM 10 24]

def ac143_6 : List AOper := [
 oM 25 7,
 oM 26 8,
 oO 27 (.bin .mul 205 (.tmp 25) (.tmp 26)),
 oM 28 10,
 oO 29 (.bin .shr 205 (.tmp 28) (.const (.int .u64 32))),
 oO 30 (.bin .add 205 (.tmp 27) (.tmp 29)),
 oM 11 30]

def ac143_7 : List AOper := [
 oM 31 11,
 oO 32 (.bin .and 205 (.tmp 31) (.const (.int .u64 4294967295))),
 oM 12 32]

def ac143_8 : List AOper := [
 oM 33 11,
 oO 34 (.bin .shr 205 (.tmp 33) (.const (.int .u64 32))),
 oM 13 34]

def ac143_9 : List AOper := [
 oM 35 12,
 oM 36 6,
 oM 37 9,
 oO 38 (.bin .mul 205 (.tmp 36) (.tmp 37)),
 oO 39 (.bin .add 205 (.tmp 35) (.tmp 38)),
 oM 12 39]

def ac143_10 : List AOper := [
 oM 40 7,
 oM 41 9,
 oO 42 (.bin .mul 205 (.tmp 40) (.tmp 41)),
 oM 43 13,
 oO 44 (.bin .add 205 (.tmp 42) (.tmp 43)),
 oM 45 12,
 oO 46 (.bin .shr 205 (.tmp 45) (.const (.int .u64 32))),
 oO 47 (.bin .add 205 (.tmp 44) (.tmp 46)),
 oM 4 47]

def ac143_11 : List AOper := [
 oM 48 0,
 oM 49 1,
 oO 50 (.bin .mul 205 (.tmp 48) (.tmp 49)),
 oM 5 50]

def tr143 : List (Nat × Tidy) := [(0, ⟨[0, 1], false, [], []⟩), (1, ⟨[0, 1, 6], false, [], []⟩), (2, ⟨[0, 1, 6, 7], false, [], []⟩), (3, ⟨[0, 1, 6, 7, 8], false, [], []⟩), (4, ⟨[0, 1, 6, 7, 8, 9], false, [], []⟩), (5, ⟨[0, 1, 6, 7, 8, 9, 10], false, [], []⟩), (6, ⟨[0, 1, 6, 7, 9, 11], false, [], []⟩), (7, ⟨[0, 1, 6, 7, 9, 11, 12], false, [], []⟩), (8, ⟨[0, 1, 6, 7, 9, 12, 13], false, [], []⟩), (9, ⟨[0, 1, 7, 9, 12, 13], false, [], []⟩), (10, ⟨[0, 1, 4], false, [], []⟩), (11, ⟨[4, 5], false, [], []⟩)]
def tl143 : List (Nat × Tidy) := []
def ac143 : ACode := (.seq (.region ac143_0 [] (some ⟨[0, 1], false, [], []⟩)) (.seq (.region ac143_1 [] (some ⟨[0, 1, 6], false, [], []⟩)) (.seq (.region ac143_2 [] (some ⟨[0, 1, 6, 7], false, [], []⟩)) (.seq (.region ac143_3 [] (some ⟨[0, 1, 6, 7, 8], false, [], []⟩)) (.seq (.region ac143_4 [] (some ⟨[0, 1, 6, 7, 8, 9], false, [], []⟩)) (.seq (.region ac143_5 [] (some ⟨[0, 1, 6, 7, 8, 9, 10], false, [], []⟩)) (.seq (.region ac143_6 [] (some ⟨[0, 1, 6, 7, 9, 11], false, [], []⟩)) (.seq (.region ac143_7 [] (some ⟨[0, 1, 6, 7, 9, 11, 12], false, [], []⟩)) (.seq (.region ac143_8 [] (some ⟨[0, 1, 6, 7, 9, 12, 13], false, [], []⟩)) (.seq (.region ac143_9 [] (some ⟨[0, 1, 7, 9, 12, 13], false, [], []⟩)) (.seq (.region ac143_10 [] (some ⟨[0, 1, 4], false, [], []⟩)) (.seq (.region ac143_11 [] (some ⟨[4, 5], false, [], []⟩)) .ret))))))))))))
def rs143 : List AResV := [.tmp 4, .tmp 5]
def ft143 : FnT := ⟨51, tr143, tl143, ac143, rs143⟩
theorem is143 : FnIs Try.prog 143 51 tr143 tl143 ac143 rs143 := ⟨Try.f143, Try.func143, rfl, by kernel_rfl, by kernel_rfl, by kernel_rfl⟩

def tbl : List (Nat × FnT) := [(14, ft14), (16, ft16), (20, ft20), (22, ft22), (25, ft25), (32, ft32), (36, ft36), (38, ft38), (45, ft45), (55, ft55), (63, ft63), (70, ft70), (71, ft71), (72, ft72), (73, ft73), (74, ft74), (75, ft75), (76, ft76), (77, ft77), (78, ft78), (79, ft79), (80, ft80), (81, ft81), (82, ft82), (83, ft83), (84, ft84), (85, ft85), (88, ft88), (89, ft89), (90, ft90), (91, ft91), (92, ft92), (98, ft98), (99, ft99), (100, ft100), (101, ft101), (103, ft103), (104, ft104), (105, ft105), (109, ft109), (110, ft110), (111, ft111), (116, ft116), (117, ft117), (122, ft122), (123, ft123), (124, ft124), (125, ft125), (126, ft126), (127, ft127), (128, ft128), (129, ft129), (130, ft130), (131, ft131), (132, ft132), (138, ft138), (141, ft141), (142, ft142), (143, ft143)]
theorem tblOk : TblOk Try.prog tbl := ⟨is14, is16, is20, is22, is25, is32, is36, is38, is45, is55, is63, is70, is71, is72, is73, is74, is75, is76, is77, is78, is79, is80, is81, is82, is83, is84, is85, is88, is89, is90, is91, is92, is98, is99, is100, is101, is103, is104, is105, is109, is110, is111, is116, is117, is122, is123, is124, is125, is126, is127, is128, is129, is130, is131, is132, is138, is141, is142, is143, trivial⟩
end Go.AM
