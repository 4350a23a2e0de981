/- The code of the functions that the first examples of chapter 8 run. -/
import Derived.Test.YtnhkllkecbmchaaGreatDoorAMc
import Derived.Test.YtnhkllkecbmchaaGreatDoorProg
namespace Go.AM
open Go.Proofs
set_option maxRecDepth 100000
def ac9_0 : List AOper := [
  ⟨(some 0), (.mv (.const (.bool false))), none⟩]
def ac9_1 : List AOper := [
  ⟨(some 13), (.call 52 []), none⟩,
  ⟨(some 14), (.call 51 [(.tmp 13)]), none⟩,
  ⟨(some 12), (.mv (.tmp 14)), none⟩,
  ⟨(some 15), (.extract 0 (.tmp 12)), none⟩,
  ⟨(some 16), (.extract 1 (.tmp 12)), none⟩,
  ⟨(some 1), (.mv (.tmp 15)), none⟩,
  ⟨(some 2), (.mv (.tmp 16)), none⟩]
def ac9_2 : List AOper := [
  ⟨(some 18), (.call 54 []), none⟩,
  ⟨(some 19), (.call 53 [(.tmp 18)]), none⟩,
  ⟨(some 17), (.mv (.tmp 19)), none⟩,
  ⟨(some 20), (.extract 0 (.tmp 17)), none⟩,
  ⟨(some 21), (.extract 1 (.tmp 17)), none⟩,
  ⟨(some 3), (.mv (.tmp 20)), none⟩,
  ⟨(some 4), (.mv (.tmp 21)), none⟩]
def ac9_3 : List AOper := [
  ⟨(some 23), (.call 56 []), none⟩,
  ⟨(some 24), (.bslice 1 3 [(.v (.bool false))] [(0, (.const (.bool false))), (1, (.const (.bool false))), (2, (.const (.bool false)))]), none⟩,
  ⟨(some 25), (.bslice 1 3 [(.v (.bool false))] [(0, (.const (.bool true))), (1, (.const (.bool true))), (2, (.const (.bool true)))]), none⟩,
  ⟨(some 26), (.build [.nils, .nils] [(0, 1, (.tmp 24)), (1, 1, (.tmp 25))]), none⟩,
  ⟨(some 27), (.call 55 [(.tmp 23), (.tmp 26)]), none⟩,
  ⟨(some 22), (.mv (.tmp 27)), none⟩,
  ⟨(some 28), (.extract 0 (.tmp 22)), none⟩,
  ⟨(some 29), (.extract 1 (.tmp 22)), none⟩,
  ⟨(some 30), (.extract 2 (.tmp 22)), none⟩,
  ⟨(some 5), (.mv (.tmp 28)), none⟩,
  ⟨(some 6), (.mv (.tmp 29)), none⟩,
  ⟨(some 7), (.mv (.tmp 30)), none⟩]
def ac9_4 : List AOper := [
  ⟨(some 32), (.build [(.d (.v (.int .i64 0))), (.d (.v (.int .i64 0))), (.d (.v (.int .i64 0)))] [(0, 1, (.const (.int .i64 20000))), (1, 1, (.const (.int .i64 5000))), (2, 1, (.const (.int .i64 1)))]), none⟩,
  ⟨(some 33), (.build [(.d (.v (.int .i64 0))), (.d (.v (.int .i64 0)))] [(0, 1, (.const (.int .i64 100))), (1, 1, (.const (.int .i64 125)))]), none⟩,
  ⟨(some 34), (.call 57 [(.tmp 32), (.tmp 33)]), none⟩,
  ⟨(some 31), (.mv (.tmp 34)), none⟩,
  ⟨(some 35), (.extract 0 (.tmp 31)), none⟩,
  ⟨(some 36), (.extract 1 (.tmp 31)), none⟩,
  ⟨(some 8), (.alloc [(.d (.v (.int .i64 0))), (.d (.v (.int .i64 0)))]), none⟩,
  ⟨none, (.store 2 (.tmp 8) (.tmp 35)), none⟩,
  ⟨(some 9), (.mv (.tmp 36)), none⟩]
def ac9_5 : List AOper := [
  ⟨(some 38), (.build [(.d (.v (.int .i64 0))), (.d (.v (.int .i64 0)))] [(0, 1, (.const (.int .i64 500))), (1, 1, (.const (.int .i64 600)))]), none⟩,
  ⟨(some 39), (.build [(.d (.v (.int .i64 0))), (.d (.v (.int .i64 0)))] [(0, 1, (.const (.int .i64 10))), (1, 1, (.const (.int .i64 11)))]), none⟩,
  ⟨(some 40), (.call 58 [(.tmp 38), (.tmp 39)]), none⟩,
  ⟨(some 37), (.mv (.tmp 40)), none⟩,
  ⟨(some 41), (.extract 0 (.tmp 37)), none⟩,
  ⟨(some 42), (.extract 1 (.tmp 37)), none⟩,
  ⟨(some 10), (.alloc [(.d (.v (.int .i64 0))), (.d (.v (.int .i64 0)))]), none⟩,
  ⟨none, (.store 2 (.tmp 10) (.tmp 41)), none⟩,
  ⟨(some 11), (.mv (.tmp 42)), none⟩]
def ac9_6 : List AOper := [
  ⟨(some 43), (.mv (.tmp 2)), none⟩,
  ⟨(some 44), (.bin .eql 28 (.tmp 43) (.const (.int .i64 0))), none⟩,
  ⟨(some 45), (.mv (.tmp 44)), none⟩,
  ⟨(some 46), (.mv (.tmp 1)), (some (45, true))⟩,
  ⟨(some 47), (.build [(.d (.v (.int .i64 0))), (.d (.v (.int .i64 0)))] [(0, 1, (.const (.int .i64 9000))), (1, 1, (.const (.int .i64 10000)))]), (some (45, true))⟩,
  ⟨(some 48), (.build [(.d (.v (.int .i64 0))), (.d (.v (.int .i64 0)))] [(0, 1, (.const (.int .i64 29000))), (1, 1, (.const (.int .i64 30000)))]), (some (45, true))⟩,
  ⟨(some 49), (.bslice 2 2 [(.v (.int .i64 0)), (.v (.int .i64 0))] [(0, (.tmp 47)), (1, (.tmp 48))]), (some (45, true))⟩,
  ⟨(some 50), (.call 59 [(.tmp 46), (.tmp 49)]), (some (45, true))⟩,
  ⟨(some 51), (.pick (.tmp 45) (.tmp 50) (.const (.bool false))), none⟩,
  ⟨(some 52), (.mv (.tmp 51)), none⟩,
  ⟨(some 53), (.mv (.tmp 4)), (some (52, true))⟩,
  ⟨(some 54), (.bin .eql 28 (.tmp 53) (.const (.int .i64 0))), (some (52, true))⟩,
  ⟨(some 55), (.pick (.tmp 52) (.tmp 54) (.const (.bool false))), none⟩,
  ⟨(some 56), (.mv (.tmp 55)), none⟩,
  ⟨(some 57), (.mv (.tmp 3)), (some (56, true))⟩,
  ⟨(some 58), (.len (.tmp 57)), (some (56, true))⟩,
  ⟨(some 59), (.bin .eql 3 (.tmp 58) (.const (.int .i64 2))), (some (56, true))⟩,
  ⟨(some 60), (.pick (.tmp 56) (.tmp 59) (.const (.bool false))), none⟩,
  ⟨(some 61), (.mv (.tmp 60)), none⟩,
  ⟨(some 62), (.mv (.tmp 3)), (some (61, true))⟩,
  ⟨(some 63), (.iaddr 4 none (.tmp 62) (.const (.int .i64 0))), (some (61, true))⟩,
  ⟨(some 64), (.load true 4 (.tmp 63)), (some (61, true))⟩,
  ⟨(some 65), (.build [(.d (.v (.bool false))), (.d (.v (.int .i64 0))), (.d (.v (.int .i64 0))), (.d (.v (.int .i64 0)))] [(0, 1, (.const (.bool true))), (1, 1, (.const (.int .i64 2))), (2, 1, (.const (.int .i64 4))), (3, 1, (.const (.int .i64 5)))]), (some (61, true))⟩,
  ⟨(some 66), (.bin .eql 146 (.tmp 64) (.tmp 65)), (some (61, true))⟩,
  ⟨(some 67), (.pick (.tmp 61) (.tmp 66) (.const (.bool false))), none⟩,
  ⟨(some 68), (.mv (.tmp 67)), none⟩,
  ⟨(some 69), (.mv (.tmp 7)), (some (68, true))⟩,
  ⟨(some 70), (.bin .eql 28 (.tmp 69) (.const (.int .i64 0))), (some (68, true))⟩,
  ⟨(some 71), (.pick (.tmp 68) (.tmp 70) (.const (.bool false))), none⟩,
  ⟨(some 72), (.mv (.tmp 71)), none⟩,
  ⟨(some 73), (.mv (.tmp 5)), (some (72, true))⟩,
  ⟨(some 74), (.bslice 1 3 [(.v (.int .i64 0))] [(0, (.const (.int .i64 2))), (1, (.const (.int .i64 1))), (2, (.const (.int .i64 0)))]), (some (72, true))⟩,
  ⟨(some 75), (.call 60 [(.tmp 73), (.tmp 74)]), (some (72, true))⟩,
  ⟨(some 76), (.pick (.tmp 72) (.tmp 75) (.const (.bool false))), none⟩,
  ⟨(some 77), (.mv (.tmp 76)), none⟩,
  ⟨(some 78), (.mv (.tmp 9)), (some (77, true))⟩,
  ⟨(some 79), (.bin .eql 28 (.tmp 78) (.const (.int .i64 0))), (some (77, true))⟩,
  ⟨(some 80), (.pick (.tmp 77) (.tmp 79) (.const (.bool false))), none⟩,
  ⟨(some 81), (.mv (.tmp 80)), none⟩,
  ⟨(some 82), (.load true 2 (.tmp 8)), (some (81, true))⟩,
  ⟨(some 83), (.build [(.d (.v (.int .i64 0))), (.d (.v (.int .i64 0)))] [(0, 1, (.const (.int .i64 5000))), (1, 1, (.const (.int .i64 6250)))]), (some (81, true))⟩,
  ⟨(some 84), (.bin .eql 23 (.tmp 82) (.tmp 83)), (some (81, true))⟩,
  ⟨(some 85), (.pick (.tmp 81) (.tmp 84) (.const (.bool false))), none⟩,
  ⟨(some 86), (.mv (.tmp 85)), none⟩,
  ⟨(some 87), (.mv (.tmp 11)), (some (86, true))⟩,
  ⟨(some 88), (.bin .eql 28 (.tmp 87) (.const (.int .i64 0))), (some (86, true))⟩,
  ⟨(some 89), (.pick (.tmp 86) (.tmp 88) (.const (.bool false))), none⟩,
  ⟨(some 90), (.mv (.tmp 89)), none⟩,
  ⟨(some 91), (.load true 2 (.tmp 10)), (some (90, true))⟩,
  ⟨(some 92), (.build [(.d (.v (.int .i64 0))), (.d (.v (.int .i64 0)))] [(0, 1, (.const (.int .i64 5))), (1, 1, (.const (.int .i64 7)))]), (some (90, true))⟩,
  ⟨(some 93), (.bin .eql 23 (.tmp 91) (.tmp 92)), (some (90, true))⟩,
  ⟨(some 94), (.pick (.tmp 90) (.tmp 93) (.const (.bool false))), none⟩,
  ⟨(some 0), (.mv (.tmp 94)), none⟩]
def tr9 : List (Nat × Tidy) := [(0, ⟨[], false, [], []⟩), (1, ⟨[1, 2], false, [], []⟩), (2, ⟨[1, 2, 3, 4], false, [], []⟩), (3, ⟨[1, 2, 3, 4, 5, 7], false, [], []⟩), (4, ⟨[1, 2, 3, 4, 5, 7, 8, 9], false, [], []⟩), (5, ⟨[1, 2, 3, 4, 5, 7, 8, 9, 10, 11], false, [], []⟩), (6, ⟨[0], false, [], []⟩)]
def tl9 : List (Nat × Tidy) := []
def ac9 : ACode := (.seq (.region ac9_0 [] (some ⟨[], false, [], []⟩)) (.seq (.region ac9_1 [] (some ⟨[1, 2], false, [], []⟩)) (.seq (.region ac9_2 [] (some ⟨[1, 2, 3, 4], false, [], []⟩)) (.seq (.region ac9_3 [] (some ⟨[1, 2, 3, 4, 5, 7], false, [], []⟩)) (.seq (.region ac9_4 [] (some ⟨[1, 2, 3, 4, 5, 7, 8, 9], false, [], []⟩)) (.seq (.region ac9_5 [] (some ⟨[1, 2, 3, 4, 5, 7, 8, 9, 10, 11], false, [], []⟩)) (.seq (.region ac9_6 [] (some ⟨[0], false, [], []⟩)) .ret)))))))
def rs9 : List AResV := [.tmp 0]
def ft9 : FnT := ⟨95, tr9, tl9, ac9, rs9⟩
theorem is9 : FnIs Tryz.prog 9 95 tr9 tl9 ac9 rs9 := ⟨Tryz.f9, Tryz.func9, rfl, by kernel_rfl, by kernel_rfl, by kernel_rfl⟩
def ac51_0 : List AOper := [
  ⟨(some 1), (.box (.tmp 0)), none⟩,
  ⟨(some 2), (.mv (.const (.slice none 0 0))), none⟩,
  ⟨(some 3), (.mv (.const (.int .i64 0))), none⟩]
def ac51_1 : List AOper := [
  ⟨(some 13), (.load true 4 (.tmp 1)), none⟩,
  ⟨(some 14), (.call 138 [(.tmp 13)]), none⟩,
  ⟨(some 12), (.mv (.tmp 14)), none⟩,
  ⟨(some 15), (.extract 0 (.tmp 12)), none⟩,
  ⟨(some 16), (.extract 1 (.tmp 12)), none⟩,
  ⟨(some 4), (.mv (.tmp 15)), none⟩,
  ⟨(some 5), (.mv (.tmp 16)), none⟩]
def ac51_2 : List AOper := [
  ⟨(some 17), (.mv (.tmp 5)), none⟩,
  ⟨(some 18), (.bin .neq 28 (.tmp 17) (.const (.int .i64 0))), none⟩]
def ac51_3 : List AOper := [
  ⟨(some 19), (.mv (.tmp 5)), none⟩,
  ⟨(some 2), (.mv (.const (.slice none 0 0))), none⟩,
  ⟨(some 3), (.mv (.tmp 19)), none⟩]
def ac51_4 : List AOper := [
  ⟨(some 20), (.load true 4 (.tmp 1)), none⟩,
  ⟨(some 21), (.call 139 [(.tmp 20)]), none⟩,
  ⟨(some 6), (.mv (.tmp 21)), none⟩]
def ac51_5 : List AOper := [
  ⟨(some 7), (.mv (.const (.int .i64 1))), none⟩]
def ac51_6 : List AOper := [
  ⟨(some 22), (.mv (.tmp 7)), none⟩,
  ⟨(some 23), (.mv (.tmp 6)), none⟩,
  ⟨(some 24), (.len (.tmp 23)), none⟩,
  ⟨(some 25), (.bin .lss 3 (.tmp 22) (.tmp 24)), none⟩]
def ac51_7 : List AOper := [
  ⟨(some 28), (.mv (.tmp 6)), none⟩,
  ⟨(some 29), (.mv (.tmp 7)), none⟩,
  ⟨(some 30), (.mv (.tmp 6)), none⟩,
  ⟨(some 31), (.mv (.tmp 7)), none⟩,
  ⟨(some 32), (.iaddr 3 none (.tmp 30) (.tmp 31)), none⟩,
  ⟨(some 33), (.faddr 1 (.tmp 32)), none⟩,
  ⟨(some 34), (.load true 2 (.tmp 33)), none⟩,
  ⟨(some 35), (.mv (.tmp 6)), none⟩,
  ⟨(some 36), (.mv (.tmp 7)), none⟩,
  ⟨(some 37), (.bin .sub 3 (.tmp 36) (.const (.int .i64 1))), none⟩,
  ⟨(some 38), (.iaddr 3 none (.tmp 35) (.tmp 37)), none⟩,
  ⟨(some 39), (.load true 3 (.tmp 38)), none⟩,
  ⟨(some 40), (.faddr 0 (.tmp 1)), none⟩,
  ⟨(some 41), (.load true 2 (.tmp 40)), none⟩,
  ⟨(some 42), (.mv (.tmp 6)), none⟩,
  ⟨(some 43), (.mv (.tmp 7)), none⟩,
  ⟨(some 44), (.iaddr 3 none (.tmp 42) (.tmp 43)), none⟩,
  ⟨(some 45), (.faddr 0 (.tmp 44)), none⟩,
  ⟨(some 46), (.load false 1 (.tmp 45)), none⟩,
  ⟨(some 47), (.call 141 [(.tmp 39), (.tmp 41), (.tmp 46)]), none⟩,
  ⟨(some 48), (.call 140 [(.tmp 34), (.tmp 47)]), none⟩,
  ⟨(some 49), (.iaddr 3 none (.tmp 28) (.tmp 29)), none⟩,
  ⟨(some 50), (.faddr 1 (.tmp 49)), none⟩,
  ⟨none, (.store 2 (.tmp 50) (.tmp 48)), none⟩]
def ac51_8 : List AOper := [
  ⟨(some 51), (.mv (.tmp 6)), none⟩,
  ⟨(some 52), (.mv (.tmp 7)), none⟩,
  ⟨(some 53), (.iaddr 3 none (.tmp 51) (.tmp 52)), none⟩,
  ⟨(some 54), (.faddr 1 (.tmp 53)), none⟩,
  ⟨(some 55), (.load true 2 (.tmp 54)), none⟩,
  ⟨(some 56), (.call 142 [(.tmp 55)]), none⟩]
def ac51_9 : List AOper := [
  ⟨(some 2), (.mv (.const (.slice none 0 0))), none⟩,
  ⟨(some 3), (.mv (.const (.int .i64 17))), none⟩]
def ac51_10 : List AOper := [
  ⟨(some 26), (.mv (.tmp 7)), none⟩,
  ⟨(some 27), (.bin .add 3 (.tmp 26) (.const (.int .i64 1))), none⟩,
  ⟨(some 7), (.mv (.tmp 27)), none⟩]
def ac51_11 : List AOper := [
  ⟨(some 57), (.mv (.tmp 6)), none⟩,
  ⟨(some 58), (.len (.tmp 57)), none⟩,
  ⟨(some 59), (.bin .sub 3 (.tmp 58) (.const (.int .i64 2))), none⟩,
  ⟨(some 8), (.mv (.tmp 59)), none⟩]
def ac51_12 : List AOper := [
  ⟨(some 60), (.mv (.tmp 8)), none⟩,
  ⟨(some 61), (.bin .geq 3 (.tmp 60) (.const (.int .i64 0))), none⟩]
def ac51_13 : List AOper := [
  ⟨(some 64), (.mv (.tmp 6)), none⟩,
  ⟨(some 65), (.mv (.tmp 8)), none⟩,
  ⟨(some 66), (.mv (.tmp 6)), none⟩,
  ⟨(some 67), (.mv (.tmp 8)), none⟩,
  ⟨(some 68), (.iaddr 3 none (.tmp 66) (.tmp 67)), none⟩,
  ⟨(some 69), (.faddr 1 (.tmp 68)), none⟩,
  ⟨(some 70), (.load true 2 (.tmp 69)), none⟩,
  ⟨(some 71), (.mv (.tmp 6)), none⟩,
  ⟨(some 72), (.mv (.tmp 8)), none⟩,
  ⟨(some 73), (.bin .add 3 (.tmp 72) (.const (.int .i64 1))), none⟩,
  ⟨(some 74), (.iaddr 3 none (.tmp 71) (.tmp 73)), none⟩,
  ⟨(some 75), (.load true 3 (.tmp 74)), none⟩,
  ⟨(some 76), (.faddr 0 (.tmp 1)), none⟩,
  ⟨(some 77), (.load true 2 (.tmp 76)), none⟩,
  ⟨(some 78), (.mv (.tmp 6)), none⟩,
  ⟨(some 79), (.mv (.tmp 8)), none⟩,
  ⟨(some 80), (.iaddr 3 none (.tmp 78) (.tmp 79)), none⟩,
  ⟨(some 81), (.faddr 0 (.tmp 80)), none⟩,
  ⟨(some 82), (.load false 1 (.tmp 81)), none⟩,
  ⟨(some 83), (.call 143 [(.tmp 75), (.tmp 77), (.tmp 82)]), none⟩,
  ⟨(some 84), (.call 140 [(.tmp 70), (.tmp 83)]), none⟩,
  ⟨(some 85), (.iaddr 3 none (.tmp 64) (.tmp 65)), none⟩,
  ⟨(some 86), (.faddr 1 (.tmp 85)), none⟩,
  ⟨none, (.store 2 (.tmp 86) (.tmp 84)), none⟩]
def ac51_14 : List AOper := [
  ⟨(some 62), (.mv (.tmp 8)), none⟩,
  ⟨(some 63), (.bin .sub 3 (.tmp 62) (.const (.int .i64 1))), none⟩,
  ⟨(some 8), (.mv (.tmp 63)), none⟩]
def ac51_15 : List AOper := [
  ⟨(some 9), (.mv (.const (.slice none 0 0))), none⟩]
def ac51_16 : List AOper := [
  ⟨(some 87), (.mv (.tmp 6)), none⟩,
  ⟨(some 88), (.slice 3 false (.tmp 87) (some (.const (.int .i64 1))) none), none⟩,
  ⟨(some 89), (.len (.tmp 88)), none⟩,
  ⟨(some 90), (.mv (.const (.int .i64 0))), none⟩]
def ac51_17 : List AOper := [
  ⟨(some 91), (.bin .lss 3 (.tmp 90) (.tmp 89)), none⟩]
def ac51_18 : List AOper := [
  ⟨(some 92), (.iaddr 3 none (.tmp 88) (.tmp 90)), none⟩,
  ⟨(some 93), (.load true 3 (.tmp 92)), none⟩,
  ⟨(some 11), (.alloc [(.d (.v (.int .i64 0))), (.d (.v (.int .i64 0))), (.d (.v (.int .i64 0)))]), none⟩,
  ⟨none, (.store 3 (.tmp 11) (.tmp 93)), none⟩]
def ac51_19 : List AOper := [
  ⟨(some 94), (.mv (.tmp 9)), none⟩,
  ⟨(some 95), (.faddr 1 (.tmp 11)), none⟩,
  ⟨(some 96), (.load true 2 (.tmp 95)), none⟩,
  ⟨(some 97), (.bslice 2 1 [(.v (.int .i64 0)), (.v (.int .i64 0))] [(0, (.tmp 96))]), none⟩,
  ⟨(some 98), (.append 2 16 (.tmp 94) (.tmp 97)), none⟩,
  ⟨(some 9), (.mv (.tmp 98)), none⟩]
def ac51_20 : List AOper := [
  ⟨(some 99), (.bin .add 3 (.tmp 90) (.const (.int .i64 1))), none⟩,
  ⟨(some 90), (.mv (.tmp 99)), none⟩]
def ac51_21 : List AOper := [
  ⟨(some 100), (.mv (.tmp 9)), none⟩,
  ⟨(some 2), (.mv (.tmp 100)), none⟩,
  ⟨(some 3), (.mv (.const (.int .i64 0))), none⟩]
def tr51 : List (Nat × Tidy) := [(0, ⟨[1], false, [], []⟩), (1, ⟨[1, 5], false, [], []⟩), (2, ⟨[1, 5, 18], false, [], []⟩), (3, ⟨[2, 3], false, [], []⟩), (4, ⟨[1, 6], false, [], []⟩), (5, ⟨[1, 6, 7], false, [], []⟩), (6, ⟨[1, 6, 7, 25], false, [], []⟩), (8, ⟨[1, 6, 7], false, [], []⟩), (9, ⟨[1, 6, 7, 56], false, [], []⟩), (10, ⟨[2, 3], false, [], []⟩), (7, ⟨[1, 6, 7], false, [], []⟩), (11, ⟨[1, 6, 8], false, [], []⟩), (12, ⟨[1, 6, 8, 61], false, [], []⟩), (14, ⟨[1, 6, 8], false, [], []⟩), (13, ⟨[1, 6, 8], false, [], []⟩), (15, ⟨[6, 9], false, [], []⟩), (16, ⟨[9, 88, 89, 90], false, [], []⟩), (17, ⟨[9, 88, 89, 90, 91], false, [], []⟩), (18, ⟨[9, 11, 88, 89, 90], false, [], []⟩), (19, ⟨[9, 88, 89, 90], false, [], []⟩), (20, ⟨[9, 88, 89, 90], false, [], []⟩), (21, ⟨[2, 3], false, [], []⟩)]
def tl51 : List (Nat × Tidy) := [(6, ⟨[1, 6, 7], true, [⟨false, 6, 0, 20006, 0⟩, ⟨false, 7, 0, 20007, 0⟩], []⟩), (12, ⟨[1, 6, 8], true, [⟨false, 6, 0, 20006, 0⟩, ⟨false, 8, 0, 20008, 0⟩], []⟩), (17, ⟨[9, 88, 89, 90], true, [⟨false, 9, 0, 20009, 0⟩, ⟨false, 88, 0, 20088, 0⟩, ⟨false, 90, 0, 20090, 0⟩], []⟩)]
def ac51 : ACode := (.seq (.region ac51_0 [] (some ⟨[1], false, [], []⟩)) (.seq (.seq (.region ac51_1 [] (some ⟨[1, 5], false, [], []⟩)) (.seq (.region ac51_2 [] (some ⟨[1, 5, 18], false, [], []⟩)) (.cond (.tmp 18) (.seq (.region ac51_3 [] (some ⟨[2, 3], false, [], []⟩)) .ret) .skip))) (.seq (.region ac51_4 [] (some ⟨[1, 6], false, [], []⟩)) (.seq (.seq (.region ac51_5 [] (some ⟨[1, 6, 7], false, [], []⟩)) (.block 0 (.loop (some ⟨[1, 6, 7], true, [⟨false, 6, 0, 20006, 0⟩, ⟨false, 7, 0, 20007, 0⟩], []⟩) (.seq (.seq (.region ac51_6 [] (some ⟨[1, 6, 7, 25], false, [], []⟩)) (.cond (.tmp 25) .skip (.exit 0))) (.seq (.block 1 (.seq (.region ac51_7 [(4, 19), (6, 19)] (some ⟨[1, 6, 7], false, [], []⟩)) (.seq (.region ac51_8 [] (some ⟨[1, 6, 7, 56], false, [], []⟩)) (.cond (.tmp 56) (.seq (.region ac51_9 [] (some ⟨[2, 3], false, [], []⟩)) .ret) .skip)))) (.region ac51_10 [] (some ⟨[1, 6, 7], false, [], []⟩))))))) (.seq (.seq (.region ac51_11 [] (some ⟨[1, 6, 8], false, [], []⟩)) (.block 2 (.loop (some ⟨[1, 6, 8], true, [⟨false, 6, 0, 20006, 0⟩, ⟨false, 8, 0, 20008, 0⟩], []⟩) (.seq (.seq (.region ac51_12 [] (some ⟨[1, 6, 8, 61], false, [], []⟩)) (.cond (.tmp 61) .skip (.exit 2))) (.seq (.block 3 (.region ac51_13 [(4, 19), (6, 19)] (some ⟨[1, 6, 8], false, [], []⟩))) (.region ac51_14 [] (some ⟨[1, 6, 8], false, [], []⟩))))))) (.seq (.region ac51_15 [] (some ⟨[6, 9], false, [], []⟩)) (.seq (.seq (.region ac51_16 [] (some ⟨[9, 88, 89, 90], false, [], []⟩)) (.block 4 (.loop (some ⟨[9, 88, 89, 90], true, [⟨false, 9, 0, 20009, 0⟩, ⟨false, 88, 0, 20088, 0⟩, ⟨false, 90, 0, 20090, 0⟩], []⟩) (.seq (.region ac51_17 [] (some ⟨[9, 88, 89, 90, 91], false, [], []⟩)) (.seq (.cond (.tmp 91) .skip (.exit 4)) (.seq (.block 5 (.seq (.region ac51_18 [] (some ⟨[9, 11, 88, 89, 90], false, [], []⟩)) (.region ac51_19 [] (some ⟨[9, 88, 89, 90], false, [], []⟩)))) (.region ac51_20 [] (some ⟨[9, 88, 89, 90], false, [], []⟩)))))))) (.seq (.region ac51_21 [] (some ⟨[2, 3], false, [], []⟩)) .ret))))))))
def rs51 : List AResV := [.tmp 2, .tmp 3]
def ft51 : FnT := ⟨101, tr51, tl51, ac51, rs51⟩
theorem is51 : FnIs Tryz.prog 51 101 tr51 tl51 ac51 rs51 := ⟨Tryz.f51, Tryz.func51, rfl, by kernel_rfl, by kernel_rfl, by kernel_rfl⟩
def ac52_0 : List AOper := [
  ⟨(some 0), (.alloc [(.d (.v (.int .i64 0))), (.d (.v (.int .i64 0))), (.d (.v (.int .i64 0))), .nils]), none⟩]
def ac52_1 : List AOper := [
  ⟨(some 1), (.build [(.d (.v (.int .i64 0))), (.d (.v (.int .i64 0)))] [(0, 1, (.const (.int .i64 1000))), (1, 1, (.const (.int .i64 2000)))]), none⟩,
  ⟨(some 2), (.build [(.d (.v (.int .i64 0))), (.d (.v (.int .i64 0)))] [(0, 1, (.const (.int .i64 5))), (1, 1, (.const (.int .i64 10)))]), none⟩,
  ⟨(some 3), (.build [(.d (.v (.int .i64 0))), (.d (.v (.int .i64 0)))] [(0, 1, (.const (.int .i64 15))), (1, 1, (.const (.int .i64 30)))]), none⟩,
  ⟨(some 4), (.bslice 2 2 [(.v (.int .i64 0)), (.v (.int .i64 0))] [(0, (.tmp 2)), (1, (.tmp 3))]), none⟩,
  ⟨(some 5), (.build [(.d (.v (.int .i64 0))), (.d (.v (.int .i64 0))), (.d (.v (.int .i64 0))), .nils] [(0, 2, (.tmp 1)), (2, 1, (.const (.int .i64 1))), (3, 1, (.tmp 4))]), none⟩,
  ⟨none, (.store 4 (.tmp 0) (.tmp 5)), none⟩]
def tr52 : List (Nat × Tidy) := [(0, ⟨[0], false, [], []⟩), (1, ⟨[0], false, [], []⟩)]
def tl52 : List (Nat × Tidy) := []
def ac52 : ACode := (.seq (.region ac52_0 [] (some ⟨[0], false, [], []⟩)) (.seq (.region ac52_1 [] (some ⟨[0], false, [], []⟩)) .ret))
def rs52 : List AResV := [.cell 0 true 4]
def ft52 : FnT := ⟨6, tr52, tl52, ac52, rs52⟩
theorem is52 : FnIs Tryz.prog 52 6 tr52 tl52 ac52 rs52 := ⟨Tryz.f52, Tryz.func52, rfl, by kernel_rfl, by kernel_rfl, by kernel_rfl⟩
def ac53_0 : List AOper := [
  ⟨(some 1), (.box (.tmp 0)), none⟩,
  ⟨(some 2), (.mv (.const (.slice none 0 0))), none⟩,
  ⟨(some 3), (.mv (.const (.int .i64 0))), none⟩]
def ac53_1 : List AOper := [
  ⟨(some 15), (.load true 2 (.tmp 1)), none⟩,
  ⟨(some 16), (.call 144 [(.tmp 15)]), none⟩,
  ⟨(some 14), (.mv (.tmp 16)), none⟩,
  ⟨(some 17), (.extract 0 (.tmp 14)), none⟩,
  ⟨(some 18), (.extract 1 (.tmp 14)), none⟩,
  ⟨(some 4), (.mv (.tmp 17)), none⟩,
  ⟨(some 5), (.mv (.tmp 18)), none⟩]
def ac53_2 : List AOper := [
  ⟨(some 19), (.mv (.tmp 5)), none⟩,
  ⟨(some 20), (.bin .neq 28 (.tmp 19) (.const (.int .i64 0))), none⟩]
def ac53_3 : List AOper := [
  ⟨(some 21), (.mv (.tmp 5)), none⟩,
  ⟨(some 2), (.mv (.const (.slice none 0 0))), none⟩,
  ⟨(some 3), (.mv (.tmp 21)), none⟩]
def ac53_4 : List AOper := [
  ⟨(some 6), (.mv (.const (.slice none 0 0))), none⟩]
def ac53_5 : List AOper := [
  ⟨(some 22), (.faddr 0 (.tmp 1)), none⟩,
  ⟨(some 23), (.load false 1 (.tmp 22)), none⟩,
  ⟨(some 24), (.bin .mul 3 (.const (.int .i64 2)) (.tmp 23)), none⟩,
  ⟨(some 7), (.alloc [(.d (.v (.int .i64 0)))]), none⟩,
  ⟨none, (.store 1 (.tmp 7) (.tmp 24)), none⟩]
def ac53_6 : List AOper := [
  ⟨(some 25), (.build [(.d (.v (.int .i64 0))), .nils, (.d (.v (.int .i64 0)))] [(2, 1, (.const (.int .i64 0)))]), none⟩,
  ⟨(some 8), (.alloc [(.d (.v (.int .i64 0))), .nils, (.d (.v (.int .i64 0)))]), none⟩,
  ⟨none, (.store 3 (.tmp 8) (.tmp 25)), none⟩]
def ac53_7 : List AOper := [
  ⟨(some 26), (.faddr 1 (.tmp 1)), none⟩,
  ⟨(some 27), (.load false 1 (.tmp 26)), none⟩,
  ⟨(some 28), (.len (.tmp 27)), none⟩,
  ⟨(some 29), (.mv (.const (.int .i64 0))), none⟩]
def ac53_8 : List AOper := [
  ⟨(some 30), (.bin .lss 3 (.tmp 29) (.tmp 28)), none⟩]
def ac53_9 : List AOper := [
  ⟨(some 31), (.mv (.tmp 29)), none⟩,
  ⟨(some 32), (.iaddr 1 none (.tmp 27) (.tmp 29)), none⟩,
  ⟨(some 33), (.load false 1 (.tmp 32)), none⟩,
  ⟨(some 9), (.mv (.tmp 31)), none⟩,
  ⟨(some 10), (.mv (.tmp 33)), none⟩]
def ac53_10 : List AOper := [
  ⟨(some 34), (.mv (.tmp 10)), none⟩,
  ⟨(some 35), (.pure (oB (.convert 80 3 (.tmp 34)) 3)), none⟩,
  ⟨(some 11), (.mv (.tmp 35)), none⟩]
def ac53_11 : List AOper := [
  ⟨(some 36), (.faddr 1 (.tmp 8)), none⟩,
  ⟨(some 37), (.load false 1 (.tmp 36)), none⟩,
  ⟨(some 38), (.len (.tmp 37)), none⟩,
  ⟨(some 39), (.bin .eql 3 (.tmp 38) (.const (.int .i64 0))), none⟩]
def ac53_12 : List AOper := [
  ⟨(some 40), (.faddr 1 (.tmp 8)), none⟩,
  ⟨(some 41), (.load false 1 (.tmp 40)), none⟩,
  ⟨(some 42), (.mv (.tmp 11)), none⟩,
  ⟨(some 43), (.bslice 1 1 [(.v (.int .i64 0))] [(0, (.tmp 42))]), none⟩,
  ⟨(some 44), (.append 1 8 (.tmp 41) (.tmp 43)), none⟩,
  ⟨(some 45), (.faddr 1 (.tmp 8)), none⟩,
  ⟨none, (.store 1 (.tmp 45) (.tmp 44)), none⟩]
def ac53_13 : List AOper := [
  ⟨(some 46), (.mv (.tmp 11)), none⟩,
  ⟨(some 47), (.faddr 1 (.tmp 8)), none⟩,
  ⟨(some 48), (.load false 1 (.tmp 47)), none⟩,
  ⟨(some 49), (.call 136 [(.tmp 48)]), none⟩,
  ⟨(some 50), (.pure (oB (.call { callee := .builtin .max, args := #[(.tmp 46), (.tmp 49)], argTypes := #[3, 3] }) 3)), none⟩,
  ⟨(some 51), (.mv (.tmp 11)), none⟩,
  ⟨(some 52), (.faddr 1 (.tmp 8)), none⟩,
  ⟨(some 53), (.load false 1 (.tmp 52)), none⟩,
  ⟨(some 54), (.call 135 [(.tmp 53)]), none⟩,
  ⟨(some 55), (.pure (oB (.call { callee := .builtin .min, args := #[(.tmp 51), (.tmp 54)], argTypes := #[3, 3] }) 3)), none⟩,
  ⟨(some 12), (.alloc [(.d (.v (.int .i64 0)))]), none⟩,
  ⟨(some 13), (.alloc [(.d (.v (.int .i64 0)))]), none⟩,
  ⟨none, (.store 1 (.tmp 12) (.tmp 50)), none⟩,
  ⟨none, (.store 1 (.tmp 13) (.tmp 55)), none⟩]
def ac53_14 : List AOper := [
  ⟨(some 63), (.faddr 2 (.tmp 8)), none⟩,
  ⟨(some 64), (.load false 1 (.tmp 63)), none⟩,
  ⟨(some 65), (.bin .neq 3 (.tmp 64) (.const (.int .i64 (-1)))), none⟩,
  ⟨(some 66), (.mv (.tmp 65)), none⟩,
  ⟨(some 67), (.load false 1 (.tmp 12)), (some (66, true))⟩,
  ⟨(some 68), (.mv (.tmp 11)), (some (66, true))⟩,
  ⟨(some 69), (.bin .sub 3 (.tmp 67) (.tmp 68)), (some (66, true))⟩,
  ⟨(some 70), (.load false 1 (.tmp 7)), (some (66, true))⟩,
  ⟨(some 71), (.bin .gtr 3 (.tmp 69) (.tmp 70)), (some (66, true))⟩,
  ⟨(some 72), (.pick (.tmp 66) (.tmp 71) (.const (.bool false))), none⟩,
  ⟨(some 62), (.mv (.tmp 72)), none⟩]
def ac53_15 : List AOper := [
  ⟨(some 73), (.faddr 2 (.tmp 8)), none⟩,
  ⟨(some 74), (.load false 1 (.tmp 73)), none⟩,
  ⟨(some 75), (.bin .eql 3 (.tmp 74) (.const (.int .i64 1))), none⟩]
def ac53_16 : List AOper := [
  ⟨(some 76), (.mv (.tmp 6)), none⟩,
  ⟨(some 77), (.load true 3 (.tmp 8)), none⟩,
  ⟨(some 78), (.mv (.tmp 9)), none⟩,
  ⟨(some 79), (.mkfn 146 [(.tmp 12), (.tmp 7)]), none⟩,
  ⟨(some 80), (.call 145 [(.tmp 77), (.tmp 78), (.tmp 79)]), none⟩,
  ⟨(some 81), (.bslice 4 1 [(.v (.bool false)), (.v (.int .i64 0)), (.v (.int .i64 0)), (.v (.int .i64 0))] [(0, (.tmp 80))]), none⟩,
  ⟨(some 82), (.append 4 32 (.tmp 76) (.tmp 81)), none⟩,
  ⟨(some 6), (.mv (.tmp 82)), none⟩]
def ac53_17 : List AOper := [
  ⟨(some 83), (.mv (.tmp 9)), none⟩,
  ⟨(some 84), (.mv (.tmp 11)), none⟩,
  ⟨(some 85), (.bslice 1 1 [(.v (.int .i64 0))] [(0, (.tmp 84))]), none⟩,
  ⟨(some 86), (.build [(.d (.v (.int .i64 0))), .nils, (.d (.v (.int .i64 0)))] [(0, 1, (.tmp 83)), (1, 1, (.tmp 85)), (2, 1, (.const (.int .i64 (-1))))]), none⟩,
  ⟨none, (.store 3 (.tmp 8) (.tmp 86)), none⟩]
def ac53_18 : List AOper := [
  ⟨(some 88), (.faddr 2 (.tmp 8)), none⟩,
  ⟨(some 89), (.load false 1 (.tmp 88)), none⟩,
  ⟨(some 90), (.bin .neq 3 (.tmp 89) (.const (.int .i64 1))), none⟩,
  ⟨(some 91), (.mv (.tmp 90)), none⟩,
  ⟨(some 92), (.mv (.tmp 11)), (some (91, true))⟩,
  ⟨(some 93), (.load false 1 (.tmp 13)), (some (91, true))⟩,
  ⟨(some 94), (.bin .sub 3 (.tmp 92) (.tmp 93)), (some (91, true))⟩,
  ⟨(some 95), (.load false 1 (.tmp 7)), (some (91, true))⟩,
  ⟨(some 96), (.bin .gtr 3 (.tmp 94) (.tmp 95)), (some (91, true))⟩,
  ⟨(some 97), (.pick (.tmp 91) (.tmp 96) (.const (.bool false))), none⟩,
  ⟨(some 87), (.mv (.tmp 97)), none⟩]
def ac53_19 : List AOper := [
  ⟨(some 98), (.faddr 2 (.tmp 8)), none⟩,
  ⟨(some 99), (.load false 1 (.tmp 98)), none⟩,
  ⟨(some 100), (.bin .eql 3 (.tmp 99) (.const (.int .i64 (-1)))), none⟩]
def ac53_20 : List AOper := [
  ⟨(some 101), (.mv (.tmp 6)), none⟩,
  ⟨(some 102), (.load true 3 (.tmp 8)), none⟩,
  ⟨(some 103), (.mv (.tmp 9)), none⟩,
  ⟨(some 104), (.mkfn 147 [(.tmp 13), (.tmp 7)]), none⟩,
  ⟨(some 105), (.call 145 [(.tmp 102), (.tmp 103), (.tmp 104)]), none⟩,
  ⟨(some 106), (.bslice 4 1 [(.v (.bool false)), (.v (.int .i64 0)), (.v (.int .i64 0)), (.v (.int .i64 0))] [(0, (.tmp 105))]), none⟩,
  ⟨(some 107), (.append 4 32 (.tmp 101) (.tmp 106)), none⟩,
  ⟨(some 6), (.mv (.tmp 107)), none⟩]
def ac53_21 : List AOper := [
  ⟨(some 108), (.mv (.tmp 9)), none⟩,
  ⟨(some 109), (.mv (.tmp 11)), none⟩,
  ⟨(some 110), (.bslice 1 1 [(.v (.int .i64 0))] [(0, (.tmp 109))]), none⟩,
  ⟨(some 111), (.build [(.d (.v (.int .i64 0))), .nils, (.d (.v (.int .i64 0)))] [(0, 1, (.tmp 108)), (1, 1, (.tmp 110)), (2, 1, (.const (.int .i64 1)))]), none⟩,
  ⟨none, (.store 3 (.tmp 8) (.tmp 111)), none⟩]
def ac53_22 : List AOper := [
  ⟨(some 56), (.faddr 1 (.tmp 8)), none⟩,
  ⟨(some 57), (.load false 1 (.tmp 56)), none⟩,
  ⟨(some 58), (.mv (.tmp 11)), none⟩,
  ⟨(some 59), (.bslice 1 1 [(.v (.int .i64 0))] [(0, (.tmp 58))]), none⟩,
  ⟨(some 60), (.append 1 8 (.tmp 57) (.tmp 59)), none⟩,
  ⟨(some 61), (.faddr 1 (.tmp 8)), none⟩,
  ⟨none, (.store 1 (.tmp 61) (.tmp 60)), none⟩]
def ac53_23 : List AOper := [
  ⟨(some 112), (.bin .add 3 (.tmp 29) (.const (.int .i64 1))), none⟩,
  ⟨(some 29), (.mv (.tmp 112)), none⟩]
def ac53_24 : List AOper := [
  ⟨(some 113), (.mv (.tmp 6)), none⟩,
  ⟨(some 2), (.mv (.tmp 113)), none⟩,
  ⟨(some 3), (.mv (.const (.int .i64 0))), none⟩]
def tr53 : List (Nat × Tidy) := [(0, ⟨[1], false, [], []⟩), (1, ⟨[1, 5], false, [], []⟩), (2, ⟨[1, 5, 20], false, [], []⟩), (3, ⟨[2, 3], false, [], []⟩), (4, ⟨[1, 6], false, [], []⟩), (5, ⟨[1, 6, 7], false, [], []⟩), (6, ⟨[1, 6, 7, 8], false, [], []⟩), (7, ⟨[6, 7, 8, 27, 28, 29], false, [], []⟩), (8, ⟨[6, 7, 8, 27, 28, 29, 30], false, [], []⟩), (9, ⟨[6, 7, 8, 9, 10, 27, 28, 29], false, [], []⟩), (10, ⟨[6, 7, 8, 9, 11, 27, 28, 29], false, [], []⟩), (11, ⟨[6, 7, 8, 9, 11, 27, 28, 29, 39], false, [], []⟩), (12, ⟨[6, 7, 8, 27, 28, 29], false, [], []⟩), (13, ⟨[6, 7, 8, 9, 11, 12, 13, 27, 28, 29], false, [], []⟩), (15, ⟨[6, 7, 8, 9, 11, 12, 13, 27, 28, 29, 62], false, [], []⟩), (16, ⟨[6, 7, 8, 9, 11, 12, 27, 28, 29, 75], false, [], []⟩), (17, ⟨[6, 7, 8, 9, 11, 27, 28, 29], false, [], []⟩), (18, ⟨[6, 7, 8, 27, 28, 29], false, [], []⟩), (19, ⟨[6, 7, 8, 9, 11, 13, 27, 28, 29, 87], false, [], []⟩), (20, ⟨[6, 7, 8, 9, 11, 13, 27, 28, 29, 100], false, [], []⟩), (21, ⟨[6, 7, 8, 9, 11, 27, 28, 29], false, [], []⟩), (22, ⟨[6, 7, 8, 27, 28, 29], false, [], []⟩), (14, ⟨[6, 7, 8, 27, 28, 29], false, [], []⟩), (23, ⟨[6, 7, 8, 27, 28, 29], false, [], []⟩), (24, ⟨[2, 3], false, [], []⟩)]
def tl53 : List (Nat × Tidy) := [(8, ⟨[6, 7, 8, 27, 28, 29], true, [⟨false, 6, 0, 20006, 0⟩, ⟨false, 27, 0, 20027, 0⟩, ⟨false, 29, 0, 20029, 0⟩, ⟨true, 8, 1, 30801, 0⟩], []⟩)]
def ac53 : ACode := (.seq (.region ac53_0 [] (some ⟨[1], false, [], []⟩)) (.seq (.seq (.region ac53_1 [] (some ⟨[1, 5], false, [], []⟩)) (.seq (.region ac53_2 [] (some ⟨[1, 5, 20], false, [], []⟩)) (.cond (.tmp 20) (.seq (.region ac53_3 [] (some ⟨[2, 3], false, [], []⟩)) .ret) .skip))) (.seq (.region ac53_4 [] (some ⟨[1, 6], false, [], []⟩)) (.seq (.region ac53_5 [] (some ⟨[1, 6, 7], false, [], []⟩)) (.seq (.region ac53_6 [] (some ⟨[1, 6, 7, 8], false, [], []⟩)) (.seq (.seq (.region ac53_7 [] (some ⟨[6, 7, 8, 27, 28, 29], false, [], []⟩)) (.block 0 (.loop (some ⟨[6, 7, 8, 27, 28, 29], true, [⟨false, 6, 0, 20006, 0⟩, ⟨false, 27, 0, 20027, 0⟩, ⟨false, 29, 0, 20029, 0⟩, ⟨true, 8, 1, 30801, 0⟩], []⟩) (.seq (.region ac53_8 [] (some ⟨[6, 7, 8, 27, 28, 29, 30], false, [], []⟩)) (.seq (.cond (.tmp 30) .skip (.exit 0)) (.seq (.block 1 (.seq (.region ac53_9 [] (some ⟨[6, 7, 8, 9, 10, 27, 28, 29], false, [], []⟩)) (.seq (.region ac53_10 [] (some ⟨[6, 7, 8, 9, 11, 27, 28, 29], false, [], []⟩)) (.seq (.seq (.region ac53_11 [] (some ⟨[6, 7, 8, 9, 11, 27, 28, 29, 39], false, [], []⟩)) (.cond (.tmp 39) (.seq (.region ac53_12 [] (some ⟨[6, 7, 8, 27, 28, 29], false, [], []⟩)) (.exit 1)) .skip)) (.seq (.region ac53_13 [(3, 7), (2, 10), (3, 10), (7, 10), (8, 10), (2, 11), (3, 11), (7, 11), (8, 11), (10, 11)] (some ⟨[6, 7, 8, 9, 11, 12, 13, 27, 28, 29], false, [], []⟩)) (.block 2 (.seq (.region ac53_14 [] (some ⟨[6, 7, 8, 9, 11, 12, 13, 27, 28, 29, 62], false, [], []⟩)) (.cond (.tmp 62) (.seq (.seq (.region ac53_15 [] (some ⟨[6, 7, 8, 9, 11, 12, 27, 28, 29, 75], false, [], []⟩)) (.cond (.tmp 75) (.region ac53_16 [] (some ⟨[6, 7, 8, 9, 11, 27, 28, 29], false, [], []⟩)) .skip)) (.region ac53_17 [] (some ⟨[6, 7, 8, 27, 28, 29], false, [], []⟩))) (.seq (.region ac53_18 [] (some ⟨[6, 7, 8, 9, 11, 13, 27, 28, 29, 87], false, [], []⟩)) (.cond (.tmp 87) (.seq (.seq (.region ac53_19 [] (some ⟨[6, 7, 8, 9, 11, 13, 27, 28, 29, 100], false, [], []⟩)) (.cond (.tmp 100) (.region ac53_20 [] (some ⟨[6, 7, 8, 9, 11, 27, 28, 29], false, [], []⟩)) .skip)) (.region ac53_21 [] (some ⟨[6, 7, 8, 27, 28, 29], false, [], []⟩))) (.region ac53_22 [] (some ⟨[6, 7, 8, 27, 28, 29], false, [], []⟩)))))))))))) (.region ac53_23 [] (some ⟨[6, 7, 8, 27, 28, 29], false, [], []⟩)))))))) (.seq (.region ac53_24 [] (some ⟨[2, 3], false, [], []⟩)) .ret)))))))
def rs53 : List AResV := [.tmp 2, .tmp 3]
def ft53 : FnT := ⟨114, tr53, tl53, ac53, rs53⟩
theorem is53 : FnIs Tryz.prog 53 114 tr53 tl53 ac53 rs53 := ⟨Tryz.f53, Tryz.func53, rfl, by kernel_rfl, by kernel_rfl, by kernel_rfl⟩
def ac54_0 : List AOper := [
  ⟨(some 0), (.alloc [(.d (.v (.int .i64 0))), .nils]), none⟩]
def ac54_1 : List AOper := [
  ⟨(some 1), (.bslice 1 8 [(.v (.float Go.FloatKind.f32 0))] [(0, (.const (.float Go.FloatKind.f32 0))), (1, (.const (.float Go.FloatKind.f32 1084227584))), (2, (.const (.float Go.FloatKind.f32 1091567616))), (3, (.const (.float Go.FloatKind.f32 1092616192))), (4, (.const (.float Go.FloatKind.f32 1091567616))), (5, (.const (.float Go.FloatKind.f32 1082130432))), (6, (.const (.float Go.FloatKind.f32 1077936128))), (7, (.const (.float Go.FloatKind.f32 1090519040)))]), none⟩,
  ⟨(some 2), (.build [(.d (.v (.int .i64 0))), .nils] [(0, 1, (.const (.int .i64 1))), (1, 1, (.tmp 1))]), none⟩,
  ⟨none, (.store 2 (.tmp 0) (.tmp 2)), none⟩]
def tr54 : List (Nat × Tidy) := [(0, ⟨[0], false, [], []⟩), (1, ⟨[0], false, [], []⟩)]
def tl54 : List (Nat × Tidy) := []
def ac54 : ACode := (.seq (.region ac54_0 [] (some ⟨[0], false, [], []⟩)) (.seq (.region ac54_1 [] (some ⟨[0], false, [], []⟩)) .ret))
def rs54 : List AResV := [.cell 0 true 2]
def ft54 : FnT := ⟨3, tr54, tl54, ac54, rs54⟩
theorem is54 : FnIs Tryz.prog 54 3 tr54 tl54 ac54 rs54 := ⟨Tryz.f54, Tryz.func54, rfl, by kernel_rfl, by kernel_rfl, by kernel_rfl⟩
def ac55_0 : List AOper := [
  ⟨(some 2), (.box (.tmp 0)), none⟩,
  ⟨(some 3), (.box (.tmp 1)), none⟩,
  ⟨(some 4), (.mv (.const (.slice none 0 0))), none⟩,
  ⟨(some 5), (.mv (.const (.slice none 0 0))), none⟩,
  ⟨(some 6), (.mv (.const (.int .i64 0))), none⟩]
def ac55_1 : List AOper := [
  ⟨(some 16), (.load true 2 (.tmp 2)), none⟩,
  ⟨(some 17), (.load true 2 (.tmp 3)), none⟩,
  ⟨(some 18), (.call 148 [(.tmp 16), (.tmp 17)]), none⟩,
  ⟨(some 15), (.mv (.tmp 18)), none⟩,
  ⟨(some 19), (.extract 0 (.tmp 15)), none⟩,
  ⟨(some 20), (.extract 1 (.tmp 15)), none⟩,
  ⟨(some 7), (.alloc [.nils, .nils, (.d (.v (.int .i64 0))), (.d (.v (.int .i64 0)))]), none⟩,
  ⟨none, (.store 4 (.tmp 7) (.tmp 19)), none⟩,
  ⟨(some 8), (.mv (.tmp 20)), none⟩]
def ac55_2 : List AOper := [
  ⟨(some 21), (.mv (.tmp 8)), none⟩,
  ⟨(some 22), (.bin .neq 28 (.tmp 21) (.const (.int .i64 0))), none⟩]
def ac55_3 : List AOper := [
  ⟨(some 23), (.mv (.tmp 8)), none⟩,
  ⟨(some 4), (.mv (.const (.slice none 0 0))), none⟩,
  ⟨(some 5), (.mv (.const (.slice none 0 0))), none⟩,
  ⟨(some 6), (.mv (.tmp 23)), none⟩]
def ac55_4 : List AOper := [
  ⟨(some 24), (.faddr 0 (.tmp 7)), none⟩,
  ⟨(some 25), (.load true 2 (.tmp 24)), none⟩,
  ⟨(some 26), (.faddr 2 (.tmp 7)), none⟩,
  ⟨(some 27), (.load false 1 (.tmp 26)), none⟩,
  ⟨(some 28), (.call 149 [(.tmp 25), (.tmp 27)]), none⟩,
  ⟨(some 9), (.mv (.tmp 28)), none⟩]
def ac55_5 : List AOper := [
  ⟨(some 29), (.mv (.tmp 9)), none⟩,
  ⟨(some 30), (.faddr 3 (.tmp 7)), none⟩,
  ⟨(some 31), (.load false 1 (.tmp 30)), none⟩,
  ⟨(some 32), (.iaddr 1 none (.tmp 29) (.tmp 31)), none⟩,
  ⟨(some 33), (.load false 1 (.tmp 32)), none⟩,
  ⟨(some 34), (.bin .eql 3 (.tmp 33) (.const (.int .i64 1000))), none⟩]
def ac55_6 : List AOper := [
  ⟨(some 35), (.mv (.tmp 9)), none⟩,
  ⟨(some 4), (.mv (.const (.slice none 0 0))), none⟩,
  ⟨(some 5), (.mv (.tmp 35)), none⟩,
  ⟨(some 6), (.mv (.const (.int .i64 17))), none⟩]
def ac55_7 : List AOper := [
  ⟨(some 10), (.alloc [.nils]), none⟩]
def ac55_8 : List AOper := [
  ⟨(some 36), (.faddr 0 (.tmp 7)), none⟩,
  ⟨(some 37), (.load true 2 (.tmp 36)), none⟩,
  ⟨(some 38), (.faddr 3 (.tmp 7)), none⟩,
  ⟨(some 39), (.load false 1 (.tmp 38)), none⟩,
  ⟨(some 40), (.call 149 [(.tmp 37), (.tmp 39)]), none⟩,
  ⟨(some 11), (.alloc [.nils]), none⟩,
  ⟨none, (.store 1 (.tmp 11) (.tmp 40)), none⟩]
def ac55_9 : List AOper := [
  ⟨(some 41), (.faddr 2 (.tmp 7)), none⟩,
  ⟨(some 42), (.load false 1 (.tmp 41)), none⟩,
  ⟨(some 12), (.alloc [(.d (.v (.int .i64 0)))]), none⟩,
  ⟨none, (.store 1 (.tmp 12) (.tmp 42)), none⟩]
def ac55_10 : List AOper := [
  ⟨(some 43), (.load false 1 (.tmp 12)), none⟩,
  ⟨(some 44), (.faddr 3 (.tmp 7)), none⟩,
  ⟨(some 45), (.load false 1 (.tmp 44)), none⟩,
  ⟨(some 46), (.bin .neq 284 (.tmp 43) (.tmp 45)), none⟩]
def ac55_11 : List AOper := [
  ⟨(some 47), (.faddr 0 (.tmp 7)), none⟩,
  ⟨(some 48), (.load true 2 (.tmp 47)), none⟩,
  ⟨(some 49), (.load false 1 (.tmp 12)), none⟩,
  ⟨(some 50), (.call 150 [(.tmp 48), (.tmp 49)]), none⟩]
def ac55_12 : List AOper := [
  ⟨(some 13), (.mv (.tmp 51)), none⟩]
def ac55_13 : List AOper := [
  ⟨(some 14), (.mv (.tmp 52)), none⟩]
def ac55_14 : List AOper := [
  ⟨(some 53), (.load false 1 (.tmp 11)), none⟩,
  ⟨(some 54), (.mv (.tmp 14)), none⟩,
  ⟨(some 55), (.iaddr 1 none (.tmp 53) (.tmp 54)), none⟩,
  ⟨(some 56), (.load false 1 (.tmp 55)), none⟩,
  ⟨(some 57), (.load false 1 (.tmp 11)), none⟩,
  ⟨(some 58), (.load false 1 (.tmp 12)), none⟩,
  ⟨(some 59), (.iaddr 1 none (.tmp 57) (.tmp 58)), none⟩,
  ⟨(some 60), (.load false 1 (.tmp 59)), none⟩,
  ⟨(some 61), (.bin .lss 3 (.tmp 56) (.tmp 60)), none⟩]
def ac55_15 : List AOper := [
  ⟨(some 62), (.load false 1 (.tmp 10)), none⟩,
  ⟨(some 63), (.mv (.tmp 13)), none⟩,
  ⟨(some 64), (.bslice 1 1 [(.v (.int .i64 0))] [(0, (.tmp 63))]), none⟩,
  ⟨(some 65), (.append 1 8 (.tmp 62) (.tmp 64)), none⟩,
  ⟨(some 66), (.mv (.tmp 14)), none⟩,
  ⟨none, (.store 1 (.tmp 10) (.tmp 65)), none⟩,
  ⟨none, (.store 1 (.tmp 12) (.tmp 66)), none⟩]
def ac55_16 : List AOper := [
  ⟨(some 67), (.load false 1 (.tmp 12)), none⟩]
def ac55_17 : List AOper := [
  ⟨(some 12), (.alloc [(.d (.v (.int .i64 0)))]), none⟩,
  ⟨none, (.store 1 (.tmp 12) (.tmp 67)), none⟩]
def ac55_18 : List AOper := [
  ⟨(some 68), (.load false 1 (.tmp 10)), none⟩,
  ⟨(some 69), (.mv (.tmp 9)), none⟩,
  ⟨(some 4), (.mv (.tmp 68)), none⟩,
  ⟨(some 5), (.mv (.tmp 69)), none⟩,
  ⟨(some 6), (.mv (.const (.int .i64 0))), none⟩]
def tr55 : List (Nat × Tidy) := [(0, ⟨[2, 3, 4, 5, 6], false, [], []⟩), (1, ⟨[4, 5, 6, 7, 8], false, [], []⟩), (2, ⟨[4, 5, 6, 7, 8, 22], false, [], []⟩), (3, ⟨[4, 5, 6], false, [], []⟩), (4, ⟨[4, 5, 6, 7, 9], false, [], []⟩), (5, ⟨[4, 5, 6, 7, 9, 34], false, [], []⟩), (6, ⟨[4, 5, 6], false, [], []⟩), (7, ⟨[4, 5, 6, 7, 9, 10], false, [], []⟩), (8, ⟨[4, 5, 6, 7, 9, 10, 11], true, [], []⟩), (9, ⟨[4, 5, 6, 7, 9, 10, 11, 12], false, [], []⟩), (10, ⟨[4, 5, 6, 7, 9, 10, 11, 12, 46], false, [], []⟩), (11, ⟨[4, 5, 6, 7, 9, 10, 11, 12, 50], false, [], []⟩), (12, ⟨[4, 5, 6, 7, 9, 10, 11, 12, 13, 52], false, [], []⟩), (13, ⟨[4, 5, 6, 7, 9, 10, 11, 12, 13, 14], false, [], []⟩), (14, ⟨[4, 5, 6, 7, 9, 10, 11, 12, 13, 14, 61], false, [], []⟩), (15, ⟨[4, 5, 6, 7, 9, 10, 11, 12], false, [], []⟩), (16, ⟨[4, 5, 6, 7, 9, 10, 11, 67], true, [], []⟩), (17, ⟨[4, 5, 6, 7, 9, 10, 11, 12], false, [], []⟩), (18, ⟨[4, 5, 6], false, [], []⟩)]
def tl55 : List (Nat × Tidy) := [(10, ⟨[4, 5, 6, 7, 9, 10, 11, 12], true, [⟨false, 4, 0, 20004, 0⟩, ⟨false, 5, 0, 20005, 0⟩, ⟨false, 6, 0, 20006, 0⟩, ⟨false, 9, 0, 20009, 0⟩, ⟨true, 7, 0, 30700, 0⟩, ⟨true, 7, 1, 30701, 0⟩, ⟨true, 10, 0, 31000, 0⟩, ⟨true, 11, 0, 31100, 0⟩], []⟩), (14, ⟨[4, 5, 6, 7, 9, 10, 11, 12], true, [⟨false, 4, 0, 20004, 0⟩, ⟨false, 5, 0, 20005, 0⟩, ⟨false, 6, 0, 20006, 0⟩, ⟨false, 9, 0, 20009, 0⟩, ⟨true, 7, 0, 30700, 0⟩, ⟨true, 7, 1, 30701, 0⟩, ⟨true, 10, 0, 31000, 0⟩, ⟨true, 11, 0, 31100, 0⟩], []⟩)]
def ac55 : ACode := (.seq (.region ac55_0 [] (some ⟨[2, 3, 4, 5, 6], false, [], []⟩)) (.seq (.region ac55_1 [] (some ⟨[4, 5, 6, 7, 8], false, [], []⟩)) (.seq (.seq (.region ac55_2 [] (some ⟨[4, 5, 6, 7, 8, 22], false, [], []⟩)) (.cond (.tmp 22) (.seq (.region ac55_3 [] (some ⟨[4, 5, 6], false, [], []⟩)) .ret) .skip)) (.seq (.region ac55_4 [] (some ⟨[4, 5, 6, 7, 9], false, [], []⟩)) (.seq (.seq (.region ac55_5 [] (some ⟨[4, 5, 6, 7, 9, 34], false, [], []⟩)) (.cond (.tmp 34) (.seq (.region ac55_6 [] (some ⟨[4, 5, 6], false, [], []⟩)) .ret) .skip)) (.seq (.region ac55_7 [] (some ⟨[4, 5, 6, 7, 9, 10], false, [], []⟩)) (.seq (.region ac55_8 [] (some ⟨[4, 5, 6, 7, 9, 10, 11], true, [], []⟩)) (.seq (.seq (.region ac55_9 [] (some ⟨[4, 5, 6, 7, 9, 10, 11, 12], false, [], []⟩)) (.block 0 (.loop (some ⟨[4, 5, 6, 7, 9, 10, 11, 12], true, [⟨false, 4, 0, 20004, 0⟩, ⟨false, 5, 0, 20005, 0⟩, ⟨false, 6, 0, 20006, 0⟩, ⟨false, 9, 0, 20009, 0⟩, ⟨true, 7, 0, 30700, 0⟩, ⟨true, 7, 1, 30701, 0⟩, ⟨true, 10, 0, 31000, 0⟩, ⟨true, 11, 0, 31100, 0⟩], []⟩) (.seq (.seq (.region ac55_10 [] (some ⟨[4, 5, 6, 7, 9, 10, 11, 12, 46], false, [], []⟩)) (.cond (.tmp 46) .skip (.exit 0))) (.seq (.block 1 (.seq (.region ac55_11 [] (some ⟨[4, 5, 6, 7, 9, 10, 11, 12, 50], false, [], []⟩)) (.block 2 (.rangeF (.tmp 50) [51, 52] (some ⟨[4, 5, 6, 7, 9, 10, 11, 12], true, [⟨false, 4, 0, 20004, 0⟩, ⟨false, 5, 0, 20005, 0⟩, ⟨false, 6, 0, 20006, 0⟩, ⟨false, 9, 0, 20009, 0⟩, ⟨true, 7, 0, 30700, 0⟩, ⟨true, 7, 1, 30701, 0⟩, ⟨true, 10, 0, 31000, 0⟩, ⟨true, 11, 0, 31100, 0⟩], []⟩) (.seq (.region ac55_12 [] (some ⟨[4, 5, 6, 7, 9, 10, 11, 12, 13, 52], false, [], []⟩)) (.region ac55_13 [] (some ⟨[4, 5, 6, 7, 9, 10, 11, 12, 13, 14], false, [], []⟩))) (.block 3 (.seq (.region ac55_14 [] (some ⟨[4, 5, 6, 7, 9, 10, 11, 12, 13, 14, 61], false, [], []⟩)) (.cond (.tmp 61) (.seq (.region ac55_15 [] (some ⟨[4, 5, 6, 7, 9, 10, 11, 12], false, [], []⟩)) (.exit 2)) .skip))))))) (.seq (.region ac55_16 [] (some ⟨[4, 5, 6, 7, 9, 10, 11, 67], true, [], []⟩)) (.region ac55_17 [] (some ⟨[4, 5, 6, 7, 9, 10, 11, 12], false, [], []⟩)))))))) (.seq (.region ac55_18 [] (some ⟨[4, 5, 6], false, [], []⟩)) .ret)))))))))
def rs55 : List AResV := [.tmp 4, .tmp 5, .tmp 6]
def ft55 : FnT := ⟨70, tr55, tl55, ac55, rs55⟩
theorem is55 : FnIs Tryz.prog 55 70 tr55 tl55 ac55 rs55 := ⟨Tryz.f55, Tryz.func55, rfl, by kernel_rfl, by kernel_rfl, by kernel_rfl⟩
def ac56_0 : List AOper := [
  ⟨(some 0), (.alloc [.nils, .nils]), none⟩]
def ac56_1 : List AOper := [
  ⟨(some 1), (.bslice 1 3 [(.v (.string ⟨#[]⟩))] [(0, (.const (.string ⟨#[115, 104, 117, 116, 116, 101, 114]⟩))), (1, (.const (.string ⟨#[115, 111, 117, 114, 99, 101]⟩))), (2, (.const (.string ⟨#[112, 117, 109, 112]⟩)))]), none⟩,
  ⟨(some 2), (.build [(.d (.v (.int .i64 0))), (.d (.v (.bool false))), (.d (.v (.int .i64 0))), (.d (.v (.bool false)))] [(0, 1, (.const (.int .i64 1))), (1, 1, (.const (.bool true))), (2, 1, (.const (.int .i64 2))), (3, 1, (.const (.bool true)))]), none⟩,
  ⟨(some 3), (.build [(.d (.v (.int .i64 0))), (.d (.v (.bool false))), (.d (.v (.int .i64 0))), (.d (.v (.bool false)))] [(0, 1, (.const (.int .i64 0))), (1, 1, (.const (.bool true))), (2, 1, (.const (.int .i64 1))), (3, 1, (.const (.bool true)))]), none⟩,
  ⟨(some 4), (.bslice 4 2 [(.v (.int .i64 0)), (.v (.bool false)), (.v (.int .i64 0)), (.v (.bool false))] [(0, (.tmp 2)), (1, (.tmp 3))]), none⟩,
  ⟨(some 5), (.build [.nils, .nils] [(0, 1, (.tmp 1)), (1, 1, (.tmp 4))]), none⟩,
  ⟨none, (.store 2 (.tmp 0) (.tmp 5)), none⟩]
def tr56 : List (Nat × Tidy) := [(0, ⟨[0], false, [], []⟩), (1, ⟨[0], false, [], []⟩)]
def tl56 : List (Nat × Tidy) := []
def ac56 : ACode := (.seq (.region ac56_0 [] (some ⟨[0], false, [], []⟩)) (.seq (.region ac56_1 [] (some ⟨[0], false, [], []⟩)) .ret))
def rs56 : List AResV := [.cell 0 true 2]
def ft56 : FnT := ⟨6, tr56, tl56, ac56, rs56⟩
theorem is56 : FnIs Tryz.prog 56 6 tr56 tl56 ac56 rs56 := ⟨Tryz.f56, Tryz.func56, rfl, by kernel_rfl, by kernel_rfl, by kernel_rfl⟩
def ac57_0 : List AOper := [
  ⟨(some 2), (.box (.tmp 0)), none⟩,
  ⟨(some 3), (.box (.tmp 1)), none⟩,
  ⟨(some 4), (.alloc [(.d (.v (.int .i64 0))), (.d (.v (.int .i64 0)))]), none⟩,
  ⟨(some 5), (.mv (.const (.int .i64 0))), none⟩]
def ac57_1 : List AOper := [
  ⟨(some 9), (.load true 3 (.tmp 2)), none⟩,
  ⟨(some 10), (.call 152 [(.tmp 9)]), none⟩,
  ⟨(some 11), (.load true 2 (.tmp 3)), none⟩,
  ⟨(some 12), (.call 153 [(.tmp 11)]), none⟩,
  ⟨(some 13), (.bslice 1 2 [(.v (.int .i64 0))] [(0, (.tmp 10)), (1, (.tmp 12))]), none⟩,
  ⟨(some 14), (.call 151 [(.tmp 13)]), none⟩,
  ⟨(some 6), (.mv (.tmp 14)), none⟩]
def ac57_2 : List AOper := [
  ⟨(some 15), (.mv (.tmp 6)), none⟩,
  ⟨(some 16), (.bin .neq 28 (.tmp 15) (.const (.int .i64 0))), none⟩]
def ac57_3 : List AOper := [
  ⟨(some 17), (.build [(.d (.v (.int .i64 0))), (.d (.v (.int .i64 0)))] []), none⟩,
  ⟨(some 18), (.mv (.tmp 6)), none⟩,
  ⟨none, (.store 2 (.tmp 4) (.tmp 17)), none⟩,
  ⟨(some 5), (.mv (.tmp 18)), none⟩]
def ac57_4 : List AOper := [
  ⟨(some 19), (.faddr 0 (.tmp 3)), none⟩,
  ⟨(some 20), (.load false 1 (.tmp 19)), none⟩,
  ⟨(some 21), (.bin .eql 3 (.tmp 20) (.const (.int .i64 0))), none⟩]
def ac57_5 : List AOper := [
  ⟨(some 22), (.build [(.d (.v (.int .i64 0))), (.d (.v (.int .i64 0)))] []), none⟩,
  ⟨none, (.store 2 (.tmp 4) (.tmp 22)), none⟩,
  ⟨(some 5), (.mv (.const (.int .i64 9))), none⟩]
def ac57_6 : List AOper := [
  ⟨(some 24), (.load true 3 (.tmp 2)), none⟩,
  ⟨(some 25), (.call 154 [(.tmp 24)]), none⟩,
  ⟨(some 23), (.mv (.tmp 25)), none⟩,
  ⟨(some 26), (.extract 0 (.tmp 23)), none⟩,
  ⟨(some 27), (.extract 1 (.tmp 23)), none⟩,
  ⟨(some 7), (.mv (.tmp 26)), none⟩,
  ⟨(some 8), (.mv (.tmp 27)), none⟩]
def ac57_7 : List AOper := [
  ⟨(some 28), (.mv (.tmp 7)), none⟩,
  ⟨(some 29), (.bin .mul 3 (.tmp 28) (.const (.int .i64 1000))), none⟩,
  ⟨(some 30), (.mv (.tmp 8)), none⟩,
  ⟨(some 31), (.faddr 1 (.tmp 3)), none⟩,
  ⟨(some 32), (.load false 1 (.tmp 31)), none⟩,
  ⟨(some 33), (.bin .mul 3 (.tmp 30) (.tmp 32)), none⟩,
  ⟨(some 34), (.call 155 [(.tmp 29), (.tmp 33)]), none⟩,
  ⟨(some 35), (.mv (.tmp 7)), none⟩,
  ⟨(some 36), (.bin .mul 3 (.tmp 35) (.const (.int .i64 1000))), none⟩,
  ⟨(some 37), (.mv (.tmp 8)), none⟩,
  ⟨(some 38), (.faddr 0 (.tmp 3)), none⟩,
  ⟨(some 39), (.load false 1 (.tmp 38)), none⟩,
  ⟨(some 40), (.bin .mul 3 (.tmp 37) (.tmp 39)), none⟩,
  ⟨(some 41), (.call 156 [(.tmp 36), (.tmp 40)]), none⟩,
  ⟨(some 42), (.build [(.d (.v (.int .i64 0))), (.d (.v (.int .i64 0)))] [(0, 1, (.tmp 34)), (1, 1, (.tmp 41))]), none⟩,
  ⟨none, (.store 2 (.tmp 4) (.tmp 42)), none⟩,
  ⟨(some 5), (.mv (.const (.int .i64 0))), none⟩]
def tr57 : List (Nat × Tidy) := [(0, ⟨[2, 3, 4], false, [], []⟩), (1, ⟨[2, 3, 4, 6], false, [], []⟩), (2, ⟨[2, 3, 4, 6, 16], false, [], []⟩), (3, ⟨[4, 5], false, [], []⟩), (4, ⟨[2, 3, 4, 21], false, [], []⟩), (5, ⟨[4, 5], false, [], []⟩), (6, ⟨[3, 4, 7, 8], false, [], []⟩), (7, ⟨[4, 5], false, [], []⟩)]
def tl57 : List (Nat × Tidy) := []
def ac57 : ACode := (.seq (.region ac57_0 [] (some ⟨[2, 3, 4], false, [], []⟩)) (.seq (.seq (.region ac57_1 [(1, 2)] (some ⟨[2, 3, 4, 6], false, [], []⟩)) (.seq (.region ac57_2 [] (some ⟨[2, 3, 4, 6, 16], false, [], []⟩)) (.cond (.tmp 16) (.seq (.region ac57_3 [] (some ⟨[4, 5], false, [], []⟩)) .ret) .skip))) (.seq (.seq (.region ac57_4 [] (some ⟨[2, 3, 4, 21], false, [], []⟩)) (.cond (.tmp 21) (.seq (.region ac57_5 [] (some ⟨[4, 5], false, [], []⟩)) .ret) .skip)) (.seq (.region ac57_6 [] (some ⟨[3, 4, 7, 8], false, [], []⟩)) (.seq (.region ac57_7 [(6, 11)] (some ⟨[4, 5], false, [], []⟩)) .ret)))))
def rs57 : List AResV := [.cell 4 true 2, .tmp 5]
def ft57 : FnT := ⟨43, tr57, tl57, ac57, rs57⟩
theorem is57 : FnIs Tryz.prog 57 43 tr57 tl57 ac57 rs57 := ⟨Tryz.f57, Tryz.func57, rfl, by kernel_rfl, by kernel_rfl, by kernel_rfl⟩
def ac58_0 : List AOper := [
  ⟨(some 2), (.box (.tmp 0)), none⟩,
  ⟨(some 3), (.box (.tmp 1)), none⟩,
  ⟨(some 4), (.alloc [(.d (.v (.int .i64 0))), (.d (.v (.int .i64 0)))]), none⟩,
  ⟨(some 5), (.mv (.const (.int .i64 0))), none⟩]
def ac58_1 : List AOper := [
  ⟨(some 7), (.load true 2 (.tmp 2)), none⟩,
  ⟨(some 8), (.call 157 [(.tmp 7)]), none⟩,
  ⟨(some 9), (.load true 2 (.tmp 3)), none⟩,
  ⟨(some 10), (.call 153 [(.tmp 9)]), none⟩,
  ⟨(some 11), (.bslice 1 2 [(.v (.int .i64 0))] [(0, (.tmp 8)), (1, (.tmp 10))]), none⟩,
  ⟨(some 12), (.call 151 [(.tmp 11)]), none⟩,
  ⟨(some 6), (.mv (.tmp 12)), none⟩]
def ac58_2 : List AOper := [
  ⟨(some 13), (.mv (.tmp 6)), none⟩,
  ⟨(some 14), (.bin .neq 28 (.tmp 13) (.const (.int .i64 0))), none⟩]
def ac58_3 : List AOper := [
  ⟨(some 15), (.build [(.d (.v (.int .i64 0))), (.d (.v (.int .i64 0)))] []), none⟩,
  ⟨(some 16), (.mv (.tmp 6)), none⟩,
  ⟨none, (.store 2 (.tmp 4) (.tmp 15)), none⟩,
  ⟨(some 5), (.mv (.tmp 16)), none⟩]
def ac58_4 : List AOper := [
  ⟨(some 17), (.faddr 0 (.tmp 2)), none⟩,
  ⟨(some 18), (.load false 1 (.tmp 17)), none⟩,
  ⟨(some 19), (.faddr 0 (.tmp 3)), none⟩,
  ⟨(some 20), (.load false 1 (.tmp 19)), none⟩,
  ⟨(some 21), (.bin .mul 3 (.tmp 18) (.tmp 20)), none⟩,
  ⟨(some 22), (.call 155 [(.tmp 21), (.const (.int .i64 1000))]), none⟩,
  ⟨(some 23), (.faddr 1 (.tmp 2)), none⟩,
  ⟨(some 24), (.load false 1 (.tmp 23)), none⟩,
  ⟨(some 25), (.faddr 1 (.tmp 3)), none⟩,
  ⟨(some 26), (.load false 1 (.tmp 25)), none⟩,
  ⟨(some 27), (.bin .mul 3 (.tmp 24) (.tmp 26)), none⟩,
  ⟨(some 28), (.call 156 [(.tmp 27), (.const (.int .i64 1000))]), none⟩,
  ⟨(some 29), (.build [(.d (.v (.int .i64 0))), (.d (.v (.int .i64 0)))] [(0, 1, (.tmp 22)), (1, 1, (.tmp 28))]), none⟩,
  ⟨none, (.store 2 (.tmp 4) (.tmp 29)), none⟩,
  ⟨(some 5), (.mv (.const (.int .i64 0))), none⟩]
def tr58 : List (Nat × Tidy) := [(0, ⟨[2, 3, 4], false, [], []⟩), (1, ⟨[2, 3, 4, 6], false, [], []⟩), (2, ⟨[2, 3, 4, 6, 14], false, [], []⟩), (3, ⟨[4, 5], false, [], []⟩), (4, ⟨[4, 5], false, [], []⟩)]
def tl58 : List (Nat × Tidy) := []
def ac58 : ACode := (.seq (.region ac58_0 [] (some ⟨[2, 3, 4], false, [], []⟩)) (.seq (.seq (.region ac58_1 [(1, 2)] (some ⟨[2, 3, 4, 6], false, [], []⟩)) (.seq (.region ac58_2 [] (some ⟨[2, 3, 4, 6, 14], false, [], []⟩)) (.cond (.tmp 14) (.seq (.region ac58_3 [] (some ⟨[4, 5], false, [], []⟩)) .ret) .skip))) (.seq (.region ac58_4 [(5, 7), (5, 9)] (some ⟨[4, 5], false, [], []⟩)) .ret)))
def rs58 : List AResV := [.cell 4 true 2, .tmp 5]
def ft58 : FnT := ⟨30, tr58, tl58, ac58, rs58⟩
theorem is58 : FnIs Tryz.prog 58 30 tr58 tl58 ac58 rs58 := ⟨Tryz.f58, Tryz.func58, rfl, by kernel_rfl, by kernel_rfl, by kernel_rfl⟩
def ac59_0 : List AOper := [
  ⟨(some 4), (.mv (.const (.bool false))), none⟩]
def ac59_1 : List AOper := [
  ⟨(some 6), (.mv (.tmp 0)), none⟩,
  ⟨(some 7), (.len (.tmp 6)), none⟩,
  ⟨(some 8), (.mv (.tmp 1)), none⟩,
  ⟨(some 9), (.len (.tmp 8)), none⟩,
  ⟨(some 10), (.bin .neq 3 (.tmp 7) (.tmp 9)), none⟩]
def ac59_2 : List AOper := [
  ⟨(some 4), (.mv (.const (.bool false))), none⟩]
def ac59_3 : List AOper := [
  ⟨(some 5), (.mv (.const (.int .i64 0))), none⟩]
def ac59_4 : List AOper := [
  ⟨(some 11), (.mv (.tmp 5)), none⟩,
  ⟨(some 12), (.mv (.tmp 0)), none⟩,
  ⟨(some 13), (.len (.tmp 12)), none⟩,
  ⟨(some 14), (.bin .lss 3 (.tmp 11) (.tmp 13)), none⟩]
def ac59_5 : List AOper := [
  ⟨(some 17), (.mv (.tmp 0)), none⟩,
  ⟨(some 18), (.mv (.tmp 5)), none⟩,
  ⟨(some 19), (.iaddr 2 none (.tmp 17) (.tmp 18)), none⟩,
  ⟨(some 20), (.load true 2 (.tmp 19)), none⟩,
  ⟨(some 21), (.mv (.tmp 1)), none⟩,
  ⟨(some 22), (.mv (.tmp 5)), none⟩,
  ⟨(some 23), (.iaddr 2 none (.tmp 21) (.tmp 22)), none⟩,
  ⟨(some 24), (.load true 2 (.tmp 23)), none⟩,
  ⟨(some 25), (.bin .neq 23 (.tmp 20) (.tmp 24)), none⟩]
def ac59_6 : List AOper := [
  ⟨(some 4), (.mv (.const (.bool false))), none⟩]
def ac59_7 : List AOper := [
  ⟨(some 15), (.mv (.tmp 5)), none⟩,
  ⟨(some 16), (.bin .add 3 (.tmp 15) (.const (.int .i64 1))), none⟩,
  ⟨(some 5), (.mv (.tmp 16)), none⟩]
def ac59_8 : List AOper := [
  ⟨(some 4), (.mv (.const (.bool true))), none⟩]
def tr59 : List (Nat × Tidy) := [(0, ⟨[0, 1], false, [], []⟩), (1, ⟨[0, 1, 10], false, [], []⟩), (2, ⟨[4], false, [], []⟩), (3, ⟨[0, 1, 5], false, [], []⟩), (4, ⟨[0, 1, 5, 14], false, [], []⟩), (6, ⟨[0, 1, 5, 25], false, [], []⟩), (7, ⟨[4], false, [], []⟩), (5, ⟨[0, 1, 5], false, [], []⟩), (8, ⟨[4], false, [], []⟩)]
def tl59 : List (Nat × Tidy) := [(4, ⟨[0, 1, 5], true, [⟨false, 5, 0, 20005, 0⟩], []⟩)]
def ac59 : ACode := (.seq (.region ac59_0 [] (some ⟨[0, 1], false, [], []⟩)) (.seq (.seq (.region ac59_1 [] (some ⟨[0, 1, 10], false, [], []⟩)) (.cond (.tmp 10) (.seq (.region ac59_2 [] (some ⟨[4], false, [], []⟩)) .ret) .skip)) (.seq (.seq (.region ac59_3 [] (some ⟨[0, 1, 5], false, [], []⟩)) (.block 0 (.loop (some ⟨[0, 1, 5], true, [⟨false, 5, 0, 20005, 0⟩], []⟩) (.seq (.seq (.region ac59_4 [] (some ⟨[0, 1, 5, 14], false, [], []⟩)) (.cond (.tmp 14) .skip (.exit 0))) (.seq (.block 1 (.seq (.region ac59_5 [] (some ⟨[0, 1, 5, 25], false, [], []⟩)) (.cond (.tmp 25) (.seq (.region ac59_6 [] (some ⟨[4], false, [], []⟩)) .ret) .skip))) (.region ac59_7 [] (some ⟨[0, 1, 5], false, [], []⟩))))))) (.seq (.region ac59_8 [] (some ⟨[4], false, [], []⟩)) .ret))))
def rs59 : List AResV := [.tmp 4]
def ft59 : FnT := ⟨26, tr59, tl59, ac59, rs59⟩
theorem is59 : FnIs Tryz.prog 59 26 tr59 tl59 ac59 rs59 := ⟨Tryz.f59, Tryz.func59, rfl, by kernel_rfl, by kernel_rfl, by kernel_rfl⟩
def ac60_0 : List AOper := [
  ⟨(some 4), (.mv (.const (.bool false))), none⟩]
def ac60_1 : List AOper := [
  ⟨(some 6), (.mv (.tmp 0)), none⟩,
  ⟨(some 7), (.len (.tmp 6)), none⟩,
  ⟨(some 8), (.mv (.tmp 1)), none⟩,
  ⟨(some 9), (.len (.tmp 8)), none⟩,
  ⟨(some 10), (.bin .neq 3 (.tmp 7) (.tmp 9)), none⟩]
def ac60_2 : List AOper := [
  ⟨(some 4), (.mv (.const (.bool false))), none⟩]
def ac60_3 : List AOper := [
  ⟨(some 5), (.mv (.const (.int .i64 0))), none⟩]
def ac60_4 : List AOper := [
  ⟨(some 11), (.mv (.tmp 5)), none⟩,
  ⟨(some 12), (.mv (.tmp 0)), none⟩,
  ⟨(some 13), (.len (.tmp 12)), none⟩,
  ⟨(some 14), (.bin .lss 3 (.tmp 11) (.tmp 13)), none⟩]
def ac60_5 : List AOper := [
  ⟨(some 17), (.mv (.tmp 0)), none⟩,
  ⟨(some 18), (.mv (.tmp 5)), none⟩,
  ⟨(some 19), (.iaddr 1 none (.tmp 17) (.tmp 18)), none⟩,
  ⟨(some 20), (.load false 1 (.tmp 19)), none⟩,
  ⟨(some 21), (.mv (.tmp 1)), none⟩,
  ⟨(some 22), (.mv (.tmp 5)), none⟩,
  ⟨(some 23), (.iaddr 1 none (.tmp 21) (.tmp 22)), none⟩,
  ⟨(some 24), (.load false 1 (.tmp 23)), none⟩,
  ⟨(some 25), (.bin .neq 3 (.tmp 20) (.tmp 24)), none⟩]
def ac60_6 : List AOper := [
  ⟨(some 4), (.mv (.const (.bool false))), none⟩]
def ac60_7 : List AOper := [
  ⟨(some 15), (.mv (.tmp 5)), none⟩,
  ⟨(some 16), (.bin .add 3 (.tmp 15) (.const (.int .i64 1))), none⟩,
  ⟨(some 5), (.mv (.tmp 16)), none⟩]
def ac60_8 : List AOper := [
  ⟨(some 4), (.mv (.const (.bool true))), none⟩]
def tr60 : List (Nat × Tidy) := [(0, ⟨[0, 1], false, [], []⟩), (1, ⟨[0, 1, 10], false, [], []⟩), (2, ⟨[4], false, [], []⟩), (3, ⟨[0, 1, 5], false, [], []⟩), (4, ⟨[0, 1, 5, 14], false, [], []⟩), (6, ⟨[0, 1, 5, 25], false, [], []⟩), (7, ⟨[4], false, [], []⟩), (5, ⟨[0, 1, 5], false, [], []⟩), (8, ⟨[4], false, [], []⟩)]
def tl60 : List (Nat × Tidy) := [(4, ⟨[0, 1, 5], true, [⟨false, 5, 0, 20005, 0⟩], []⟩)]
def ac60 : ACode := (.seq (.region ac60_0 [] (some ⟨[0, 1], false, [], []⟩)) (.seq (.seq (.region ac60_1 [] (some ⟨[0, 1, 10], false, [], []⟩)) (.cond (.tmp 10) (.seq (.region ac60_2 [] (some ⟨[4], false, [], []⟩)) .ret) .skip)) (.seq (.seq (.region ac60_3 [] (some ⟨[0, 1, 5], false, [], []⟩)) (.block 0 (.loop (some ⟨[0, 1, 5], true, [⟨false, 5, 0, 20005, 0⟩], []⟩) (.seq (.seq (.region ac60_4 [] (some ⟨[0, 1, 5, 14], false, [], []⟩)) (.cond (.tmp 14) .skip (.exit 0))) (.seq (.block 1 (.seq (.region ac60_5 [] (some ⟨[0, 1, 5, 25], false, [], []⟩)) (.cond (.tmp 25) (.seq (.region ac60_6 [] (some ⟨[4], false, [], []⟩)) .ret) .skip))) (.region ac60_7 [] (some ⟨[0, 1, 5], false, [], []⟩))))))) (.seq (.region ac60_8 [] (some ⟨[4], false, [], []⟩)) .ret))))
def rs60 : List AResV := [.tmp 4]
def ft60 : FnT := ⟨26, tr60, tl60, ac60, rs60⟩
theorem is60 : FnIs Tryz.prog 60 26 tr60 tl60 ac60 rs60 := ⟨Tryz.f60, Tryz.func60, rfl, by kernel_rfl, by kernel_rfl, by kernel_rfl⟩
def ac65_0 : List AOper := [
  ⟨(some 6), (.mv (.const (.bool false))), none⟩]
def ac65_1 : List AOper := [
  ⟨(some 7), (.mv (.tmp 1)), none⟩,
  ⟨(some 8), (.mv (.tmp 0)), none⟩,
  ⟨(some 9), (.bin .leq 3 (.tmp 7) (.tmp 8)), none⟩,
  ⟨(some 10), (.mv (.tmp 9)), none⟩,
  ⟨(some 11), (.mv (.tmp 0)), (some (10, true))⟩,
  ⟨(some 12), (.mv (.tmp 2)), (some (10, true))⟩,
  ⟨(some 13), (.bin .leq 3 (.tmp 11) (.tmp 12)), (some (10, true))⟩,
  ⟨(some 14), (.pick (.tmp 10) (.tmp 13) (.const (.bool false))), none⟩,
  ⟨(some 6), (.mv (.tmp 14)), none⟩]
def tr65 : List (Nat × Tidy) := [(0, ⟨[0, 1, 2], false, [], []⟩), (1, ⟨[6], false, [], []⟩)]
def tl65 : List (Nat × Tidy) := []
def ac65 : ACode := (.seq (.region ac65_0 [] (some ⟨[0, 1, 2], false, [], []⟩)) (.seq (.region ac65_1 [] (some ⟨[6], false, [], []⟩)) .ret))
def rs65 : List AResV := [.tmp 6]
def ft65 : FnT := ⟨15, tr65, tl65, ac65, rs65⟩
theorem is65 : FnIs Tryz.prog 65 15 tr65 tl65 ac65 rs65 := ⟨Tryz.f65, Tryz.func65, rfl, by kernel_rfl, by kernel_rfl, by kernel_rfl⟩
def ac66_0 : List AOper := [
  ⟨(some 3), (.box (.tmp 0)), none⟩,
  ⟨(some 6), (.mv (.const (.int .i64 0))), none⟩]
def ac66_1 : List AOper := [
  ⟨(some 8), (.load true 2 (.tmp 3)), none⟩,
  ⟨(some 9), (.mv (.tmp 1)), none⟩,
  ⟨(some 10), (.mv (.tmp 2)), none⟩,
  ⟨(some 11), (.call 163 [(.tmp 8), (.tmp 9), (.tmp 10)]), none⟩,
  ⟨(some 12), (.pure (oB (.unOp .not 4 (.tmp 11)) 4)), none⟩,
  ⟨(some 7), (.mv (.tmp 12)), none⟩]
def ac66_2 : List AOper := [
  ⟨(some 6), (.mv (.const (.int .i64 2))), none⟩]
def ac66_3 : List AOper := [
  ⟨(some 14), (.faddr 0 (.tmp 3)), none⟩,
  ⟨(some 15), (.load false 1 (.tmp 14)), none⟩,
  ⟨(some 16), (.faddr 1 (.tmp 3)), none⟩,
  ⟨(some 17), (.load false 1 (.tmp 16)), none⟩,
  ⟨(some 18), (.bin .gtr 3 (.tmp 15) (.tmp 17)), none⟩,
  ⟨(some 13), (.mv (.tmp 18)), none⟩]
def ac66_4 : List AOper := [
  ⟨(some 6), (.mv (.const (.int .i64 10))), none⟩]
def ac66_5 : List AOper := [
  ⟨(some 6), (.mv (.const (.int .i64 0))), none⟩]
def tr66 : List (Nat × Tidy) := [(0, ⟨[1, 2, 3], false, [], []⟩), (1, ⟨[3, 7], false, [], []⟩), (2, ⟨[6], false, [], []⟩), (3, ⟨[13], false, [], []⟩), (4, ⟨[6], false, [], []⟩), (5, ⟨[6], false, [], []⟩)]
def tl66 : List (Nat × Tidy) := []
def ac66 : ACode := (.seq (.region ac66_0 [] (some ⟨[1, 2, 3], false, [], []⟩)) (.seq (.block 0 (.seq (.region ac66_1 [] (some ⟨[3, 7], false, [], []⟩)) (.cond (.tmp 7) (.seq (.region ac66_2 [] (some ⟨[6], false, [], []⟩)) .ret) (.seq (.region ac66_3 [] (some ⟨[13], false, [], []⟩)) (.cond (.tmp 13) (.seq (.region ac66_4 [] (some ⟨[6], false, [], []⟩)) .ret) .skip))))) (.seq (.region ac66_5 [] (some ⟨[6], false, [], []⟩)) .ret)))
def rs66 : List AResV := [.tmp 6]
def ft66 : FnT := ⟨19, tr66, tl66, ac66, rs66⟩
theorem is66 : FnIs Tryz.prog 66 19 tr66 tl66 ac66 rs66 := ⟨Tryz.f66, Tryz.func66, rfl, by kernel_rfl, by kernel_rfl, by kernel_rfl⟩
def ac135_0 : List AOper := [
  ⟨(some 2), (.mv (.const (.int .i64 0))), none⟩]
def ac135_1 : List AOper := [
  ⟨(some 5), (.mv (.tmp 0)), none⟩,
  ⟨(some 6), (.len (.tmp 5)), none⟩,
  ⟨(some 7), (.bin .lss 3 (.tmp 6) (.const (.int .i64 1))), none⟩]
def ac135_2 : List AOper := [
  ⟨(some 8), (.ifc 9 (.const (.string ⟨#[115, 108, 105, 99, 101, 115, 46, 77, 105, 110, 58, 32, 101, 109, 112, 116, 121, 32, 108, 105, 115, 116]⟩))), none⟩,
  ⟨none, .bad, none⟩]
def ac135_3 : List AOper := [
  ⟨(some 9), (.mv (.tmp 0)), none⟩,
  ⟨(some 10), (.iaddr 1 none (.tmp 9) (.const (.int .i64 0))), none⟩,
  ⟨(some 11), (.load false 1 (.tmp 10)), none⟩,
  ⟨(some 3), (.mv (.tmp 11)), none⟩]
def ac135_4 : List AOper := [
  ⟨(some 4), (.mv (.const (.int .i64 1))), none⟩]
def ac135_5 : List AOper := [
  ⟨(some 12), (.mv (.tmp 4)), none⟩,
  ⟨(some 13), (.mv (.tmp 0)), none⟩,
  ⟨(some 14), (.len (.tmp 13)), none⟩,
  ⟨(some 15), (.bin .lss 3 (.tmp 12) (.tmp 14)), none⟩]
def ac135_6 : List AOper := [
  ⟨(some 18), (.mv (.tmp 3)), none⟩,
  ⟨(some 19), (.mv (.tmp 0)), none⟩,
  ⟨(some 20), (.mv (.tmp 4)), none⟩,
  ⟨(some 21), (.iaddr 1 none (.tmp 19) (.tmp 20)), none⟩,
  ⟨(some 22), (.load false 1 (.tmp 21)), none⟩,
  ⟨(some 23), (.pure (oB (.call { callee := .builtin .min, args := #[(.tmp 18), (.tmp 22)], argTypes := #[3, 3] }) 3)), none⟩,
  ⟨(some 3), (.mv (.tmp 23)), none⟩]
def ac135_7 : List AOper := [
  ⟨(some 16), (.mv (.tmp 4)), none⟩,
  ⟨(some 17), (.bin .add 3 (.tmp 16) (.const (.int .i64 1))), none⟩,
  ⟨(some 4), (.mv (.tmp 17)), none⟩]
def ac135_8 : List AOper := [
  ⟨(some 24), (.mv (.tmp 3)), none⟩,
  ⟨(some 2), (.mv (.tmp 24)), none⟩]
def tr135 : List (Nat × Tidy) := [(0, ⟨[0], false, [], []⟩), (1, ⟨[0, 7], false, [], []⟩), (2, ⟨[0], false, [], []⟩), (3, ⟨[0, 3], false, [], []⟩), (4, ⟨[0, 3, 4], false, [], []⟩), (5, ⟨[0, 3, 4, 15], false, [], []⟩), (7, ⟨[0, 3, 4], false, [], []⟩), (6, ⟨[0, 3, 4], false, [], []⟩), (8, ⟨[2], false, [], []⟩)]
def tl135 : List (Nat × Tidy) := [(5, ⟨[0, 3, 4], true, [⟨false, 3, 0, 20003, 0⟩, ⟨false, 4, 0, 20004, 0⟩], []⟩)]
def ac135 : ACode := (.seq (.region ac135_0 [] (some ⟨[0], false, [], []⟩)) (.seq (.seq (.region ac135_1 [] (some ⟨[0, 7], false, [], []⟩)) (.cond (.tmp 7) (.region ac135_2 [] (some ⟨[0], false, [], []⟩)) .skip)) (.seq (.region ac135_3 [] (some ⟨[0, 3], false, [], []⟩)) (.seq (.seq (.region ac135_4 [] (some ⟨[0, 3, 4], false, [], []⟩)) (.block 0 (.loop (some ⟨[0, 3, 4], true, [⟨false, 3, 0, 20003, 0⟩, ⟨false, 4, 0, 20004, 0⟩], []⟩) (.seq (.seq (.region ac135_5 [] (some ⟨[0, 3, 4, 15], false, [], []⟩)) (.cond (.tmp 15) .skip (.exit 0))) (.seq (.block 1 (.region ac135_6 [] (some ⟨[0, 3, 4], false, [], []⟩))) (.region ac135_7 [] (some ⟨[0, 3, 4], false, [], []⟩))))))) (.seq (.region ac135_8 [] (some ⟨[2], false, [], []⟩)) .ret)))))
def rs135 : List AResV := [.tmp 2]
def ft135 : FnT := ⟨25, tr135, tl135, ac135, rs135⟩
theorem is135 : FnIs Tryz.prog 135 25 tr135 tl135 ac135 rs135 := ⟨Tryz.f135, Tryz.func135, rfl, by kernel_rfl, by kernel_rfl, by kernel_rfl⟩
def ac136_0 : List AOper := [
  ⟨(some 2), (.mv (.const (.int .i64 0))), none⟩]
def ac136_1 : List AOper := [
  ⟨(some 5), (.mv (.tmp 0)), none⟩,
  ⟨(some 6), (.len (.tmp 5)), none⟩,
  ⟨(some 7), (.bin .lss 3 (.tmp 6) (.const (.int .i64 1))), none⟩]
def ac136_2 : List AOper := [
  ⟨(some 8), (.ifc 9 (.const (.string ⟨#[115, 108, 105, 99, 101, 115, 46, 77, 97, 120, 58, 32, 101, 109, 112, 116, 121, 32, 108, 105, 115, 116]⟩))), none⟩,
  ⟨none, .bad, none⟩]
def ac136_3 : List AOper := [
  ⟨(some 9), (.mv (.tmp 0)), none⟩,
  ⟨(some 10), (.iaddr 1 none (.tmp 9) (.const (.int .i64 0))), none⟩,
  ⟨(some 11), (.load false 1 (.tmp 10)), none⟩,
  ⟨(some 3), (.mv (.tmp 11)), none⟩]
def ac136_4 : List AOper := [
  ⟨(some 4), (.mv (.const (.int .i64 1))), none⟩]
def ac136_5 : List AOper := [
  ⟨(some 12), (.mv (.tmp 4)), none⟩,
  ⟨(some 13), (.mv (.tmp 0)), none⟩,
  ⟨(some 14), (.len (.tmp 13)), none⟩,
  ⟨(some 15), (.bin .lss 3 (.tmp 12) (.tmp 14)), none⟩]
def ac136_6 : List AOper := [
  ⟨(some 18), (.mv (.tmp 3)), none⟩,
  ⟨(some 19), (.mv (.tmp 0)), none⟩,
  ⟨(some 20), (.mv (.tmp 4)), none⟩,
  ⟨(some 21), (.iaddr 1 none (.tmp 19) (.tmp 20)), none⟩,
  ⟨(some 22), (.load false 1 (.tmp 21)), none⟩,
  ⟨(some 23), (.pure (oB (.call { callee := .builtin .max, args := #[(.tmp 18), (.tmp 22)], argTypes := #[3, 3] }) 3)), none⟩,
  ⟨(some 3), (.mv (.tmp 23)), none⟩]
def ac136_7 : List AOper := [
  ⟨(some 16), (.mv (.tmp 4)), none⟩,
  ⟨(some 17), (.bin .add 3 (.tmp 16) (.const (.int .i64 1))), none⟩,
  ⟨(some 4), (.mv (.tmp 17)), none⟩]
def ac136_8 : List AOper := [
  ⟨(some 24), (.mv (.tmp 3)), none⟩,
  ⟨(some 2), (.mv (.tmp 24)), none⟩]
def tr136 : List (Nat × Tidy) := [(0, ⟨[0], false, [], []⟩), (1, ⟨[0, 7], false, [], []⟩), (2, ⟨[0], false, [], []⟩), (3, ⟨[0, 3], false, [], []⟩), (4, ⟨[0, 3, 4], false, [], []⟩), (5, ⟨[0, 3, 4, 15], false, [], []⟩), (7, ⟨[0, 3, 4], false, [], []⟩), (6, ⟨[0, 3, 4], false, [], []⟩), (8, ⟨[2], false, [], []⟩)]
def tl136 : List (Nat × Tidy) := [(5, ⟨[0, 3, 4], true, [⟨false, 3, 0, 20003, 0⟩, ⟨false, 4, 0, 20004, 0⟩], []⟩)]
def ac136 : ACode := (.seq (.region ac136_0 [] (some ⟨[0], false, [], []⟩)) (.seq (.seq (.region ac136_1 [] (some ⟨[0, 7], false, [], []⟩)) (.cond (.tmp 7) (.region ac136_2 [] (some ⟨[0], false, [], []⟩)) .skip)) (.seq (.region ac136_3 [] (some ⟨[0, 3], false, [], []⟩)) (.seq (.seq (.region ac136_4 [] (some ⟨[0, 3, 4], false, [], []⟩)) (.block 0 (.loop (some ⟨[0, 3, 4], true, [⟨false, 3, 0, 20003, 0⟩, ⟨false, 4, 0, 20004, 0⟩], []⟩) (.seq (.seq (.region ac136_5 [] (some ⟨[0, 3, 4, 15], false, [], []⟩)) (.cond (.tmp 15) .skip (.exit 0))) (.seq (.block 1 (.region ac136_6 [] (some ⟨[0, 3, 4], false, [], []⟩))) (.region ac136_7 [] (some ⟨[0, 3, 4], false, [], []⟩))))))) (.seq (.region ac136_8 [] (some ⟨[2], false, [], []⟩)) .ret)))))
def rs136 : List AResV := [.tmp 2]
def ft136 : FnT := ⟨25, tr136, tl136, ac136, rs136⟩
theorem is136 : FnIs Tryz.prog 136 25 tr136 tl136 ac136 rs136 := ⟨Tryz.f136, Tryz.func136, rfl, by kernel_rfl, by kernel_rfl, by kernel_rfl⟩
def ac138_0 : List AOper := [
  ⟨(some 1), (.box (.tmp 0)), none⟩,
  ⟨(some 2), (.mv (.const (.int .i64 0))), none⟩,
  ⟨(some 3), (.mv (.const (.int .i64 0))), none⟩]
def ac138_1 : List AOper := [
  ⟨(some 7), (.faddr 0 (.tmp 1)), none⟩,
  ⟨(some 8), (.load true 2 (.tmp 7)), none⟩,
  ⟨(some 9), (.call 157 [(.tmp 8)]), none⟩,
  ⟨(some 4), (.mv (.tmp 9)), none⟩]
def ac138_2 : List AOper := [
  ⟨(some 10), (.mv (.tmp 4)), none⟩,
  ⟨(some 11), (.bin .neq 28 (.tmp 10) (.const (.int .i64 0))), none⟩]
def ac138_3 : List AOper := [
  ⟨(some 12), (.mv (.tmp 4)), none⟩,
  ⟨(some 2), (.mv (.const (.int .i64 0))), none⟩,
  ⟨(some 3), (.mv (.tmp 12)), none⟩]
def ac138_4 : List AOper := [
  ⟨(some 14), (.faddr 2 (.tmp 1)), none⟩,
  ⟨(some 15), (.load false 1 (.tmp 14)), none⟩,
  ⟨(some 16), (.call 65 [(.tmp 15), (.const (.int .i64 0)), (.const (.int .i64 1000000))]), none⟩,
  ⟨(some 17), (.pure (oB (.unOp .not 4 (.tmp 16)) 4)), none⟩,
  ⟨(some 13), (.mv (.tmp 17)), none⟩]
def ac138_5 : List AOper := [
  ⟨(some 2), (.mv (.const (.int .i64 0))), none⟩,
  ⟨(some 3), (.mv (.const (.int .i64 2))), none⟩]
def ac138_6 : List AOper := [
  ⟨(some 19), (.faddr 3 (.tmp 1)), none⟩,
  ⟨(some 20), (.load false 1 (.tmp 19)), none⟩,
  ⟨(some 21), (.len (.tmp 20)), none⟩,
  ⟨(some 22), (.bin .gtr 3 (.tmp 21) (.const (.int .i64 40))), none⟩,
  ⟨(some 18), (.mv (.tmp 22)), none⟩]
def ac138_7 : List AOper := [
  ⟨(some 2), (.mv (.const (.int .i64 0))), none⟩,
  ⟨(some 3), (.mv (.const (.int .i64 8))), none⟩]
def ac138_8 : List AOper := [
  ⟨(some 23), (.faddr 3 (.tmp 1)), none⟩,
  ⟨(some 24), (.load false 1 (.tmp 23)), none⟩,
  ⟨(some 25), (.len (.tmp 24)), none⟩,
  ⟨(some 26), (.mv (.const (.int .i64 0))), none⟩]
def ac138_9 : List AOper := [
  ⟨(some 27), (.bin .lss 3 (.tmp 26) (.tmp 25)), none⟩]
def ac138_10 : List AOper := [
  ⟨(some 28), (.mv (.tmp 26)), none⟩,
  ⟨(some 29), (.iaddr 2 none (.tmp 24) (.tmp 26)), none⟩,
  ⟨(some 30), (.load true 2 (.tmp 29)), none⟩,
  ⟨(some 6), (.alloc [(.d (.v (.int .i64 0))), (.d (.v (.int .i64 0)))]), none⟩,
  ⟨(some 5), (.mv (.tmp 28)), none⟩,
  ⟨none, (.store 2 (.tmp 6) (.tmp 30)), none⟩]
def ac138_11 : List AOper := [
  ⟨(some 32), (.faddr 0 (.tmp 6)), none⟩,
  ⟨(some 33), (.load false 1 (.tmp 32)), none⟩,
  ⟨(some 34), (.call 65 [(.tmp 33), (.const (.int .i64 1)), (.const (.int .i64 100000))]), none⟩,
  ⟨(some 35), (.pure (oB (.unOp .not 4 (.tmp 34)) 4)), none⟩,
  ⟨(some 36), (.mv (.tmp 35)), none⟩,
  ⟨(some 37), (.faddr 1 (.tmp 6)), (some (36, false))⟩,
  ⟨(some 38), (.load false 1 (.tmp 37)), (some (36, false))⟩,
  ⟨(some 39), (.call 65 [(.tmp 38), (.const (.int .i64 0)), (.const (.int .i64 1000000))]), (some (36, false))⟩,
  ⟨(some 40), (.pure (oB (.unOp .not 4 (.tmp 39)) 4)), (some (36, false))⟩,
  ⟨(some 41), (.pick (.tmp 36) (.const (.bool true)) (.tmp 40)), none⟩,
  ⟨(some 31), (.mv (.tmp 41)), none⟩]
def ac138_12 : List AOper := [
  ⟨(some 42), (.mv (.tmp 5)), none⟩,
  ⟨(some 2), (.mv (.tmp 42)), none⟩,
  ⟨(some 3), (.mv (.const (.int .i64 2))), none⟩]
def ac138_13 : List AOper := [
  ⟨(some 44), (.mv (.tmp 5)), none⟩,
  ⟨(some 45), (.bin .gtr 3 (.tmp 44) (.const (.int .i64 0))), none⟩,
  ⟨(some 46), (.mv (.tmp 45)), none⟩,
  ⟨(some 47), (.faddr 0 (.tmp 6)), (some (46, true))⟩,
  ⟨(some 48), (.load false 1 (.tmp 47)), (some (46, true))⟩,
  ⟨(some 49), (.faddr 3 (.tmp 1)), (some (46, true))⟩,
  ⟨(some 50), (.load false 1 (.tmp 49)), (some (46, true))⟩,
  ⟨(some 51), (.mv (.tmp 5)), (some (46, true))⟩,
  ⟨(some 52), (.bin .sub 3 (.tmp 51) (.const (.int .i64 1))), (some (46, true))⟩,
  ⟨(some 53), (.iaddr 2 none (.tmp 50) (.tmp 52)), (some (46, true))⟩,
  ⟨(some 54), (.faddr 0 (.tmp 53)), (some (46, true))⟩,
  ⟨(some 55), (.load false 1 (.tmp 54)), (some (46, true))⟩,
  ⟨(some 56), (.bin .leq 3 (.tmp 48) (.tmp 55)), (some (46, true))⟩,
  ⟨(some 57), (.pick (.tmp 46) (.tmp 56) (.const (.bool false))), none⟩,
  ⟨(some 43), (.mv (.tmp 57)), none⟩]
def ac138_14 : List AOper := [
  ⟨(some 58), (.mv (.tmp 5)), none⟩,
  ⟨(some 2), (.mv (.tmp 58)), none⟩,
  ⟨(some 3), (.mv (.const (.int .i64 10))), none⟩]
def ac138_15 : List AOper := [
  ⟨(some 59), (.bin .add 3 (.tmp 26) (.const (.int .i64 1))), none⟩,
  ⟨(some 26), (.mv (.tmp 59)), none⟩]
def ac138_16 : List AOper := [
  ⟨(some 2), (.mv (.const (.int .i64 0))), none⟩,
  ⟨(some 3), (.mv (.const (.int .i64 0))), none⟩]
def tr138 : List (Nat × Tidy) := [(0, ⟨[1], false, [], []⟩), (1, ⟨[1, 4], false, [], []⟩), (2, ⟨[1, 4, 11], false, [], []⟩), (3, ⟨[2, 3], false, [], []⟩), (4, ⟨[1, 13], false, [], []⟩), (5, ⟨[2, 3], false, [], []⟩), (6, ⟨[1, 18], false, [], []⟩), (7, ⟨[2, 3], false, [], []⟩), (8, ⟨[1, 24, 25, 26], false, [], []⟩), (9, ⟨[1, 24, 25, 26, 27], false, [], []⟩), (10, ⟨[1, 5, 6, 24, 25, 26], false, [], []⟩), (11, ⟨[1, 5, 6, 24, 25, 26, 31], false, [], []⟩), (12, ⟨[2, 3], false, [], []⟩), (13, ⟨[1, 5, 24, 25, 26, 43], false, [], []⟩), (14, ⟨[2, 3], false, [], []⟩), (15, ⟨[1, 24, 25, 26], false, [], []⟩), (16, ⟨[2, 3], false, [], []⟩)]
def tl138 : List (Nat × Tidy) := [(9, ⟨[1, 24, 25, 26], true, [⟨false, 24, 0, 20024, 0⟩, ⟨false, 26, 0, 20026, 0⟩], []⟩)]
def ac138 : ACode := (.seq (.region ac138_0 [] (some ⟨[1], false, [], []⟩)) (.seq (.seq (.region ac138_1 [] (some ⟨[1, 4], false, [], []⟩)) (.seq (.region ac138_2 [] (some ⟨[1, 4, 11], false, [], []⟩)) (.cond (.tmp 11) (.seq (.region ac138_3 [] (some ⟨[2, 3], false, [], []⟩)) .ret) .skip))) (.seq (.block 0 (.seq (.region ac138_4 [] (some ⟨[1, 13], false, [], []⟩)) (.cond (.tmp 13) (.seq (.region ac138_5 [] (some ⟨[2, 3], false, [], []⟩)) .ret) (.seq (.region ac138_6 [] (some ⟨[1, 18], false, [], []⟩)) (.cond (.tmp 18) (.seq (.region ac138_7 [] (some ⟨[2, 3], false, [], []⟩)) .ret) .skip))))) (.seq (.seq (.region ac138_8 [] (some ⟨[1, 24, 25, 26], false, [], []⟩)) (.block 1 (.loop (some ⟨[1, 24, 25, 26], true, [⟨false, 24, 0, 20024, 0⟩, ⟨false, 26, 0, 20026, 0⟩], []⟩) (.seq (.region ac138_9 [] (some ⟨[1, 24, 25, 26, 27], false, [], []⟩)) (.seq (.cond (.tmp 27) .skip (.exit 1)) (.seq (.block 2 (.seq (.region ac138_10 [] (some ⟨[1, 5, 6, 24, 25, 26], false, [], []⟩)) (.block 3 (.seq (.region ac138_11 [] (some ⟨[1, 5, 6, 24, 25, 26, 31], false, [], []⟩)) (.cond (.tmp 31) (.seq (.region ac138_12 [] (some ⟨[2, 3], false, [], []⟩)) .ret) (.seq (.region ac138_13 [] (some ⟨[1, 5, 24, 25, 26, 43], false, [], []⟩)) (.cond (.tmp 43) (.seq (.region ac138_14 [] (some ⟨[2, 3], false, [], []⟩)) .ret) .skip))))))) (.region ac138_15 [] (some ⟨[1, 24, 25, 26], false, [], []⟩)))))))) (.seq (.region ac138_16 [] (some ⟨[2, 3], false, [], []⟩)) .ret)))))
def rs138 : List AResV := [.tmp 2, .tmp 3]
def ft138 : FnT := ⟨60, tr138, tl138, ac138, rs138⟩
theorem is138 : FnIs Tryz.prog 138 60 tr138 tl138 ac138 rs138 := ⟨Tryz.f138, Tryz.func138, rfl, by kernel_rfl, by kernel_rfl, by kernel_rfl⟩
def ac139_0 : List AOper := [
  ⟨(some 1), (.box (.tmp 0)), none⟩,
  ⟨(some 2), (.mv (.const (.slice none 0 0))), none⟩]
def ac139_1 : List AOper := [
  ⟨(some 6), (.build [(.d (.v (.int .i64 0))), (.d (.v (.int .i64 0))), (.d (.v (.int .i64 0)))] []), none⟩,
  ⟨(some 7), (.bslice 3 1 [(.v (.int .i64 0)), (.v (.int .i64 0)), (.v (.int .i64 0))] [(0, (.tmp 6))]), none⟩,
  ⟨(some 3), (.mv (.tmp 7)), none⟩]
def ac139_2 : List AOper := [
  ⟨(some 8), (.faddr 3 (.tmp 1)), none⟩,
  ⟨(some 9), (.load false 1 (.tmp 8)), none⟩,
  ⟨(some 10), (.len (.tmp 9)), none⟩,
  ⟨(some 11), (.mv (.const (.int .i64 0))), none⟩]
def ac139_3 : List AOper := [
  ⟨(some 12), (.bin .lss 3 (.tmp 11) (.tmp 10)), none⟩]
def ac139_4 : List AOper := [
  ⟨(some 13), (.iaddr 2 none (.tmp 9) (.tmp 11)), none⟩,
  ⟨(some 14), (.load true 2 (.tmp 13)), none⟩,
  ⟨(some 5), (.alloc [(.d (.v (.int .i64 0))), (.d (.v (.int .i64 0)))]), none⟩,
  ⟨none, (.store 2 (.tmp 5) (.tmp 14)), none⟩]
def ac139_5 : List AOper := [
  ⟨(some 15), (.mv (.tmp 3)), none⟩,
  ⟨(some 16), (.faddr 0 (.tmp 5)), none⟩,
  ⟨(some 17), (.load false 1 (.tmp 16)), none⟩,
  ⟨(some 18), (.faddr 1 (.tmp 5)), none⟩,
  ⟨(some 19), (.load false 1 (.tmp 18)), none⟩,
  ⟨(some 20), (.faddr 2 (.tmp 1)), none⟩,
  ⟨(some 21), (.load false 1 (.tmp 20)), none⟩,
  ⟨(some 22), (.bin .sub 3 (.tmp 19) (.tmp 21)), none⟩,
  ⟨(some 23), (.bin .mul 3 (.const (.int .i64 1000)) (.tmp 22)), none⟩,
  ⟨(some 24), (.faddr 1 (.tmp 5)), none⟩,
  ⟨(some 25), (.load false 1 (.tmp 24)), none⟩,
  ⟨(some 26), (.faddr 2 (.tmp 1)), none⟩,
  ⟨(some 27), (.load false 1 (.tmp 26)), none⟩,
  ⟨(some 28), (.bin .add 3 (.tmp 25) (.tmp 27)), none⟩,
  ⟨(some 29), (.bin .mul 3 (.const (.int .i64 1000)) (.tmp 28)), none⟩,
  ⟨(some 30), (.build [(.d (.v (.int .i64 0))), (.d (.v (.int .i64 0)))] [(0, 1, (.tmp 23)), (1, 1, (.tmp 29))]), none⟩,
  ⟨(some 31), (.build [(.d (.v (.int .i64 0))), (.d (.v (.int .i64 0))), (.d (.v (.int .i64 0)))] [(0, 1, (.tmp 17)), (1, 2, (.tmp 30))]), none⟩,
  ⟨(some 32), (.bslice 3 1 [(.v (.int .i64 0)), (.v (.int .i64 0)), (.v (.int .i64 0))] [(0, (.tmp 31))]), none⟩,
  ⟨(some 33), (.append 3 24 (.tmp 15) (.tmp 32)), none⟩,
  ⟨(some 3), (.mv (.tmp 33)), none⟩]
def ac139_6 : List AOper := [
  ⟨(some 34), (.bin .add 3 (.tmp 11) (.const (.int .i64 1))), none⟩,
  ⟨(some 11), (.mv (.tmp 34)), none⟩]
def ac139_7 : List AOper := [
  ⟨(some 35), (.mv (.tmp 3)), none⟩,
  ⟨(some 2), (.mv (.tmp 35)), none⟩]
def tr139 : List (Nat × Tidy) := [(0, ⟨[1], false, [], []⟩), (1, ⟨[1, 3], false, [], []⟩), (2, ⟨[1, 3, 9, 10, 11], false, [], []⟩), (3, ⟨[1, 3, 9, 10, 11, 12], false, [], []⟩), (4, ⟨[1, 3, 5, 9, 10, 11], false, [], []⟩), (5, ⟨[1, 3, 9, 10, 11], false, [], []⟩), (6, ⟨[1, 3, 9, 10, 11], false, [], []⟩), (7, ⟨[2], false, [], []⟩)]
def tl139 : List (Nat × Tidy) := [(3, ⟨[1, 3, 9, 10, 11], true, [⟨false, 3, 0, 20003, 0⟩, ⟨false, 9, 0, 20009, 0⟩, ⟨false, 11, 0, 20011, 0⟩], []⟩)]
def ac139 : ACode := (.seq (.region ac139_0 [] (some ⟨[1], false, [], []⟩)) (.seq (.region ac139_1 [] (some ⟨[1, 3], false, [], []⟩)) (.seq (.seq (.region ac139_2 [] (some ⟨[1, 3, 9, 10, 11], false, [], []⟩)) (.block 0 (.loop (some ⟨[1, 3, 9, 10, 11], true, [⟨false, 3, 0, 20003, 0⟩, ⟨false, 9, 0, 20009, 0⟩, ⟨false, 11, 0, 20011, 0⟩], []⟩) (.seq (.region ac139_3 [] (some ⟨[1, 3, 9, 10, 11, 12], false, [], []⟩)) (.seq (.cond (.tmp 12) .skip (.exit 0)) (.seq (.block 1 (.seq (.region ac139_4 [] (some ⟨[1, 3, 5, 9, 10, 11], false, [], []⟩)) (.region ac139_5 [] (some ⟨[1, 3, 9, 10, 11], false, [], []⟩)))) (.region ac139_6 [] (some ⟨[1, 3, 9, 10, 11], false, [], []⟩)))))))) (.seq (.region ac139_7 [] (some ⟨[2], false, [], []⟩)) .ret))))
def rs139 : List AResV := [.tmp 2]
def ft139 : FnT := ⟨36, tr139, tl139, ac139, rs139⟩
theorem is139 : FnIs Tryz.prog 139 36 tr139 tl139 ac139 rs139 := ⟨Tryz.f139, Tryz.func139, rfl, by kernel_rfl, by kernel_rfl, by kernel_rfl⟩
def ac140_0 : List AOper := [
  ⟨(some 2), (.box (.tmp 0)), none⟩,
  ⟨(some 3), (.box (.tmp 1)), none⟩,
  ⟨(some 4), (.alloc [(.d (.v (.int .i64 0))), (.d (.v (.int .i64 0)))]), none⟩]
def ac140_1 : List AOper := [
  ⟨(some 5), (.faddr 0 (.tmp 2)), none⟩,
  ⟨(some 6), (.load false 1 (.tmp 5)), none⟩,
  ⟨(some 7), (.faddr 0 (.tmp 3)), none⟩,
  ⟨(some 8), (.load false 1 (.tmp 7)), none⟩,
  ⟨(some 9), (.pure (oB (.call { callee := .builtin .max, args := #[(.tmp 6), (.tmp 8)], argTypes := #[3, 3] }) 3)), none⟩,
  ⟨(some 10), (.faddr 1 (.tmp 2)), none⟩,
  ⟨(some 11), (.load false 1 (.tmp 10)), none⟩,
  ⟨(some 12), (.faddr 1 (.tmp 3)), none⟩,
  ⟨(some 13), (.load false 1 (.tmp 12)), none⟩,
  ⟨(some 14), (.pure (oB (.call { callee := .builtin .min, args := #[(.tmp 11), (.tmp 13)], argTypes := #[3, 3] }) 3)), none⟩,
  ⟨(some 15), (.build [(.d (.v (.int .i64 0))), (.d (.v (.int .i64 0)))] [(0, 1, (.tmp 9)), (1, 1, (.tmp 14))]), none⟩,
  ⟨none, (.store 2 (.tmp 4) (.tmp 15)), none⟩]
def tr140 : List (Nat × Tidy) := [(0, ⟨[2, 3, 4], false, [], []⟩), (1, ⟨[4], false, [], []⟩)]
def tl140 : List (Nat × Tidy) := []
def ac140 : ACode := (.seq (.region ac140_0 [] (some ⟨[2, 3, 4], false, [], []⟩)) (.seq (.region ac140_1 [] (some ⟨[4], false, [], []⟩)) .ret))
def rs140 : List AResV := [.cell 4 true 2]
def ft140 : FnT := ⟨16, tr140, tl140, ac140, rs140⟩
theorem is140 : FnIs Tryz.prog 140 16 tr140 tl140 ac140 rs140 := ⟨Tryz.f140, Tryz.func140, rfl, by kernel_rfl, by kernel_rfl, by kernel_rfl⟩
def ac141_0 : List AOper := [
  ⟨(some 3), (.box (.tmp 0)), none⟩,
  ⟨(some 4), (.box (.tmp 1)), none⟩,
  ⟨(some 6), (.alloc [(.d (.v (.int .i64 0))), (.d (.v (.int .i64 0)))]), none⟩]
def ac141_1 : List AOper := [
  ⟨(some 8), (.mv (.tmp 2)), none⟩,
  ⟨(some 9), (.faddr 0 (.tmp 3)), none⟩,
  ⟨(some 10), (.load false 1 (.tmp 9)), none⟩,
  ⟨(some 11), (.bin .sub 3 (.tmp 8) (.tmp 10)), none⟩,
  ⟨(some 7), (.mv (.tmp 11)), none⟩]
def ac141_2 : List AOper := [
  ⟨(some 12), (.faddr 1 (.tmp 3)), none⟩,
  ⟨(some 13), (.faddr 0 (.tmp 12)), none⟩,
  ⟨(some 14), (.load false 1 (.tmp 13)), none⟩,
  ⟨(some 15), (.faddr 0 (.tmp 4)), none⟩,
  ⟨(some 16), (.load false 1 (.tmp 15)), none⟩,
  ⟨(some 17), (.mv (.tmp 7)), none⟩,
  ⟨(some 18), (.bin .mul 3 (.tmp 16) (.tmp 17)), none⟩,
  ⟨(some 19), (.bin .add 3 (.tmp 14) (.tmp 18)), none⟩,
  ⟨(some 20), (.faddr 1 (.tmp 3)), none⟩,
  ⟨(some 21), (.faddr 1 (.tmp 20)), none⟩,
  ⟨(some 22), (.load false 1 (.tmp 21)), none⟩,
  ⟨(some 23), (.faddr 1 (.tmp 4)), none⟩,
  ⟨(some 24), (.load false 1 (.tmp 23)), none⟩,
  ⟨(some 25), (.mv (.tmp 7)), none⟩,
  ⟨(some 26), (.bin .mul 3 (.tmp 24) (.tmp 25)), none⟩,
  ⟨(some 27), (.bin .add 3 (.tmp 22) (.tmp 26)), none⟩,
  ⟨(some 28), (.build [(.d (.v (.int .i64 0))), (.d (.v (.int .i64 0)))] [(0, 1, (.tmp 19)), (1, 1, (.tmp 27))]), none⟩,
  ⟨none, (.store 2 (.tmp 6) (.tmp 28)), none⟩]
def tr141 : List (Nat × Tidy) := [(0, ⟨[2, 3, 4, 6], false, [], []⟩), (1, ⟨[3, 4, 6, 7], false, [], []⟩), (2, ⟨[6], false, [], []⟩)]
def tl141 : List (Nat × Tidy) := []
def ac141 : ACode := (.seq (.region ac141_0 [] (some ⟨[2, 3, 4, 6], false, [], []⟩)) (.seq (.region ac141_1 [] (some ⟨[3, 4, 6, 7], false, [], []⟩)) (.seq (.region ac141_2 [] (some ⟨[6], false, [], []⟩)) .ret)))
def rs141 : List AResV := [.cell 6 true 2]
def ft141 : FnT := ⟨29, tr141, tl141, ac141, rs141⟩
theorem is141 : FnIs Tryz.prog 141 29 tr141 tl141 ac141 rs141 := ⟨Tryz.f141, Tryz.func141, rfl, by kernel_rfl, by kernel_rfl, by kernel_rfl⟩
def ac142_0 : List AOper := [
  ⟨(some 1), (.box (.tmp 0)), none⟩,
  ⟨(some 2), (.mv (.const (.bool false))), none⟩]
def ac142_1 : List AOper := [
  ⟨(some 3), (.faddr 0 (.tmp 1)), none⟩,
  ⟨(some 4), (.load false 1 (.tmp 3)), none⟩,
  ⟨(some 5), (.faddr 1 (.tmp 1)), none⟩,
  ⟨(some 6), (.load false 1 (.tmp 5)), none⟩,
  ⟨(some 7), (.bin .gtr 3 (.tmp 4) (.tmp 6)), none⟩,
  ⟨(some 2), (.mv (.tmp 7)), none⟩]
def tr142 : List (Nat × Tidy) := [(0, ⟨[1], false, [], []⟩), (1, ⟨[2], false, [], []⟩)]
def tl142 : List (Nat × Tidy) := []
def ac142 : ACode := (.seq (.region ac142_0 [] (some ⟨[1], false, [], []⟩)) (.seq (.region ac142_1 [] (some ⟨[2], false, [], []⟩)) .ret))
def rs142 : List AResV := [.tmp 2]
def ft142 : FnT := ⟨8, tr142, tl142, ac142, rs142⟩
theorem is142 : FnIs Tryz.prog 142 8 tr142 tl142 ac142 rs142 := ⟨Tryz.f142, Tryz.func142, rfl, by kernel_rfl, by kernel_rfl, by kernel_rfl⟩
def ac143_0 : List AOper := [
  ⟨(some 3), (.box (.tmp 0)), none⟩,
  ⟨(some 4), (.box (.tmp 1)), none⟩,
  ⟨(some 6), (.alloc [(.d (.v (.int .i64 0))), (.d (.v (.int .i64 0)))]), none⟩]
def ac143_1 : List AOper := [
  ⟨(some 8), (.faddr 0 (.tmp 3)), none⟩,
  ⟨(some 9), (.load false 1 (.tmp 8)), none⟩,
  ⟨(some 10), (.mv (.tmp 2)), none⟩,
  ⟨(some 11), (.bin .sub 3 (.tmp 9) (.tmp 10)), none⟩,
  ⟨(some 7), (.mv (.tmp 11)), none⟩]
def ac143_2 : List AOper := [
  ⟨(some 12), (.faddr 1 (.tmp 3)), none⟩,
  ⟨(some 13), (.faddr 0 (.tmp 12)), none⟩,
  ⟨(some 14), (.load false 1 (.tmp 13)), none⟩,
  ⟨(some 15), (.faddr 1 (.tmp 4)), none⟩,
  ⟨(some 16), (.load false 1 (.tmp 15)), none⟩,
  ⟨(some 17), (.mv (.tmp 7)), none⟩,
  ⟨(some 18), (.bin .mul 3 (.tmp 16) (.tmp 17)), none⟩,
  ⟨(some 19), (.bin .sub 3 (.tmp 14) (.tmp 18)), none⟩,
  ⟨(some 20), (.faddr 1 (.tmp 3)), none⟩,
  ⟨(some 21), (.faddr 1 (.tmp 20)), none⟩,
  ⟨(some 22), (.load false 1 (.tmp 21)), none⟩,
  ⟨(some 23), (.faddr 0 (.tmp 4)), none⟩,
  ⟨(some 24), (.load false 1 (.tmp 23)), none⟩,
  ⟨(some 25), (.mv (.tmp 7)), none⟩,
  ⟨(some 26), (.bin .mul 3 (.tmp 24) (.tmp 25)), none⟩,
  ⟨(some 27), (.bin .sub 3 (.tmp 22) (.tmp 26)), none⟩,
  ⟨(some 28), (.build [(.d (.v (.int .i64 0))), (.d (.v (.int .i64 0)))] [(0, 1, (.tmp 19)), (1, 1, (.tmp 27))]), none⟩,
  ⟨none, (.store 2 (.tmp 6) (.tmp 28)), none⟩]
def tr143 : List (Nat × Tidy) := [(0, ⟨[2, 3, 4, 6], false, [], []⟩), (1, ⟨[3, 4, 6, 7], false, [], []⟩), (2, ⟨[6], false, [], []⟩)]
def tl143 : List (Nat × Tidy) := []
def ac143 : ACode := (.seq (.region ac143_0 [] (some ⟨[2, 3, 4, 6], false, [], []⟩)) (.seq (.region ac143_1 [] (some ⟨[3, 4, 6, 7], false, [], []⟩)) (.seq (.region ac143_2 [] (some ⟨[6], false, [], []⟩)) .ret)))
def rs143 : List AResV := [.cell 6 true 2]
def ft143 : FnT := ⟨29, tr143, tl143, ac143, rs143⟩
theorem is143 : FnIs Tryz.prog 143 29 tr143 tl143 ac143 rs143 := ⟨Tryz.f143, Tryz.func143, rfl, by kernel_rfl, by kernel_rfl, by kernel_rfl⟩
def ac144_0 : List AOper := [
  ⟨(some 1), (.box (.tmp 0)), none⟩,
  ⟨(some 2), (.mv (.const (.int .i64 0))), none⟩,
  ⟨(some 3), (.mv (.const (.int .i64 0))), none⟩]
def ac144_1 : List AOper := [
  ⟨(some 8), (.faddr 0 (.tmp 1)), none⟩,
  ⟨(some 9), (.load false 1 (.tmp 8)), none⟩,
  ⟨(some 10), (.call 65 [(.tmp 9), (.const (.int .i64 0)), (.const (.int .i64 1000000))]), none⟩,
  ⟨(some 11), (.pure (oB (.unOp .not 4 (.tmp 10)) 4)), none⟩,
  ⟨(some 7), (.mv (.tmp 11)), none⟩]
def ac144_2 : List AOper := [
  ⟨(some 2), (.mv (.const (.int .i64 0))), none⟩,
  ⟨(some 3), (.mv (.const (.int .i64 2))), none⟩]
def ac144_3 : List AOper := [
  ⟨(some 13), (.faddr 1 (.tmp 1)), none⟩,
  ⟨(some 14), (.load false 1 (.tmp 13)), none⟩,
  ⟨(some 15), (.len (.tmp 14)), none⟩,
  ⟨(some 16), (.bin .gtr 3 (.tmp 15) (.const (.int .i64 200))), none⟩,
  ⟨(some 12), (.mv (.tmp 16)), none⟩]
def ac144_4 : List AOper := [
  ⟨(some 2), (.mv (.const (.int .i64 0))), none⟩,
  ⟨(some 3), (.mv (.const (.int .i64 8))), none⟩]
def ac144_5 : List AOper := [
  ⟨(some 17), (.faddr 1 (.tmp 1)), none⟩,
  ⟨(some 18), (.load false 1 (.tmp 17)), none⟩,
  ⟨(some 19), (.len (.tmp 18)), none⟩,
  ⟨(some 20), (.mv (.const (.int .i64 0))), none⟩]
def ac144_6 : List AOper := [
  ⟨(some 21), (.bin .lss 3 (.tmp 20) (.tmp 19)), none⟩]
def ac144_7 : List AOper := [
  ⟨(some 22), (.mv (.tmp 20)), none⟩,
  ⟨(some 23), (.iaddr 1 none (.tmp 18) (.tmp 20)), none⟩,
  ⟨(some 24), (.load false 1 (.tmp 23)), none⟩,
  ⟨(some 4), (.mv (.tmp 22)), none⟩,
  ⟨(some 5), (.mv (.tmp 24)), none⟩]
def ac144_8 : List AOper := [
  ⟨(some 25), (.mv (.tmp 5)), none⟩,
  ⟨(some 26), (.pure (oB (.convert 80 231 (.tmp 25)) 231)), none⟩,
  ⟨(some 6), (.mv (.tmp 26)), none⟩]
def ac144_9 : List AOper := [
  ⟨(some 28), (.mv (.tmp 6)), none⟩,
  ⟨(some 29), (.call 221 [(.tmp 28)]), none⟩,
  ⟨(some 30), (.mv (.tmp 6)), none⟩,
  ⟨(some 31), (.bin .neq 231 (.tmp 29) (.tmp 30)), none⟩,
  ⟨(some 32), (.mv (.tmp 31)), none⟩,
  ⟨(some 33), (.mv (.tmp 6)), (some (32, false))⟩,
  ⟨(some 34), (.call 222 [(.tmp 33), (.const (.int .i64 0))]), (some (32, false))⟩,
  ⟨(some 35), (.pick (.tmp 32) (.const (.bool true)) (.tmp 34)), none⟩,
  ⟨(some 27), (.mv (.tmp 35)), none⟩]
def ac144_10 : List AOper := [
  ⟨(some 36), (.mv (.tmp 4)), none⟩,
  ⟨(some 2), (.mv (.tmp 36)), none⟩,
  ⟨(some 3), (.mv (.const (.int .i64 27))), none⟩]
def ac144_11 : List AOper := [
  ⟨(some 38), (.mv (.tmp 6)), none⟩,
  ⟨(some 39), (.bin .lss 231 (.tmp 38) (.const (.float Go.FloatKind.f64 0))), none⟩,
  ⟨(some 40), (.mv (.tmp 39)), none⟩,
  ⟨(some 41), (.mv (.tmp 6)), (some (40, false))⟩,
  ⟨(some 42), (.bin .gtr 231 (.tmp 41) (.const (.float Go.FloatKind.f64 4696837146684686336))), (some (40, false))⟩,
  ⟨(some 43), (.pick (.tmp 40) (.const (.bool true)) (.tmp 42)), none⟩,
  ⟨(some 37), (.mv (.tmp 43)), none⟩]
def ac144_12 : List AOper := [
  ⟨(some 44), (.mv (.tmp 4)), none⟩,
  ⟨(some 2), (.mv (.tmp 44)), none⟩,
  ⟨(some 3), (.mv (.const (.int .i64 2))), none⟩]
def ac144_13 : List AOper := [
  ⟨(some 45), (.bin .add 3 (.tmp 20) (.const (.int .i64 1))), none⟩,
  ⟨(some 20), (.mv (.tmp 45)), none⟩]
def ac144_14 : List AOper := [
  ⟨(some 2), (.mv (.const (.int .i64 0))), none⟩,
  ⟨(some 3), (.mv (.const (.int .i64 0))), none⟩]
def tr144 : List (Nat × Tidy) := [(0, ⟨[1], false, [], []⟩), (1, ⟨[1, 7], false, [], []⟩), (2, ⟨[2, 3], false, [], []⟩), (3, ⟨[1, 12], false, [], []⟩), (4, ⟨[2, 3], false, [], []⟩), (5, ⟨[18, 19, 20], false, [], []⟩), (6, ⟨[18, 19, 20, 21], false, [], []⟩), (7, ⟨[4, 5, 18, 19, 20], false, [], []⟩), (8, ⟨[4, 6, 18, 19, 20], false, [], []⟩), (9, ⟨[4, 6, 18, 19, 20, 27], false, [], []⟩), (10, ⟨[2, 3], false, [], []⟩), (11, ⟨[4, 18, 19, 20, 37], false, [], []⟩), (12, ⟨[2, 3], false, [], []⟩), (13, ⟨[18, 19, 20], false, [], []⟩), (14, ⟨[2, 3], false, [], []⟩)]
def tl144 : List (Nat × Tidy) := [(6, ⟨[18, 19, 20], true, [⟨false, 18, 0, 20018, 0⟩, ⟨false, 20, 0, 20020, 0⟩], []⟩)]
def ac144 : ACode := (.seq (.region ac144_0 [] (some ⟨[1], false, [], []⟩)) (.seq (.block 0 (.seq (.region ac144_1 [] (some ⟨[1, 7], false, [], []⟩)) (.cond (.tmp 7) (.seq (.region ac144_2 [] (some ⟨[2, 3], false, [], []⟩)) .ret) (.seq (.region ac144_3 [] (some ⟨[1, 12], false, [], []⟩)) (.cond (.tmp 12) (.seq (.region ac144_4 [] (some ⟨[2, 3], false, [], []⟩)) .ret) .skip))))) (.seq (.seq (.region ac144_5 [] (some ⟨[18, 19, 20], false, [], []⟩)) (.block 1 (.loop (some ⟨[18, 19, 20], true, [⟨false, 18, 0, 20018, 0⟩, ⟨false, 20, 0, 20020, 0⟩], []⟩) (.seq (.region ac144_6 [] (some ⟨[18, 19, 20, 21], false, [], []⟩)) (.seq (.cond (.tmp 21) .skip (.exit 1)) (.seq (.block 2 (.seq (.region ac144_7 [] (some ⟨[4, 5, 18, 19, 20], false, [], []⟩)) (.seq (.region ac144_8 [] (some ⟨[4, 6, 18, 19, 20], false, [], []⟩)) (.block 3 (.seq (.region ac144_9 [] (some ⟨[4, 6, 18, 19, 20, 27], false, [], []⟩)) (.cond (.tmp 27) (.seq (.region ac144_10 [] (some ⟨[2, 3], false, [], []⟩)) .ret) (.seq (.region ac144_11 [] (some ⟨[4, 18, 19, 20, 37], false, [], []⟩)) (.cond (.tmp 37) (.seq (.region ac144_12 [] (some ⟨[2, 3], false, [], []⟩)) .ret) .skip)))))))) (.region ac144_13 [] (some ⟨[18, 19, 20], false, [], []⟩)))))))) (.seq (.region ac144_14 [] (some ⟨[2, 3], false, [], []⟩)) .ret))))
def rs144 : List AResV := [.tmp 2, .tmp 3]
def ft144 : FnT := ⟨46, tr144, tl144, ac144, rs144⟩
theorem is144 : FnIs Tryz.prog 144 46 tr144 tl144 ac144 rs144 := ⟨Tryz.f144, Tryz.func144, rfl, by kernel_rfl, by kernel_rfl, by kernel_rfl⟩
def ac145_0 : List AOper := [
  ⟨(some 3), (.box (.tmp 0)), none⟩,
  ⟨(some 6), (.alloc [(.d (.v (.bool false))), (.d (.v (.int .i64 0))), (.d (.v (.int .i64 0))), (.d (.v (.int .i64 0)))]), none⟩]
def ac145_1 : List AOper := [
  ⟨(some 11), (.faddr 1 (.tmp 3)), none⟩,
  ⟨(some 12), (.load false 1 (.tmp 11)), none⟩,
  ⟨(some 13), (.mv (.tmp 2)), none⟩,
  ⟨(some 14), (.call 223 [(.tmp 12), (.tmp 13)]), none⟩,
  ⟨(some 7), (.mv (.tmp 14)), none⟩]
def ac145_2 : List AOper := [
  ⟨(some 15), (.mv (.tmp 7)), none⟩,
  ⟨(some 8), (.mv (.tmp 15)), none⟩]
def ac145_3 : List AOper := [
  ⟨(some 16), (.faddr 1 (.tmp 3)), none⟩,
  ⟨(some 17), (.load false 1 (.tmp 16)), none⟩,
  ⟨(some 18), (.len (.tmp 17)), none⟩,
  ⟨(some 19), (.mv (.const (.int .i64 0))), none⟩]
def ac145_4 : List AOper := [
  ⟨(some 20), (.bin .lss 3 (.tmp 19) (.tmp 18)), none⟩]
def ac145_5 : List AOper := [
  ⟨(some 21), (.mv (.tmp 19)), none⟩,
  ⟨(some 22), (.iaddr 1 none (.tmp 17) (.tmp 19)), none⟩,
  ⟨(some 23), (.load false 1 (.tmp 22)), none⟩,
  ⟨(some 9), (.mv (.tmp 21)), none⟩,
  ⟨(some 10), (.mv (.tmp 23)), none⟩]
def ac145_6 : List AOper := [
  ⟨(some 24), (.mv (.tmp 2)), none⟩,
  ⟨(some 25), (.mv (.tmp 10)), none⟩,
  ⟨(some 26), (.calld (.tmp 24) [(.tmp 25)]), none⟩]
def ac145_7 : List AOper := [
  ⟨(some 27), (.mv (.tmp 9)), none⟩,
  ⟨(some 8), (.mv (.tmp 27)), none⟩]
def ac145_8 : List AOper := [
  ⟨(some 28), (.bin .add 3 (.tmp 19) (.const (.int .i64 1))), none⟩,
  ⟨(some 19), (.mv (.tmp 28)), none⟩]
def ac145_9 : List AOper := [
  ⟨(some 29), (.faddr 2 (.tmp 3)), none⟩,
  ⟨(some 30), (.load false 1 (.tmp 29)), none⟩,
  ⟨(some 31), (.bin .eql 3 (.tmp 30) (.const (.int .i64 1))), none⟩,
  ⟨(some 32), (.faddr 0 (.tmp 3)), none⟩,
  ⟨(some 33), (.load false 1 (.tmp 32)), none⟩,
  ⟨(some 34), (.mv (.tmp 7)), none⟩,
  ⟨(some 35), (.bin .add 3 (.tmp 33) (.tmp 34)), none⟩,
  ⟨(some 36), (.faddr 0 (.tmp 3)), none⟩,
  ⟨(some 37), (.load false 1 (.tmp 36)), none⟩,
  ⟨(some 38), (.mv (.tmp 8)), none⟩,
  ⟨(some 39), (.bin .add 3 (.tmp 37) (.tmp 38)), none⟩,
  ⟨(some 40), (.mv (.tmp 1)), none⟩,
  ⟨(some 41), (.build [(.d (.v (.bool false))), (.d (.v (.int .i64 0))), (.d (.v (.int .i64 0))), (.d (.v (.int .i64 0)))] [(0, 1, (.tmp 31)), (1, 1, (.tmp 35)), (2, 1, (.tmp 39)), (3, 1, (.tmp 40))]), none⟩,
  ⟨none, (.store 4 (.tmp 6) (.tmp 41)), none⟩]
def tr145 : List (Nat × Tidy) := [(0, ⟨[1, 2, 3, 6], false, [], []⟩), (1, ⟨[1, 2, 3, 6, 7], false, [], []⟩), (2, ⟨[1, 2, 3, 6, 7, 8], false, [], []⟩), (3, ⟨[1, 2, 3, 6, 7, 8, 17, 18, 19], false, [], []⟩), (4, ⟨[1, 2, 3, 6, 7, 8, 17, 18, 19, 20], false, [], []⟩), (5, ⟨[1, 2, 3, 6, 7, 8, 9, 10, 17, 18, 19], false, [], []⟩), (6, ⟨[1, 2, 3, 6, 7, 8, 9, 17, 18, 19, 26], false, [], []⟩), (7, ⟨[1, 2, 3, 6, 7, 8, 17, 18, 19], false, [], []⟩), (8, ⟨[1, 2, 3, 6, 7, 8, 17, 18, 19], false, [], []⟩), (9, ⟨[6], false, [], []⟩)]
def tl145 : List (Nat × Tidy) := [(4, ⟨[1, 2, 3, 6, 7, 8, 17, 18, 19], true, [⟨false, 7, 0, 20007, 0⟩, ⟨false, 8, 0, 20008, 0⟩, ⟨false, 17, 0, 20017, 0⟩, ⟨false, 19, 0, 20019, 0⟩], []⟩)]
def ac145 : ACode := (.seq (.region ac145_0 [] (some ⟨[1, 2, 3, 6], false, [], []⟩)) (.seq (.region ac145_1 [] (some ⟨[1, 2, 3, 6, 7], false, [], []⟩)) (.seq (.region ac145_2 [] (some ⟨[1, 2, 3, 6, 7, 8], false, [], []⟩)) (.seq (.seq (.region ac145_3 [] (some ⟨[1, 2, 3, 6, 7, 8, 17, 18, 19], false, [], []⟩)) (.block 0 (.loop (some ⟨[1, 2, 3, 6, 7, 8, 17, 18, 19], true, [⟨false, 7, 0, 20007, 0⟩, ⟨false, 8, 0, 20008, 0⟩, ⟨false, 17, 0, 20017, 0⟩, ⟨false, 19, 0, 20019, 0⟩], []⟩) (.seq (.region ac145_4 [] (some ⟨[1, 2, 3, 6, 7, 8, 17, 18, 19, 20], false, [], []⟩)) (.seq (.cond (.tmp 20) .skip (.exit 0)) (.seq (.block 1 (.seq (.region ac145_5 [] (some ⟨[1, 2, 3, 6, 7, 8, 9, 10, 17, 18, 19], false, [], []⟩)) (.seq (.region ac145_6 [] (some ⟨[1, 2, 3, 6, 7, 8, 9, 17, 18, 19, 26], false, [], []⟩)) (.cond (.tmp 26) (.region ac145_7 [] (some ⟨[1, 2, 3, 6, 7, 8, 17, 18, 19], false, [], []⟩)) .skip)))) (.region ac145_8 [] (some ⟨[1, 2, 3, 6, 7, 8, 17, 18, 19], false, [], []⟩)))))))) (.seq (.region ac145_9 [] (some ⟨[6], false, [], []⟩)) .ret)))))
def rs145 : List AResV := [.cell 6 true 4]
def ft145 : FnT := ⟨42, tr145, tl145, ac145, rs145⟩
theorem is145 : FnIs Tryz.prog 145 42 tr145 tl145 ac145 rs145 := ⟨Tryz.f145, Tryz.func145, rfl, by kernel_rfl, by kernel_rfl, by kernel_rfl⟩
def ac146_0 : List AOper := [
  ⟨(some 4), (.mv (.const (.bool false))), none⟩]
def ac146_1 : List AOper := [
  ⟨(some 5), (.mv (.tmp 0)), none⟩,
  ⟨(some 6), (.load false 1 (.tmp 1)), none⟩,
  ⟨(some 7), (.load false 1 (.tmp 2)), none⟩,
  ⟨(some 8), (.bin .sub 3 (.tmp 6) (.tmp 7)), none⟩,
  ⟨(some 9), (.bin .geq 3 (.tmp 5) (.tmp 8)), none⟩,
  ⟨(some 4), (.mv (.tmp 9)), none⟩]
def tr146 : List (Nat × Tidy) := [(0, ⟨[0, 1, 2], false, [], []⟩), (1, ⟨[4], false, [], []⟩)]
def tl146 : List (Nat × Tidy) := []
def ac146 : ACode := (.seq (.region ac146_0 [] (some ⟨[0, 1, 2], false, [], []⟩)) (.seq (.region ac146_1 [] (some ⟨[4], false, [], []⟩)) .ret))
def rs146 : List AResV := [.tmp 4]
def ft146 : FnT := ⟨10, tr146, tl146, ac146, rs146⟩
theorem is146 : FnIs Tryz.prog 146 10 tr146 tl146 ac146 rs146 := ⟨Tryz.f146, Tryz.func146, rfl, by kernel_rfl, by kernel_rfl, by kernel_rfl⟩
def ac147_0 : List AOper := [
  ⟨(some 4), (.mv (.const (.bool false))), none⟩]
def ac147_1 : List AOper := [
  ⟨(some 5), (.mv (.tmp 0)), none⟩,
  ⟨(some 6), (.load false 1 (.tmp 1)), none⟩,
  ⟨(some 7), (.load false 1 (.tmp 2)), none⟩,
  ⟨(some 8), (.bin .add 3 (.tmp 6) (.tmp 7)), none⟩,
  ⟨(some 9), (.bin .leq 3 (.tmp 5) (.tmp 8)), none⟩,
  ⟨(some 4), (.mv (.tmp 9)), none⟩]
def tr147 : List (Nat × Tidy) := [(0, ⟨[0, 1, 2], false, [], []⟩), (1, ⟨[4], false, [], []⟩)]
def tl147 : List (Nat × Tidy) := []
def ac147 : ACode := (.seq (.region ac147_0 [] (some ⟨[0, 1, 2], false, [], []⟩)) (.seq (.region ac147_1 [] (some ⟨[4], false, [], []⟩)) .ret))
def rs147 : List AResV := [.tmp 4]
def ft147 : FnT := ⟨10, tr147, tl147, ac147, rs147⟩
theorem is147 : FnIs Tryz.prog 147 10 tr147 tl147 ac147 rs147 := ⟨Tryz.f147, Tryz.func147, rfl, by kernel_rfl, by kernel_rfl, by kernel_rfl⟩
def ac148_0 : List AOper := [
  ⟨(some 2), (.box (.tmp 0)), none⟩,
  ⟨(some 3), (.box (.tmp 1)), none⟩,
  ⟨(some 4), (.alloc [.nils, .nils, (.d (.v (.int .i64 0))), (.d (.v (.int .i64 0)))]), none⟩,
  ⟨(some 5), (.mv (.const (.int .i64 0))), none⟩]
def ac148_1 : List AOper := [
  ⟨(some 11), (.load true 2 (.tmp 2)), none⟩,
  ⟨(some 12), (.faddr 0 (.tmp 3)), none⟩,
  ⟨(some 13), (.load false 1 (.tmp 12)), none⟩,
  ⟨(some 14), (.faddr 1 (.tmp 3)), none⟩,
  ⟨(some 15), (.load false 1 (.tmp 14)), none⟩,
  ⟨(some 16), (.bslice 1 2 [(.sl [])] [(0, (.tmp 13)), (1, (.tmp 15))]), none⟩,
  ⟨(some 17), (.call 224 [(.tmp 11), (.tmp 16)]), none⟩,
  ⟨(some 10), (.mv (.tmp 17)), none⟩,
  ⟨(some 18), (.extract 0 (.tmp 10)), none⟩,
  ⟨(some 19), (.extract 1 (.tmp 10)), none⟩,
  ⟨(some 20), (.extract 2 (.tmp 10)), none⟩,
  ⟨(some 6), (.alloc [.nils, .nils]), none⟩,
  ⟨none, (.store 2 (.tmp 6) (.tmp 18)), none⟩,
  ⟨(some 7), (.mv (.tmp 19)), none⟩,
  ⟨(some 8), (.mv (.tmp 20)), none⟩]
def ac148_2 : List AOper := [
  ⟨(some 21), (.mv (.tmp 8)), none⟩,
  ⟨(some 22), (.bin .neq 28 (.tmp 21) (.const (.int .i64 0))), none⟩]
def ac148_3 : List AOper := [
  ⟨(some 23), (.build [.nils, .nils, (.d (.v (.int .i64 0))), (.d (.v (.int .i64 0)))] []), none⟩,
  ⟨(some 24), (.mv (.tmp 8)), none⟩,
  ⟨none, (.store 4 (.tmp 4) (.tmp 23)), none⟩,
  ⟨(some 5), (.mv (.tmp 24)), none⟩]
def ac148_4 : List AOper := [
  ⟨(some 25), (.load true 2 (.tmp 6)), none⟩,
  ⟨(some 26), (.mv (.tmp 7)), none⟩,
  ⟨(some 27), (.iaddr 1 none (.tmp 26) (.const (.int .i64 0))), none⟩,
  ⟨(some 28), (.load false 1 (.tmp 27)), none⟩,
  ⟨(some 29), (.mv (.tmp 7)), none⟩,
  ⟨(some 30), (.iaddr 1 none (.tmp 29) (.const (.int .i64 1))), none⟩,
  ⟨(some 31), (.load false 1 (.tmp 30)), none⟩,
  ⟨(some 32), (.build [.nils, .nils, (.d (.v (.int .i64 0))), (.d (.v (.int .i64 0)))] [(0, 2, (.tmp 25)), (2, 1, (.tmp 28)), (3, 1, (.tmp 31))]), none⟩,
  ⟨(some 9), (.alloc [.nils, .nils, (.d (.v (.int .i64 0))), (.d (.v (.int .i64 0)))]), none⟩,
  ⟨none, (.store 4 (.tmp 9) (.tmp 32)), none⟩]
def ac148_5 : List AOper := [
  ⟨(some 33), (.load true 2 (.tmp 6)), none⟩,
  ⟨(some 34), (.faddr 2 (.tmp 9)), none⟩,
  ⟨(some 35), (.load false 1 (.tmp 34)), none⟩,
  ⟨(some 36), (.call 225 [(.tmp 33), (.tmp 35)]), none⟩,
  ⟨(some 37), (.pure (oB (.unOp .not 4 (.tmp 36)) 4)), none⟩,
  ⟨(some 38), (.mv (.tmp 37)), none⟩,
  ⟨(some 39), (.load true 2 (.tmp 6)), (some (38, false))⟩,
  ⟨(some 40), (.faddr 3 (.tmp 9)), (some (38, false))⟩,
  ⟨(some 41), (.load false 1 (.tmp 40)), (some (38, false))⟩,
  ⟨(some 42), (.call 225 [(.tmp 39), (.tmp 41)]), (some (38, false))⟩,
  ⟨(some 43), (.pure (oB (.unOp .not 4 (.tmp 42)) 4)), (some (38, false))⟩,
  ⟨(some 44), (.pick (.tmp 38) (.const (.bool true)) (.tmp 43)), none⟩]
def ac148_6 : List AOper := [
  ⟨(some 45), (.build [.nils, .nils, (.d (.v (.int .i64 0))), (.d (.v (.int .i64 0)))] []), none⟩,
  ⟨none, (.store 4 (.tmp 4) (.tmp 45)), none⟩,
  ⟨(some 5), (.mv (.const (.int .i64 24))), none⟩]
def ac148_7 : List AOper := [
  ⟨(some 46), (.load true 4 (.tmp 9)), none⟩,
  ⟨none, (.store 4 (.tmp 4) (.tmp 46)), none⟩,
  ⟨(some 5), (.mv (.const (.int .i64 0))), none⟩]
def tr148 : List (Nat × Tidy) := [(0, ⟨[2, 3, 4], false, [], []⟩), (1, ⟨[4, 6, 7, 8], false, [], []⟩), (2, ⟨[4, 6, 7, 8, 22], false, [], []⟩), (3, ⟨[4, 5], false, [], []⟩), (4, ⟨[4, 6, 9], false, [], []⟩), (5, ⟨[4, 9, 44], false, [], []⟩), (6, ⟨[4, 5], false, [], []⟩), (7, ⟨[4, 5], false, [], []⟩)]
def tl148 : List (Nat × Tidy) := []
def ac148 : ACode := (.seq (.region ac148_0 [] (some ⟨[2, 3, 4], false, [], []⟩)) (.seq (.region ac148_1 [] (some ⟨[4, 6, 7, 8], false, [], []⟩)) (.seq (.seq (.region ac148_2 [] (some ⟨[4, 6, 7, 8, 22], false, [], []⟩)) (.cond (.tmp 22) (.seq (.region ac148_3 [] (some ⟨[4, 5], false, [], []⟩)) .ret) .skip)) (.seq (.region ac148_4 [(0, 8), (2, 8), (3, 8), (5, 8), (6, 8)] (some ⟨[4, 6, 9], false, [], []⟩)) (.seq (.seq (.region ac148_5 [] (some ⟨[4, 9, 44], false, [], []⟩)) (.cond (.tmp 44) (.seq (.region ac148_6 [] (some ⟨[4, 5], false, [], []⟩)) .ret) .skip)) (.seq (.region ac148_7 [] (some ⟨[4, 5], false, [], []⟩)) .ret))))))
def rs148 : List AResV := [.cell 4 true 4, .tmp 5]
def ft148 : FnT := ⟨47, tr148, tl148, ac148, rs148⟩
theorem is148 : FnIs Tryz.prog 148 47 tr148 tl148 ac148 rs148 := ⟨Tryz.f148, Tryz.func148, rfl, by kernel_rfl, by kernel_rfl, by kernel_rfl⟩
def ac149_0 : List AOper := [
  ⟨(some 2), (.box (.tmp 0)), none⟩,
  ⟨(some 4), (.mv (.const (.slice none 0 0))), none⟩]
def ac149_1 : List AOper := [
  ⟨(some 10), (.bslice 1 1 [(.v (.int .i64 0))] [(0, (.const (.int .i64 1000)))]), none⟩,
  ⟨(some 11), (.faddr 0 (.tmp 2)), none⟩,
  ⟨(some 12), (.faddr 0 (.tmp 11)), none⟩,
  ⟨(some 13), (.load false 1 (.tmp 12)), none⟩,
  ⟨(some 14), (.len (.tmp 13)), none⟩,
  ⟨(some 15), (.bin .shl 3 (.const (.int .i64 1)) (.tmp 14)), none⟩,
  ⟨(some 16), (.call 226 [(.tmp 10), (.tmp 15)]), none⟩,
  ⟨(some 5), (.alloc [.nils]), none⟩,
  ⟨none, (.store 1 (.tmp 5) (.tmp 16)), none⟩]
def ac149_2 : List AOper := [
  ⟨(some 17), (.load false 1 (.tmp 5)), none⟩,
  ⟨(some 18), (.mv (.tmp 1)), none⟩,
  ⟨(some 19), (.iaddr 1 none (.tmp 17) (.tmp 18)), none⟩,
  ⟨none, (.store 1 (.tmp 19) (.const (.int .i64 0))), none⟩]
def ac149_3 : List AOper := [
  ⟨(some 20), (.mv (.tmp 1)), none⟩,
  ⟨(some 21), (.bslice 1 1 [(.v (.int .i64 0))] [(0, (.tmp 20))]), none⟩,
  ⟨(some 6), (.alloc [.nils]), none⟩,
  ⟨none, (.store 1 (.tmp 6) (.tmp 21)), none⟩]
def ac149_4 : List AOper := [
  ⟨(some 22), (.load false 1 (.tmp 6)), none⟩,
  ⟨(some 23), (.len (.tmp 22)), none⟩,
  ⟨(some 24), (.bin .gtr 3 (.tmp 23) (.const (.int .i64 0))), none⟩]
def ac149_5 : List AOper := [
  ⟨(some 25), (.load false 1 (.tmp 6)), none⟩,
  ⟨(some 26), (.iaddr 1 none (.tmp 25) (.const (.int .i64 0))), none⟩,
  ⟨(some 27), (.load false 1 (.tmp 26)), none⟩,
  ⟨(some 7), (.alloc [(.d (.v (.int .i64 0)))]), none⟩,
  ⟨none, (.store 1 (.tmp 7) (.tmp 27)), none⟩]
def ac149_6 : List AOper := [
  ⟨(some 28), (.load false 1 (.tmp 6)), none⟩,
  ⟨(some 29), (.slice 1 true (.tmp 28) (some (.const (.int .i64 1))) none), none⟩,
  ⟨none, (.store 1 (.tmp 6) (.tmp 29)), none⟩]
def ac149_7 : List AOper := [
  ⟨(some 30), (.load true 2 (.tmp 2)), none⟩,
  ⟨(some 31), (.load false 1 (.tmp 7)), none⟩,
  ⟨(some 32), (.call 150 [(.tmp 30), (.tmp 31)]), none⟩]
def ac149_8 : List AOper := [
  ⟨(some 9), (.mv (.tmp 34)), none⟩]
def ac149_9 : List AOper := [
  ⟨(some 35), (.load false 1 (.tmp 5)), none⟩,
  ⟨(some 36), (.mv (.tmp 9)), none⟩,
  ⟨(some 37), (.iaddr 1 none (.tmp 35) (.tmp 36)), none⟩,
  ⟨(some 38), (.load false 1 (.tmp 37)), none⟩,
  ⟨(some 39), (.bin .eql 3 (.tmp 38) (.const (.int .i64 1000))), none⟩]
def ac149_10 : List AOper := [
  ⟨(some 40), (.load false 1 (.tmp 5)), none⟩,
  ⟨(some 41), (.mv (.tmp 9)), none⟩,
  ⟨(some 42), (.load false 1 (.tmp 5)), none⟩,
  ⟨(some 43), (.load false 1 (.tmp 7)), none⟩,
  ⟨(some 44), (.iaddr 1 none (.tmp 42) (.tmp 43)), none⟩,
  ⟨(some 45), (.load false 1 (.tmp 44)), none⟩,
  ⟨(some 46), (.bin .add 3 (.tmp 45) (.const (.int .i64 1))), none⟩,
  ⟨(some 47), (.iaddr 1 none (.tmp 40) (.tmp 41)), none⟩,
  ⟨none, (.store 1 (.tmp 47) (.tmp 46)), none⟩]
def ac149_11 : List AOper := [
  ⟨(some 48), (.load false 1 (.tmp 6)), none⟩,
  ⟨(some 49), (.mv (.tmp 9)), none⟩,
  ⟨(some 50), (.bslice 1 1 [(.v (.int .i64 0))] [(0, (.tmp 49))]), none⟩,
  ⟨(some 51), (.append 1 8 (.tmp 48) (.tmp 50)), none⟩,
  ⟨none, (.store 1 (.tmp 6) (.tmp 51)), none⟩]
def ac149_12 : List AOper := [
  ⟨(some 52), (.load false 1 (.tmp 5)), none⟩,
  ⟨(some 4), (.mv (.tmp 52)), none⟩]
def tr149 : List (Nat × Tidy) := [(0, ⟨[1, 2, 4], false, [], []⟩), (1, ⟨[1, 2, 4, 5], false, [], []⟩), (2, ⟨[1, 2, 4, 5], false, [], []⟩), (3, ⟨[2, 4, 5, 6], false, [], []⟩), (4, ⟨[2, 4, 5, 6, 24], false, [], []⟩), (5, ⟨[2, 4, 5, 6, 7], false, [], []⟩), (6, ⟨[2, 4, 5, 6, 7], false, [], []⟩), (7, ⟨[2, 4, 5, 6, 7, 32], false, [], []⟩), (8, ⟨[2, 4, 5, 6, 7, 9], false, [], []⟩), (9, ⟨[2, 4, 5, 6, 7, 9, 39], false, [], []⟩), (10, ⟨[2, 4, 5, 6, 7, 9], false, [], []⟩), (11, ⟨[2, 4, 5, 6, 7], false, [], []⟩), (12, ⟨[4], false, [], []⟩), (1000029, ⟨[], false, [], []⟩)]
def tl149 : List (Nat × Tidy) := [(4, ⟨[2, 4, 5, 6], true, [⟨false, 4, 0, 20004, 0⟩, ⟨true, 5, 0, 30500, 0⟩, ⟨true, 6, 0, 30600, 0⟩], []⟩), (9, ⟨[2, 4, 5, 6, 7], true, [⟨false, 4, 0, 20004, 0⟩, ⟨true, 5, 0, 30500, 0⟩, ⟨true, 6, 0, 30600, 0⟩], []⟩)]
def ac149 : ACode := (.seq (.region ac149_0 [] (some ⟨[1, 2, 4], false, [], []⟩)) (.seq (.region ac149_1 [] (some ⟨[1, 2, 4, 5], false, [], []⟩)) (.seq (.region ac149_2 [] (some ⟨[1, 2, 4, 5], false, [], []⟩)) (.seq (.region ac149_3 [] (some ⟨[2, 4, 5, 6], false, [], []⟩)) (.seq (.block 0 (.loop (some ⟨[2, 4, 5, 6], true, [⟨false, 4, 0, 20004, 0⟩, ⟨true, 5, 0, 30500, 0⟩, ⟨true, 6, 0, 30600, 0⟩], []⟩) (.seq (.seq (.region ac149_4 [] (some ⟨[2, 4, 5, 6, 24], false, [], []⟩)) (.cond (.tmp 24) .skip (.exit 0))) (.block 1 (.seq (.region ac149_5 [] (some ⟨[2, 4, 5, 6, 7], false, [], []⟩)) (.seq (.region ac149_6 [] (some ⟨[2, 4, 5, 6, 7], false, [], []⟩)) (.seq (.region ac149_7 [] (some ⟨[2, 4, 5, 6, 7, 32], false, [], []⟩)) (.block 2 (.rangeF (.tmp 32) [33, 34] (some ⟨[2, 4, 5, 6, 7], true, [⟨false, 4, 0, 20004, 0⟩, ⟨true, 5, 0, 30500, 0⟩, ⟨true, 6, 0, 30600, 0⟩], []⟩) (.region ac149_8 [] (some ⟨[2, 4, 5, 6, 7, 9], false, [], []⟩)) (.block 3 (.seq (.region ac149_9 [] (some ⟨[2, 4, 5, 6, 7, 9, 39], false, [], []⟩)) (.cond (.tmp 39) (.seq (.region ac149_10 [] (some ⟨[2, 4, 5, 6, 7, 9], false, [], []⟩)) (.region ac149_11 [] (some ⟨[2, 4, 5, 6, 7], false, [], []⟩))) .skip)))))))))))) (.seq (.region ac149_12 [] (some ⟨[4], false, [], []⟩)) .ret))))))
def rs149 : List AResV := [.tmp 4]
def ft149 : FnT := ⟨53, tr149, tl149, ac149, rs149⟩
theorem is149 : FnIs Tryz.prog 149 53 tr149 tl149 ac149 rs149 := ⟨Tryz.f149, Tryz.func149, rfl, by kernel_rfl, by kernel_rfl, by kernel_rfl⟩
def ac150_0 : List AOper := [
  ⟨(some 2), (.box (.tmp 0)), none⟩,
  ⟨(some 3), (.box (.tmp 1)), none⟩,
  ⟨(some 4), (.mv (.const .nilFunc)), none⟩]
def ac150_1 : List AOper := [
  ⟨(some 5), (.mkfn 227 [(.tmp 2), (.tmp 3)]), none⟩,
  ⟨(some 4), (.mv (.tmp 5)), none⟩]
def tr150 : List (Nat × Tidy) := [(0, ⟨[2, 3], false, [], []⟩), (1, ⟨[4], false, [], []⟩)]
def tl150 : List (Nat × Tidy) := []
def ac150 : ACode := (.seq (.region ac150_0 [] (some ⟨[2, 3], false, [], []⟩)) (.seq (.region ac150_1 [] (some ⟨[4], false, [], []⟩)) .ret))
def rs150 : List AResV := [.tmp 4]
def ft150 : FnT := ⟨6, tr150, tl150, ac150, rs150⟩
theorem is150 : FnIs Tryz.prog 150 6 tr150 tl150 ac150 rs150 := ⟨Tryz.f150, Tryz.func150, rfl, by kernel_rfl, by kernel_rfl, by kernel_rfl⟩
def ac151_0 : List AOper := [
  ⟨(some 2), (.mv (.const (.int .i64 0))), none⟩]
def ac151_1 : List AOper := [
  ⟨(some 5), (.mv (.tmp 0)), none⟩,
  ⟨(some 6), (.len (.tmp 5)), none⟩,
  ⟨(some 7), (.mv (.const (.int .i64 0))), none⟩]
def ac151_2 : List AOper := [
  ⟨(some 8), (.bin .lss 3 (.tmp 7) (.tmp 6)), none⟩]
def ac151_3 : List AOper := [
  ⟨(some 9), (.iaddr 1 none (.tmp 5) (.tmp 7)), none⟩,
  ⟨(some 10), (.load false 1 (.tmp 9)), none⟩,
  ⟨(some 4), (.mv (.tmp 10)), none⟩]
def ac151_4 : List AOper := [
  ⟨(some 11), (.mv (.tmp 4)), none⟩,
  ⟨(some 12), (.bin .neq 28 (.tmp 11) (.const (.int .i64 0))), none⟩]
def ac151_5 : List AOper := [
  ⟨(some 13), (.mv (.tmp 4)), none⟩,
  ⟨(some 2), (.mv (.tmp 13)), none⟩]
def ac151_6 : List AOper := [
  ⟨(some 14), (.bin .add 3 (.tmp 7) (.const (.int .i64 1))), none⟩,
  ⟨(some 7), (.mv (.tmp 14)), none⟩]
def ac151_7 : List AOper := [
  ⟨(some 2), (.mv (.const (.int .i64 0))), none⟩]
def tr151 : List (Nat × Tidy) := [(0, ⟨[0], false, [], []⟩), (1, ⟨[5, 6, 7], false, [], []⟩), (2, ⟨[5, 6, 7, 8], false, [], []⟩), (3, ⟨[4, 5, 6, 7], false, [], []⟩), (4, ⟨[4, 5, 6, 7, 12], false, [], []⟩), (5, ⟨[2], false, [], []⟩), (6, ⟨[5, 6, 7], false, [], []⟩), (7, ⟨[2], false, [], []⟩)]
def tl151 : List (Nat × Tidy) := [(2, ⟨[5, 6, 7], true, [⟨false, 5, 0, 20005, 0⟩, ⟨false, 7, 0, 20007, 0⟩], []⟩)]
def ac151 : ACode := (.seq (.region ac151_0 [] (some ⟨[0], false, [], []⟩)) (.seq (.seq (.region ac151_1 [] (some ⟨[5, 6, 7], false, [], []⟩)) (.block 0 (.loop (some ⟨[5, 6, 7], true, [⟨false, 5, 0, 20005, 0⟩, ⟨false, 7, 0, 20007, 0⟩], []⟩) (.seq (.region ac151_2 [] (some ⟨[5, 6, 7, 8], false, [], []⟩)) (.seq (.cond (.tmp 8) .skip (.exit 0)) (.seq (.block 1 (.seq (.region ac151_3 [] (some ⟨[4, 5, 6, 7], false, [], []⟩)) (.seq (.region ac151_4 [] (some ⟨[4, 5, 6, 7, 12], false, [], []⟩)) (.cond (.tmp 12) (.seq (.region ac151_5 [] (some ⟨[2], false, [], []⟩)) .ret) .skip)))) (.region ac151_6 [] (some ⟨[5, 6, 7], false, [], []⟩)))))))) (.seq (.region ac151_7 [] (some ⟨[2], false, [], []⟩)) .ret)))
def rs151 : List AResV := [.tmp 2]
def ft151 : FnT := ⟨15, tr151, tl151, ac151, rs151⟩
theorem is151 : FnIs Tryz.prog 151 15 tr151 tl151 ac151 rs151 := ⟨Tryz.f151, Tryz.func151, rfl, by kernel_rfl, by kernel_rfl, by kernel_rfl⟩
def ac152_0 : List AOper := [
  ⟨(some 1), (.box (.tmp 0)), none⟩,
  ⟨(some 2), (.mv (.const (.int .i64 0))), none⟩]
def ac152_1 : List AOper := [
  ⟨(some 3), (.faddr 0 (.tmp 1)), none⟩,
  ⟨(some 4), (.load false 1 (.tmp 3)), none⟩,
  ⟨(some 5), (.call 65 [(.tmp 4), (.const (.int .i64 5000)), (.const (.int .i64 80000))]), none⟩,
  ⟨(some 6), (.pure (oB (.unOp .not 4 (.tmp 5)) 4)), none⟩,
  ⟨(some 7), (.mv (.tmp 6)), none⟩,
  ⟨(some 8), (.faddr 1 (.tmp 1)), (some (7, false))⟩,
  ⟨(some 9), (.load false 1 (.tmp 8)), (some (7, false))⟩,
  ⟨(some 10), (.call 65 [(.tmp 9), (.const (.int .i64 1000)), (.const (.int .i64 200000))]), (some (7, false))⟩,
  ⟨(some 11), (.pure (oB (.unOp .not 4 (.tmp 10)) 4)), (some (7, false))⟩,
  ⟨(some 12), (.pick (.tmp 7) (.const (.bool true)) (.tmp 11)), none⟩,
  ⟨(some 13), (.mv (.tmp 12)), none⟩,
  ⟨(some 14), (.faddr 2 (.tmp 1)), (some (13, false))⟩,
  ⟨(some 15), (.load false 1 (.tmp 14)), (some (13, false))⟩,
  ⟨(some 16), (.call 65 [(.tmp 15), (.const (.int .i64 1)), (.const (.int .i64 200))]), (some (13, false))⟩,
  ⟨(some 17), (.pure (oB (.unOp .not 4 (.tmp 16)) 4)), (some (13, false))⟩,
  ⟨(some 18), (.pick (.tmp 13) (.const (.bool true)) (.tmp 17)), none⟩]
def ac152_2 : List AOper := [
  ⟨(some 2), (.mv (.const (.int .i64 2))), none⟩]
def ac152_3 : List AOper := [
  ⟨(some 2), (.mv (.const (.int .i64 0))), none⟩]
def tr152 : List (Nat × Tidy) := [(0, ⟨[1], false, [], []⟩), (1, ⟨[18], false, [], []⟩), (2, ⟨[2], false, [], []⟩), (3, ⟨[2], false, [], []⟩)]
def tl152 : List (Nat × Tidy) := []
def ac152 : ACode := (.seq (.region ac152_0 [] (some ⟨[1], false, [], []⟩)) (.seq (.seq (.region ac152_1 [] (some ⟨[18], false, [], []⟩)) (.cond (.tmp 18) (.seq (.region ac152_2 [] (some ⟨[2], false, [], []⟩)) .ret) .skip)) (.seq (.region ac152_3 [] (some ⟨[2], false, [], []⟩)) .ret)))
def rs152 : List AResV := [.tmp 2]
def ft152 : FnT := ⟨19, tr152, tl152, ac152, rs152⟩
theorem is152 : FnIs Tryz.prog 152 19 tr152 tl152 ac152 rs152 := ⟨Tryz.f152, Tryz.func152, rfl, by kernel_rfl, by kernel_rfl, by kernel_rfl⟩
def ac153_0 : List AOper := [
  ⟨(some 1), (.box (.tmp 0)), none⟩,
  ⟨(some 2), (.mv (.const (.int .i64 0))), none⟩]
def ac153_1 : List AOper := [
  ⟨(some 3), (.load true 2 (.tmp 1)), none⟩,
  ⟨(some 4), (.call 66 [(.tmp 3), (.const (.int .i64 0)), (.const (.int .i64 100000))]), none⟩,
  ⟨(some 2), (.mv (.tmp 4)), none⟩]
def tr153 : List (Nat × Tidy) := [(0, ⟨[1], false, [], []⟩), (1, ⟨[2], false, [], []⟩)]
def tl153 : List (Nat × Tidy) := []
def ac153 : ACode := (.seq (.region ac153_0 [] (some ⟨[1], false, [], []⟩)) (.seq (.region ac153_1 [] (some ⟨[2], false, [], []⟩)) .ret))
def rs153 : List AResV := [.tmp 2]
def ft153 : FnT := ⟨5, tr153, tl153, ac153, rs153⟩
theorem is153 : FnIs Tryz.prog 153 5 tr153 tl153 ac153 rs153 := ⟨Tryz.f153, Tryz.func153, rfl, by kernel_rfl, by kernel_rfl, by kernel_rfl⟩
def ac154_0 : List AOper := [
  ⟨(some 1), (.box (.tmp 0)), none⟩,
  ⟨(some 2), (.mv (.const (.int .i64 0))), none⟩,
  ⟨(some 3), (.mv (.const (.int .i64 0))), none⟩]
def ac154_1 : List AOper := [
  ⟨(some 4), (.faddr 2 (.tmp 1)), none⟩,
  ⟨(some 5), (.load false 1 (.tmp 4)), none⟩,
  ⟨(some 6), (.faddr 1 (.tmp 1)), none⟩,
  ⟨(some 7), (.load false 1 (.tmp 6)), none⟩,
  ⟨(some 8), (.bin .mul 3 (.tmp 5) (.tmp 7)), none⟩,
  ⟨(some 9), (.bin .mul 3 (.tmp 8) (.const (.int .i64 10000))), none⟩,
  ⟨(some 10), (.faddr 0 (.tmp 1)), none⟩,
  ⟨(some 11), (.load false 1 (.tmp 10)), none⟩,
  ⟨(some 12), (.bin .mul 3 (.const (.int .i64 4)) (.tmp 11)), none⟩,
  ⟨(some 2), (.mv (.tmp 9)), none⟩,
  ⟨(some 3), (.mv (.tmp 12)), none⟩]
def tr154 : List (Nat × Tidy) := [(0, ⟨[1], false, [], []⟩), (1, ⟨[2, 3], false, [], []⟩)]
def tl154 : List (Nat × Tidy) := []
def ac154 : ACode := (.seq (.region ac154_0 [] (some ⟨[1], false, [], []⟩)) (.seq (.region ac154_1 [] (some ⟨[2, 3], false, [], []⟩)) .ret))
def rs154 : List AResV := [.tmp 2, .tmp 3]
def ft154 : FnT := ⟨13, tr154, tl154, ac154, rs154⟩
theorem is154 : FnIs Tryz.prog 154 13 tr154 tl154 ac154 rs154 := ⟨Tryz.f154, Tryz.func154, rfl, by kernel_rfl, by kernel_rfl, by kernel_rfl⟩
def ac155_0 : List AOper := [
  ⟨(some 4), (.mv (.const (.int .i64 0))), none⟩]
def ac155_1 : List AOper := [
  ⟨(some 5), (.mv (.tmp 0)), none⟩,
  ⟨(some 6), (.mv (.tmp 1)), none⟩,
  ⟨(some 7), (.bin .quo 3 (.tmp 5) (.tmp 6)), none⟩,
  ⟨(some 4), (.mv (.tmp 7)), none⟩]
def tr155 : List (Nat × Tidy) := [(0, ⟨[0, 1], false, [], []⟩), (1, ⟨[4], false, [], []⟩)]
def tl155 : List (Nat × Tidy) := []
def ac155 : ACode := (.seq (.region ac155_0 [] (some ⟨[0, 1], false, [], []⟩)) (.seq (.region ac155_1 [] (some ⟨[4], false, [], []⟩)) .ret))
def rs155 : List AResV := [.tmp 4]
def ft155 : FnT := ⟨8, tr155, tl155, ac155, rs155⟩
theorem is155 : FnIs Tryz.prog 155 8 tr155 tl155 ac155 rs155 := ⟨Tryz.f155, Tryz.func155, rfl, by kernel_rfl, by kernel_rfl, by kernel_rfl⟩
def ac156_0 : List AOper := [
  ⟨(some 4), (.mv (.const (.int .i64 0))), none⟩]
def ac156_1 : List AOper := [
  ⟨(some 5), (.mv (.tmp 0)), none⟩,
  ⟨(some 6), (.mv (.tmp 1)), none⟩,
  ⟨(some 7), (.bin .add 3 (.tmp 5) (.tmp 6)), none⟩,
  ⟨(some 8), (.bin .sub 3 (.tmp 7) (.const (.int .i64 1))), none⟩,
  ⟨(some 9), (.mv (.tmp 1)), none⟩,
  ⟨(some 10), (.bin .quo 3 (.tmp 8) (.tmp 9)), none⟩,
  ⟨(some 4), (.mv (.tmp 10)), none⟩]
def tr156 : List (Nat × Tidy) := [(0, ⟨[0, 1], false, [], []⟩), (1, ⟨[4], false, [], []⟩)]
def tl156 : List (Nat × Tidy) := []
def ac156 : ACode := (.seq (.region ac156_0 [] (some ⟨[0, 1], false, [], []⟩)) (.seq (.region ac156_1 [] (some ⟨[4], false, [], []⟩)) .ret))
def rs156 : List AResV := [.tmp 4]
def ft156 : FnT := ⟨11, tr156, tl156, ac156, rs156⟩
theorem is156 : FnIs Tryz.prog 156 11 tr156 tl156 ac156 rs156 := ⟨Tryz.f156, Tryz.func156, rfl, by kernel_rfl, by kernel_rfl, by kernel_rfl⟩
def ac157_0 : List AOper := [
  ⟨(some 1), (.box (.tmp 0)), none⟩,
  ⟨(some 2), (.mv (.const (.int .i64 0))), none⟩]
def ac157_1 : List AOper := [
  ⟨(some 3), (.load true 2 (.tmp 1)), none⟩,
  ⟨(some 4), (.call 66 [(.tmp 3), (.const (.int .i64 1)), (.const (.int .i64 1000000))]), none⟩,
  ⟨(some 2), (.mv (.tmp 4)), none⟩]
def tr157 : List (Nat × Tidy) := [(0, ⟨[1], false, [], []⟩), (1, ⟨[2], false, [], []⟩)]
def tl157 : List (Nat × Tidy) := []
def ac157 : ACode := (.seq (.region ac157_0 [] (some ⟨[1], false, [], []⟩)) (.seq (.region ac157_1 [] (some ⟨[2], false, [], []⟩)) .ret))
def rs157 : List AResV := [.tmp 2]
def ft157 : FnT := ⟨5, tr157, tl157, ac157, rs157⟩
theorem is157 : FnIs Tryz.prog 157 5 tr157 tl157 ac157 rs157 := ⟨Tryz.f157, Tryz.func157, rfl, by kernel_rfl, by kernel_rfl, by kernel_rfl⟩
def ac163_0 : List AOper := [
  ⟨(some 3), (.box (.tmp 0)), none⟩,
  ⟨(some 6), (.mv (.const (.bool false))), none⟩]
def ac163_1 : List AOper := [
  ⟨(some 7), (.faddr 0 (.tmp 3)), none⟩,
  ⟨(some 8), (.load false 1 (.tmp 7)), none⟩,
  ⟨(some 9), (.mv (.tmp 1)), none⟩,
  ⟨(some 10), (.mv (.tmp 2)), none⟩,
  ⟨(some 11), (.call 65 [(.tmp 8), (.tmp 9), (.tmp 10)]), none⟩,
  ⟨(some 12), (.mv (.tmp 11)), none⟩,
  ⟨(some 13), (.faddr 1 (.tmp 3)), (some (12, true))⟩,
  ⟨(some 14), (.load false 1 (.tmp 13)), (some (12, true))⟩,
  ⟨(some 15), (.mv (.tmp 1)), (some (12, true))⟩,
  ⟨(some 16), (.mv (.tmp 2)), (some (12, true))⟩,
  ⟨(some 17), (.call 65 [(.tmp 14), (.tmp 15), (.tmp 16)]), (some (12, true))⟩,
  ⟨(some 18), (.pick (.tmp 12) (.tmp 17) (.const (.bool false))), none⟩,
  ⟨(some 6), (.mv (.tmp 18)), none⟩]
def tr163 : List (Nat × Tidy) := [(0, ⟨[1, 2, 3], false, [], []⟩), (1, ⟨[6], false, [], []⟩)]
def tl163 : List (Nat × Tidy) := []
def ac163 : ACode := (.seq (.region ac163_0 [] (some ⟨[1, 2, 3], false, [], []⟩)) (.seq (.region ac163_1 [] (some ⟨[6], false, [], []⟩)) .ret))
def rs163 : List AResV := [.tmp 6]
def ft163 : FnT := ⟨19, tr163, tl163, ac163, rs163⟩
theorem is163 : FnIs Tryz.prog 163 19 tr163 tl163 ac163 rs163 := ⟨Tryz.f163, Tryz.func163, rfl, by kernel_rfl, by kernel_rfl, by kernel_rfl⟩
def ac221_0 : List AOper := [
  ⟨(some 2), (.mv (.const (.float Go.FloatKind.f64 0))), none⟩]
def ac221_1 : List AOper := [
  ⟨(some 3), (.mv (.tmp 0)), none⟩,
  ⟨(some 4), (.pure (oB (.call { callee := .value (.func 277), args := #[(.tmp 3)], argTypes := #[231] }) 231)), none⟩,
  ⟨(some 2), (.mv (.tmp 4)), none⟩]
def ac221_2 : List AOper := [
  ⟨(some 5), (.mv (.tmp 0)), none⟩,
  ⟨(some 6), (.call 278 [(.tmp 5)]), none⟩,
  ⟨(some 2), (.mv (.tmp 6)), none⟩]
def tr221 : List (Nat × Tidy) := [(0, ⟨[0], false, [], []⟩), (1, ⟨[2], false, [], []⟩), (2, ⟨[2], false, [], []⟩)]
def tl221 : List (Nat × Tidy) := []
def ac221 : ACode := (.seq (.region ac221_0 [] (some ⟨[0], false, [], []⟩)) (.seq (.cond (.const (.bool true)) (.seq (.region ac221_1 [] (some ⟨[2], false, [], []⟩)) .ret) .skip) (.seq (.region ac221_2 [] (some ⟨[2], false, [], []⟩)) .ret)))
def rs221 : List AResV := [.tmp 2]
def ft221 : FnT := ⟨7, tr221, tl221, ac221, rs221⟩
theorem is221 : FnIs Tryz.prog 221 7 tr221 tl221 ac221 rs221 := ⟨Tryz.f221, Tryz.func221, rfl, by kernel_rfl, by kernel_rfl, by kernel_rfl⟩
def ac222_0 : List AOper := [
  ⟨(some 4), (.mv (.const (.bool false))), none⟩]
def ac222_1 : List AOper := [
  ⟨(some 5), (.mv (.tmp 1)), none⟩,
  ⟨(some 6), (.bin .eql 3 (.tmp 5) (.const (.int .i64 0))), none⟩]
def ac222_2 : List AOper := [
  ⟨(some 7), (.mv (.tmp 0)), none⟩,
  ⟨(some 8), (.call 273 [(.tmp 7)]), none⟩,
  ⟨(some 0), (.mv (.tmp 8)), none⟩]
def ac222_3 : List AOper := [
  ⟨(some 9), (.mv (.tmp 1)), none⟩,
  ⟨(some 10), (.bin .lss 3 (.tmp 9) (.const (.int .i64 0))), none⟩]
def ac222_4 : List AOper := [
  ⟨(some 11), (.mv (.tmp 0)), none⟩,
  ⟨(some 12), (.pure (oB (.unOp .neg 231 (.tmp 11)) 231)), none⟩,
  ⟨(some 0), (.mv (.tmp 12)), none⟩]
def ac222_5 : List AOper := [
  ⟨(some 13), (.mv (.tmp 0)), none⟩,
  ⟨(some 14), (.bin .gtr 231 (.tmp 13) (.const (.float Go.FloatKind.f64 9218868437227405311))), none⟩,
  ⟨(some 4), (.mv (.tmp 14)), none⟩]
def tr222 : List (Nat × Tidy) := [(0, ⟨[0, 1], false, [], []⟩), (1, ⟨[0, 1, 6], false, [], []⟩), (2, ⟨[0], false, [], []⟩), (3, ⟨[0, 10], false, [], []⟩), (4, ⟨[0], false, [], []⟩), (5, ⟨[4], false, [], []⟩)]
def tl222 : List (Nat × Tidy) := []
def ac222 : ACode := (.seq (.region ac222_0 [] (some ⟨[0, 1], false, [], []⟩)) (.seq (.seq (.region ac222_1 [] (some ⟨[0, 1, 6], false, [], []⟩)) (.cond (.tmp 6) (.region ac222_2 [] (some ⟨[0], false, [], []⟩)) (.seq (.region ac222_3 [] (some ⟨[0, 10], false, [], []⟩)) (.cond (.tmp 10) (.region ac222_4 [] (some ⟨[0], false, [], []⟩)) .skip)))) (.seq (.region ac222_5 [] (some ⟨[4], false, [], []⟩)) .ret)))
def rs222 : List AResV := [.tmp 4]
def ft222 : FnT := ⟨15, tr222, tl222, ac222, rs222⟩
theorem is222 : FnIs Tryz.prog 222 15 tr222 tl222 ac222 rs222 := ⟨Tryz.f222, Tryz.func222, rfl, by kernel_rfl, by kernel_rfl, by kernel_rfl⟩
def ac223_0 : List AOper := [
  ⟨(some 4), (.mv (.const (.int .i64 0))), none⟩]
def ac223_1 : List AOper := [
  ⟨(some 6), (.mv (.tmp 0)), none⟩,
  ⟨(some 7), (.len (.tmp 6)), none⟩,
  ⟨(some 8), (.mv (.const (.int .i64 0))), none⟩]
def ac223_2 : List AOper := [
  ⟨(some 9), (.bin .lss 3 (.tmp 8) (.tmp 7)), none⟩]
def ac223_3 : List AOper := [
  ⟨(some 10), (.mv (.tmp 8)), none⟩,
  ⟨(some 5), (.mv (.tmp 10)), none⟩]
def ac223_4 : List AOper := [
  ⟨(some 11), (.mv (.tmp 1)), none⟩,
  ⟨(some 12), (.mv (.tmp 0)), none⟩,
  ⟨(some 13), (.mv (.tmp 5)), none⟩,
  ⟨(some 14), (.iaddr 1 none (.tmp 12) (.tmp 13)), none⟩,
  ⟨(some 15), (.load false 1 (.tmp 14)), none⟩,
  ⟨(some 16), (.calld (.tmp 11) [(.tmp 15)]), none⟩]
def ac223_5 : List AOper := [
  ⟨(some 17), (.mv (.tmp 5)), none⟩,
  ⟨(some 4), (.mv (.tmp 17)), none⟩]
def ac223_6 : List AOper := [
  ⟨(some 18), (.bin .add 3 (.tmp 8) (.const (.int .i64 1))), none⟩,
  ⟨(some 8), (.mv (.tmp 18)), none⟩]
def ac223_7 : List AOper := [
  ⟨(some 4), (.mv (.const (.int .i64 (-1)))), none⟩]
def tr223 : List (Nat × Tidy) := [(0, ⟨[0, 1], false, [], []⟩), (1, ⟨[0, 1, 7, 8], false, [], []⟩), (2, ⟨[0, 1, 7, 8, 9], false, [], []⟩), (3, ⟨[0, 1, 5, 7, 8], false, [], []⟩), (4, ⟨[0, 1, 5, 7, 8, 16], false, [], []⟩), (5, ⟨[4], false, [], []⟩), (6, ⟨[0, 1, 7, 8], false, [], []⟩), (7, ⟨[4], false, [], []⟩)]
def tl223 : List (Nat × Tidy) := [(2, ⟨[0, 1, 7, 8], true, [⟨false, 8, 0, 20008, 0⟩], []⟩)]
def ac223 : ACode := (.seq (.region ac223_0 [] (some ⟨[0, 1], false, [], []⟩)) (.seq (.seq (.region ac223_1 [] (some ⟨[0, 1, 7, 8], false, [], []⟩)) (.block 0 (.loop (some ⟨[0, 1, 7, 8], true, [⟨false, 8, 0, 20008, 0⟩], []⟩) (.seq (.region ac223_2 [] (some ⟨[0, 1, 7, 8, 9], false, [], []⟩)) (.seq (.cond (.tmp 9) .skip (.exit 0)) (.seq (.block 1 (.seq (.region ac223_3 [] (some ⟨[0, 1, 5, 7, 8], false, [], []⟩)) (.seq (.region ac223_4 [] (some ⟨[0, 1, 5, 7, 8, 16], false, [], []⟩)) (.cond (.tmp 16) (.seq (.region ac223_5 [] (some ⟨[4], false, [], []⟩)) .ret) .skip)))) (.region ac223_6 [] (some ⟨[0, 1, 7, 8], false, [], []⟩)))))))) (.seq (.region ac223_7 [] (some ⟨[4], false, [], []⟩)) .ret)))
def rs223 : List AResV := [.tmp 4]
def ft223 : FnT := ⟨19, tr223, tl223, ac223, rs223⟩
theorem is223 : FnIs Tryz.prog 223 19 tr223 tl223 ac223 rs223 := ⟨Tryz.f223, Tryz.func223, rfl, by kernel_rfl, by kernel_rfl, by kernel_rfl⟩
def ac224_0 : List AOper := [
  ⟨(some 2), (.box (.tmp 0)), none⟩,
  ⟨(some 4), (.alloc [.nils, .nils]), none⟩,
  ⟨(some 5), (.mv (.const (.slice none 0 0))), none⟩,
  ⟨(some 6), (.mv (.const (.int .i64 0))), none⟩]
def ac224_1 : List AOper := [
  ⟨(some 13), (.load true 2 (.tmp 2)), none⟩,
  ⟨(some 14), (.call 279 [(.tmp 13)]), none⟩,
  ⟨(some 12), (.mv (.tmp 14)), none⟩,
  ⟨(some 15), (.extract 0 (.tmp 12)), none⟩,
  ⟨(some 16), (.extract 1 (.tmp 12)), none⟩,
  ⟨(some 7), (.mv (.tmp 15)), none⟩,
  ⟨(some 8), (.mv (.tmp 16)), none⟩]
def ac224_2 : List AOper := [
  ⟨(some 17), (.mv (.tmp 8)), none⟩,
  ⟨(some 18), (.bin .neq 28 (.tmp 17) (.const (.int .i64 0))), none⟩]
def ac224_3 : List AOper := [
  ⟨(some 19), (.build [.nils, .nils] []), none⟩,
  ⟨(some 20), (.mv (.tmp 8)), none⟩,
  ⟨none, (.store 2 (.tmp 4) (.tmp 19)), none⟩,
  ⟨(some 5), (.mv (.const (.slice none 0 0))), none⟩,
  ⟨(some 6), (.mv (.tmp 20)), none⟩]
def ac224_4 : List AOper := [
  ⟨(some 9), (.mv (.const (.slice none 0 0))), none⟩]
def ac224_5 : List AOper := [
  ⟨(some 21), (.mv (.tmp 1)), none⟩,
  ⟨(some 22), (.len (.tmp 21)), none⟩,
  ⟨(some 23), (.mv (.const (.int .i64 0))), none⟩]
def ac224_6 : List AOper := [
  ⟨(some 24), (.bin .lss 3 (.tmp 23) (.tmp 22)), none⟩]
def ac224_7 : List AOper := [
  ⟨(some 25), (.iaddr 1 none (.tmp 21) (.tmp 23)), none⟩,
  ⟨(some 26), (.load false 1 (.tmp 25)), none⟩,
  ⟨(some 11), (.mv (.tmp 26)), none⟩]
def ac224_8 : List AOper := [
  ⟨(some 27), (.mv (.tmp 11)), none⟩,
  ⟨(some 28), (.len (.tmp 27)), none⟩,
  ⟨(some 29), (.faddr 0 (.tmp 2)), none⟩,
  ⟨(some 30), (.load false 1 (.tmp 29)), none⟩,
  ⟨(some 31), (.len (.tmp 30)), none⟩,
  ⟨(some 32), (.bin .neq 3 (.tmp 28) (.tmp 31)), none⟩]
def ac224_9 : List AOper := [
  ⟨(some 33), (.build [.nils, .nils] []), none⟩,
  ⟨none, (.store 2 (.tmp 4) (.tmp 33)), none⟩,
  ⟨(some 5), (.mv (.const (.slice none 0 0))), none⟩,
  ⟨(some 6), (.mv (.const (.int .i64 12))), none⟩]
def ac224_10 : List AOper := [
  ⟨(some 34), (.mv (.tmp 9)), none⟩,
  ⟨(some 35), (.mv (.tmp 11)), none⟩,
  ⟨(some 36), (.call 280 [(.tmp 35)]), none⟩,
  ⟨(some 37), (.bslice 1 1 [(.v (.int .i64 0))] [(0, (.tmp 36))]), none⟩,
  ⟨(some 38), (.append 1 8 (.tmp 34) (.tmp 37)), none⟩,
  ⟨(some 9), (.mv (.tmp 38)), none⟩]
def ac224_11 : List AOper := [
  ⟨(some 39), (.bin .add 3 (.tmp 23) (.const (.int .i64 1))), none⟩,
  ⟨(some 23), (.mv (.tmp 39)), none⟩]
def ac224_12 : List AOper := [
  ⟨(some 40), (.load true 2 (.tmp 2)), none⟩,
  ⟨(some 41), (.build [.nils, .nils] [(0, 2, (.tmp 40))]), none⟩,
  ⟨(some 42), (.mv (.tmp 9)), none⟩,
  ⟨none, (.store 2 (.tmp 4) (.tmp 41)), none⟩,
  ⟨(some 5), (.mv (.tmp 42)), none⟩,
  ⟨(some 6), (.mv (.const (.int .i64 0))), none⟩]
def tr224 : List (Nat × Tidy) := [(0, ⟨[1, 2, 4], false, [], []⟩), (1, ⟨[1, 2, 4, 8], false, [], []⟩), (2, ⟨[1, 2, 4, 8, 18], false, [], []⟩), (3, ⟨[4, 5, 6], false, [], []⟩), (4, ⟨[1, 2, 4, 9], false, [], []⟩), (5, ⟨[2, 4, 9, 21, 22, 23], false, [], []⟩), (6, ⟨[2, 4, 9, 21, 22, 23, 24], false, [], []⟩), (7, ⟨[2, 4, 9, 11, 21, 22, 23], false, [], []⟩), (8, ⟨[2, 4, 9, 11, 21, 22, 23, 32], false, [], []⟩), (9, ⟨[4, 5, 6], false, [], []⟩), (10, ⟨[2, 4, 9, 21, 22, 23], false, [], []⟩), (11, ⟨[2, 4, 9, 21, 22, 23], false, [], []⟩), (12, ⟨[4, 5, 6], false, [], []⟩)]
def tl224 : List (Nat × Tidy) := [(6, ⟨[2, 4, 9, 21, 22, 23], true, [⟨false, 9, 0, 20009, 0⟩, ⟨false, 21, 0, 20021, 0⟩, ⟨false, 23, 0, 20023, 0⟩, ⟨true, 4, 0, 30400, 0⟩, ⟨true, 4, 1, 30401, 0⟩], []⟩)]
def ac224 : ACode := (.seq (.region ac224_0 [] (some ⟨[1, 2, 4], false, [], []⟩)) (.seq (.seq (.region ac224_1 [] (some ⟨[1, 2, 4, 8], false, [], []⟩)) (.seq (.region ac224_2 [] (some ⟨[1, 2, 4, 8, 18], false, [], []⟩)) (.cond (.tmp 18) (.seq (.region ac224_3 [] (some ⟨[4, 5, 6], false, [], []⟩)) .ret) .skip))) (.seq (.region ac224_4 [] (some ⟨[1, 2, 4, 9], false, [], []⟩)) (.seq (.seq (.region ac224_5 [] (some ⟨[2, 4, 9, 21, 22, 23], false, [], []⟩)) (.block 0 (.loop (some ⟨[2, 4, 9, 21, 22, 23], true, [⟨false, 9, 0, 20009, 0⟩, ⟨false, 21, 0, 20021, 0⟩, ⟨false, 23, 0, 20023, 0⟩, ⟨true, 4, 0, 30400, 0⟩, ⟨true, 4, 1, 30401, 0⟩], []⟩) (.seq (.region ac224_6 [] (some ⟨[2, 4, 9, 21, 22, 23, 24], false, [], []⟩)) (.seq (.cond (.tmp 24) .skip (.exit 0)) (.seq (.block 1 (.seq (.region ac224_7 [] (some ⟨[2, 4, 9, 11, 21, 22, 23], false, [], []⟩)) (.seq (.seq (.region ac224_8 [] (some ⟨[2, 4, 9, 11, 21, 22, 23, 32], false, [], []⟩)) (.cond (.tmp 32) (.seq (.region ac224_9 [] (some ⟨[4, 5, 6], false, [], []⟩)) .ret) .skip)) (.region ac224_10 [] (some ⟨[2, 4, 9, 21, 22, 23], false, [], []⟩))))) (.region ac224_11 [] (some ⟨[2, 4, 9, 21, 22, 23], false, [], []⟩)))))))) (.seq (.region ac224_12 [] (some ⟨[4, 5, 6], false, [], []⟩)) .ret)))))
def rs224 : List AResV := [.cell 4 true 2, .tmp 5, .tmp 6]
def ft224 : FnT := ⟨43, tr224, tl224, ac224, rs224⟩
theorem is224 : FnIs Tryz.prog 224 43 tr224 tl224 ac224 rs224 := ⟨Tryz.f224, Tryz.func224, rfl, by kernel_rfl, by kernel_rfl, by kernel_rfl⟩
def ac225_0 : List AOper := [
  ⟨(some 2), (.box (.tmp 0)), none⟩,
  ⟨(some 4), (.mv (.const (.bool false))), none⟩]
def ac225_1 : List AOper := [
  ⟨(some 5), (.load true 2 (.tmp 2)), none⟩,
  ⟨(some 6), (.mv (.tmp 1)), none⟩,
  ⟨(some 7), (.call 281 [(.tmp 5), (.tmp 6)]), none⟩,
  ⟨(some 8), (.bin .lss 3 (.tmp 7) (.const (.int .i64 0))), none⟩,
  ⟨(some 4), (.mv (.tmp 8)), none⟩]
def tr225 : List (Nat × Tidy) := [(0, ⟨[1, 2], false, [], []⟩), (1, ⟨[4], false, [], []⟩)]
def tl225 : List (Nat × Tidy) := []
def ac225 : ACode := (.seq (.region ac225_0 [] (some ⟨[1, 2], false, [], []⟩)) (.seq (.region ac225_1 [] (some ⟨[4], false, [], []⟩)) .ret))
def rs225 : List AResV := [.tmp 4]
def ft225 : FnT := ⟨9, tr225, tl225, ac225, rs225⟩
theorem is225 : FnIs Tryz.prog 225 9 tr225 tl225 ac225 rs225 := ⟨Tryz.f225, Tryz.func225, rfl, by kernel_rfl, by kernel_rfl, by kernel_rfl⟩
def ac226_0 : List AOper := [
  ⟨(some 4), (.mv (.const (.slice none 0 0))), none⟩]
def ac226_1 : List AOper := [
  ⟨(some 9), (.mv (.tmp 1)), none⟩,
  ⟨(some 10), (.bin .lss 3 (.tmp 9) (.const (.int .i64 0))), none⟩]
def ac226_2 : List AOper := [
  ⟨(some 11), (.ifc 9 (.const (.string ⟨#[99, 97, 110, 110, 111, 116, 32, 98, 101, 32, 110, 101, 103, 97, 116, 105, 118, 101]⟩))), none⟩,
  ⟨none, .bad, none⟩]
def ac226_3 : List AOper := [
  ⟨(some 13), (.mv (.tmp 0)), none⟩,
  ⟨(some 14), (.len (.tmp 13)), none⟩,
  ⟨(some 15), (.pure (oB (.convert 3 408 (.tmp 14)) 408)), none⟩,
  ⟨(some 16), (.mv (.tmp 1)), none⟩,
  ⟨(some 17), (.pure (oB (.convert 3 408 (.tmp 16)) 408)), none⟩,
  ⟨(some 18), (.call 282 [(.tmp 15), (.tmp 17)]), none⟩,
  ⟨(some 12), (.mv (.tmp 18)), none⟩,
  ⟨(some 19), (.extract 0 (.tmp 12)), none⟩,
  ⟨(some 20), (.extract 1 (.tmp 12)), none⟩,
  ⟨(some 5), (.mv (.tmp 19)), none⟩,
  ⟨(some 6), (.mv (.tmp 20)), none⟩]
def ac226_4 : List AOper := [
  ⟨(some 21), (.mv (.tmp 5)), none⟩,
  ⟨(some 22), (.bin .gtr 408 (.tmp 21) (.const (.int .u64 0))), none⟩,
  ⟨(some 23), (.mv (.tmp 22)), none⟩,
  ⟨(some 24), (.mv (.tmp 6)), (some (23, false))⟩,
  ⟨(some 25), (.bin .gtr 408 (.tmp 24) (.const (.int .u64 9223372036854775807))), (some (23, false))⟩,
  ⟨(some 26), (.pick (.tmp 23) (.const (.bool true)) (.tmp 25)), none⟩]
def ac226_5 : List AOper := [
  ⟨(some 27), (.ifc 9 (.const (.string ⟨#[116, 104, 101, 32, 114, 101, 115, 117, 108, 116, 32, 111, 102, 32, 40, 108, 101, 110, 40, 120, 41, 32, 42, 32, 99, 111, 117, 110, 116, 41, 32, 111, 118, 101, 114, 102, 108, 111, 119, 115]⟩))), none⟩,
  ⟨none, .bad, none⟩]
def ac226_6 : List AOper := [
  ⟨(some 28), (.mv (.tmp 6)), none⟩,
  ⟨(some 29), (.pure (oB (.convert 408 3 (.tmp 28)) 3)), none⟩,
  ⟨(some 30), (.mkslice 1 8 [(.v (.int .i64 0))] (.tmp 29) (.tmp 29)), none⟩,
  ⟨(some 7), (.mv (.tmp 30)), none⟩]
def ac226_7 : List AOper := [
  ⟨(some 31), (.mv (.tmp 7)), none⟩,
  ⟨(some 32), (.mv (.tmp 0)), none⟩,
  ⟨(some 33), (.copy 1 (.tmp 31) (.tmp 32)), none⟩,
  ⟨(some 8), (.mv (.tmp 33)), none⟩]
def ac226_8 : List AOper := [
  ⟨(some 34), (.mv (.tmp 8)), none⟩,
  ⟨(some 35), (.mv (.tmp 7)), none⟩,
  ⟨(some 36), (.len (.tmp 35)), none⟩,
  ⟨(some 37), (.bin .lss 3 (.tmp 34) (.tmp 36)), none⟩]
def ac226_9 : List AOper := [
  ⟨(some 38), (.mv (.tmp 8)), none⟩,
  ⟨(some 39), (.mv (.tmp 7)), none⟩,
  ⟨(some 40), (.mv (.tmp 8)), none⟩,
  ⟨(some 41), (.view 1 (.tmp 39) (some (.tmp 40)) none), none⟩,
  ⟨(some 42), (.mv (.tmp 7)), none⟩,
  ⟨(some 43), (.mv (.tmp 8)), none⟩,
  ⟨(some 44), (.view 1 (.tmp 42) none (some (.tmp 43))), none⟩,
  ⟨(some 45), (.copy 1 (.tmp 41) (.tmp 44)), none⟩,
  ⟨(some 46), (.bin .add 3 (.tmp 38) (.tmp 45)), none⟩,
  ⟨(some 8), (.mv (.tmp 46)), none⟩]
def ac226_10 : List AOper := [
  ⟨(some 47), (.mv (.tmp 7)), none⟩,
  ⟨(some 4), (.mv (.tmp 47)), none⟩]
def tr226 : List (Nat × Tidy) := [(0, ⟨[0, 1], false, [], []⟩), (1, ⟨[0, 1, 10], false, [], []⟩), (2, ⟨[0, 1], false, [], []⟩), (3, ⟨[0, 5, 6], false, [], []⟩), (4, ⟨[0, 6, 26], false, [], []⟩), (5, ⟨[0, 6], false, [], []⟩), (6, ⟨[0, 7], false, [], []⟩), (7, ⟨[7, 8], false, [], []⟩), (8, ⟨[7, 8, 37], false, [], []⟩), (9, ⟨[7, 8], false, [], []⟩), (10, ⟨[4], false, [], []⟩), (1100041, ⟨[], false, [], []⟩), (1100044, ⟨[], false, [], []⟩)]
def tl226 : List (Nat × Tidy) := [(8, ⟨[7, 8], true, [⟨false, 7, 0, 20007, 0⟩, ⟨false, 8, 0, 20008, 0⟩], []⟩)]
def ac226 : ACode := (.seq (.region ac226_0 [] (some ⟨[0, 1], false, [], []⟩)) (.seq (.seq (.region ac226_1 [] (some ⟨[0, 1, 10], false, [], []⟩)) (.cond (.tmp 10) (.region ac226_2 [] (some ⟨[0, 1], false, [], []⟩)) .skip)) (.seq (.region ac226_3 [] (some ⟨[0, 5, 6], false, [], []⟩)) (.seq (.seq (.region ac226_4 [] (some ⟨[0, 6, 26], false, [], []⟩)) (.cond (.tmp 26) (.region ac226_5 [] (some ⟨[0, 6], false, [], []⟩)) .skip)) (.seq (.region ac226_6 [] (some ⟨[0, 7], false, [], []⟩)) (.seq (.region ac226_7 [] (some ⟨[7, 8], false, [], []⟩)) (.seq (.block 0 (.loop (some ⟨[7, 8], true, [⟨false, 7, 0, 20007, 0⟩, ⟨false, 8, 0, 20008, 0⟩], []⟩) (.seq (.seq (.region ac226_8 [] (some ⟨[7, 8, 37], false, [], []⟩)) (.cond (.tmp 37) .skip (.exit 0))) (.block 1 (.region ac226_9 [] (some ⟨[7, 8], false, [], []⟩)))))) (.seq (.region ac226_10 [] (some ⟨[4], false, [], []⟩)) .ret))))))))
def rs226 : List AResV := [.tmp 4]
def ft226 : FnT := ⟨48, tr226, tl226, ac226, rs226⟩
theorem is226 : FnIs Tryz.prog 226 48 tr226 tl226 ac226 rs226 := ⟨Tryz.f226, Tryz.func226, rfl, by kernel_rfl, by kernel_rfl, by kernel_rfl⟩
def ac227_0 : List AOper := [
  ⟨(some 6), (.faddr 0 (.tmp 1)), none⟩,
  ⟨(some 7), (.faddr 0 (.tmp 6)), none⟩,
  ⟨(some 8), (.load false 1 (.tmp 7)), none⟩,
  ⟨(some 9), (.len (.tmp 8)), none⟩,
  ⟨(some 10), (.mv (.const (.int .i64 0))), none⟩]
def ac227_1 : List AOper := [
  ⟨(some 11), (.bin .lss 3 (.tmp 10) (.tmp 9)), none⟩]
def ac227_2 : List AOper := [
  ⟨(some 12), (.mv (.tmp 10)), none⟩,
  ⟨(some 4), (.mv (.tmp 12)), none⟩]
def ac227_3 : List AOper := [
  ⟨(some 13), (.load false 1 (.tmp 2)), none⟩,
  ⟨(some 14), (.mv (.tmp 4)), none⟩,
  ⟨(some 15), (.call 228 [(.tmp 13), (.tmp 14)]), none⟩,
  ⟨(some 5), (.mv (.tmp 15)), none⟩]
def ac227_4 : List AOper := [
  ⟨(some 16), (.load true 2 (.tmp 1)), none⟩,
  ⟨(some 17), (.mv (.tmp 5)), none⟩,
  ⟨(some 18), (.call 225 [(.tmp 16), (.tmp 17)]), none⟩,
  ⟨(some 19), (.mv (.tmp 18)), none⟩,
  ⟨(some 20), (.mv (.tmp 0)), (some (19, true))⟩,
  ⟨(some 21), (.mv (.tmp 4)), (some (19, true))⟩,
  ⟨(some 22), (.mv (.tmp 5)), (some (19, true))⟩,
  ⟨(some 23), (.calld (.tmp 20) [(.tmp 21), (.tmp 22)]), (some (19, true))⟩,
  ⟨(some 24), (.pure (oB (.unOp .not 4 (.tmp 23)) 4)), (some (19, true))⟩,
  ⟨(some 25), (.pick (.tmp 19) (.tmp 24) (.const (.bool false))), none⟩]
def ac227_5 : List AOper := [
  ⟨(some 26), (.bin .add 3 (.tmp 10) (.const (.int .i64 1))), none⟩,
  ⟨(some 10), (.mv (.tmp 26)), none⟩]
def tr227 : List (Nat × Tidy) := [(0, ⟨[0, 1, 2, 9, 10], false, [], []⟩), (1, ⟨[0, 1, 2, 9, 10, 11], false, [], []⟩), (2, ⟨[0, 1, 2, 4, 9, 10], false, [], []⟩), (3, ⟨[0, 1, 2, 4, 5, 9, 10], false, [], []⟩), (4, ⟨[0, 1, 2, 9, 10, 25], false, [], []⟩), (5, ⟨[0, 1, 2, 9, 10], false, [], []⟩)]
def tl227 : List (Nat × Tidy) := [(1, ⟨[0, 1, 2, 9, 10], true, [⟨false, 10, 0, 20010, 0⟩], []⟩)]
def ac227 : ACode := (.seq (.region ac227_0 [] (some ⟨[0, 1, 2, 9, 10], false, [], []⟩)) (.block 0 (.loop (some ⟨[0, 1, 2, 9, 10], true, [⟨false, 10, 0, 20010, 0⟩], []⟩) (.seq (.region ac227_1 [] (some ⟨[0, 1, 2, 9, 10, 11], false, [], []⟩)) (.seq (.cond (.tmp 11) .skip (.exit 0)) (.seq (.block 1 (.seq (.region ac227_2 [] (some ⟨[0, 1, 2, 4, 9, 10], false, [], []⟩)) (.seq (.region ac227_3 [] (some ⟨[0, 1, 2, 4, 5, 9, 10], false, [], []⟩)) (.seq (.region ac227_4 [] (some ⟨[0, 1, 2, 9, 10, 25], false, [], []⟩)) (.cond (.tmp 25) .ret .skip))))) (.region ac227_5 [] (some ⟨[0, 1, 2, 9, 10], false, [], []⟩))))))))
def rs227 : List AResV := []
def ft227 : FnT := ⟨27, tr227, tl227, ac227, rs227⟩
theorem is227 : FnIs Tryz.prog 227 27 tr227 tl227 ac227 rs227 := ⟨Tryz.f227, Tryz.func227, rfl, by kernel_rfl, by kernel_rfl, by kernel_rfl⟩
def ac228_0 : List AOper := [
  ⟨(some 4), (.mv (.const (.int .i64 0))), none⟩]
def ac228_1 : List AOper := [
  ⟨(some 5), (.mv (.tmp 0)), none⟩,
  ⟨(some 6), (.mv (.tmp 1)), none⟩,
  ⟨(some 7), (.bin .shl 284 (.const (.int .i64 1)) (.tmp 6)), none⟩,
  ⟨(some 8), (.bin .xor 284 (.tmp 5) (.tmp 7)), none⟩,
  ⟨(some 4), (.mv (.tmp 8)), none⟩]
def tr228 : List (Nat × Tidy) := [(0, ⟨[0, 1], false, [], []⟩), (1, ⟨[4], false, [], []⟩)]
def tl228 : List (Nat × Tidy) := []
def ac228 : ACode := (.seq (.region ac228_0 [] (some ⟨[0, 1], false, [], []⟩)) (.seq (.region ac228_1 [] (some ⟨[4], false, [], []⟩)) .ret))
def rs228 : List AResV := [.tmp 4]
def ft228 : FnT := ⟨9, tr228, tl228, ac228, rs228⟩
theorem is228 : FnIs Tryz.prog 228 9 tr228 tl228 ac228 rs228 := ⟨Tryz.f228, Tryz.func228, rfl, by kernel_rfl, by kernel_rfl, by kernel_rfl⟩
def ac251_0 : List AOper := [
  ⟨(some 4), (.mv (.const (.int .u64 0))), none⟩,
  ⟨(some 5), (.mv (.const (.int .u64 0))), none⟩]
def ac251_1 : List AOper := [
  ⟨(some 14), (.mv (.tmp 0)), none⟩,
  ⟨(some 15), (.bin .and 370 (.tmp 14) (.const (.int .u64 4294967295))), none⟩,
  ⟨(some 6), (.mv (.tmp 15)), none⟩]
def ac251_2 : List AOper := [
  ⟨(some 16), (.mv (.tmp 0)), none⟩,
  ⟨(some 17), (.bin .shr 370 (.tmp 16) (.const (.int .u64 32))), none⟩,
  ⟨(some 7), (.mv (.tmp 17)), none⟩]
def ac251_3 : List AOper := [
  ⟨(some 18), (.mv (.tmp 1)), none⟩,
  ⟨(some 19), (.bin .and 370 (.tmp 18) (.const (.int .u64 4294967295))), none⟩,
  ⟨(some 8), (.mv (.tmp 19)), none⟩]
def ac251_4 : List AOper := [
  ⟨(some 20), (.mv (.tmp 1)), none⟩,
  ⟨(some 21), (.bin .shr 370 (.tmp 20) (.const (.int .u64 32))), none⟩,
  ⟨(some 9), (.mv (.tmp 21)), none⟩]
def ac251_5 : List AOper := [
  ⟨(some 22), (.mv (.tmp 6)), none⟩,
  ⟨(some 23), (.mv (.tmp 8)), none⟩,
  ⟨(some 24), (.bin .mul 370 (.tmp 22) (.tmp 23)), none⟩,
  ⟨(some 10), (.mv (.tmp 24)), none⟩]
def ac251_6 : List AOper := [
  ⟨(some 25), (.mv (.tmp 7)), none⟩,
  ⟨(some 26), (.mv (.tmp 8)), none⟩,
  ⟨(some 27), (.bin .mul 370 (.tmp 25) (.tmp 26)), none⟩,
  ⟨(some 28), (.mv (.tmp 10)), none⟩,
  ⟨(some 29), (.bin .shr 370 (.tmp 28) (.const (.int .u64 32))), none⟩,
  ⟨(some 30), (.bin .add 370 (.tmp 27) (.tmp 29)), none⟩,
  ⟨(some 11), (.mv (.tmp 30)), none⟩]
def ac251_7 : List AOper := [
  ⟨(some 31), (.mv (.tmp 11)), none⟩,
  ⟨(some 32), (.bin .and 370 (.tmp 31) (.const (.int .u64 4294967295))), none⟩,
  ⟨(some 12), (.mv (.tmp 32)), none⟩]
def ac251_8 : List AOper := [
  ⟨(some 33), (.mv (.tmp 11)), none⟩,
  ⟨(some 34), (.bin .shr 370 (.tmp 33) (.const (.int .u64 32))), none⟩,
  ⟨(some 13), (.mv (.tmp 34)), none⟩]
def ac251_9 : List AOper := [
  ⟨(some 35), (.mv (.tmp 12)), none⟩,
  ⟨(some 36), (.mv (.tmp 6)), none⟩,
  ⟨(some 37), (.mv (.tmp 9)), none⟩,
  ⟨(some 38), (.bin .mul 370 (.tmp 36) (.tmp 37)), none⟩,
  ⟨(some 39), (.bin .add 370 (.tmp 35) (.tmp 38)), none⟩,
  ⟨(some 12), (.mv (.tmp 39)), none⟩]
def ac251_10 : List AOper := [
  ⟨(some 40), (.mv (.tmp 7)), none⟩,
  ⟨(some 41), (.mv (.tmp 9)), none⟩,
  ⟨(some 42), (.bin .mul 370 (.tmp 40) (.tmp 41)), none⟩,
  ⟨(some 43), (.mv (.tmp 13)), none⟩,
  ⟨(some 44), (.bin .add 370 (.tmp 42) (.tmp 43)), none⟩,
  ⟨(some 45), (.mv (.tmp 12)), none⟩,
  ⟨(some 46), (.bin .shr 370 (.tmp 45) (.const (.int .u64 32))), none⟩,
  ⟨(some 47), (.bin .add 370 (.tmp 44) (.tmp 46)), none⟩,
  ⟨(some 4), (.mv (.tmp 47)), none⟩]
def ac251_11 : List AOper := [
  ⟨(some 48), (.mv (.tmp 0)), none⟩,
  ⟨(some 49), (.mv (.tmp 1)), none⟩,
  ⟨(some 50), (.bin .mul 370 (.tmp 48) (.tmp 49)), none⟩,
  ⟨(some 5), (.mv (.tmp 50)), none⟩]
def tr251 : List (Nat × Tidy) := [(0, ⟨[0, 1], false, [], []⟩), (1, ⟨[0, 1, 6], false, [], []⟩), (2, ⟨[0, 1, 6, 7], false, [], []⟩), (3, ⟨[0, 1, 6, 7, 8], false, [], []⟩), (4, ⟨[0, 1, 6, 7, 8, 9], false, [], []⟩), (5, ⟨[0, 1, 6, 7, 8, 9, 10], false, [], []⟩), (6, ⟨[0, 1, 6, 7, 9, 11], false, [], []⟩), (7, ⟨[0, 1, 6, 7, 9, 11, 12], false, [], []⟩), (8, ⟨[0, 1, 6, 7, 9, 12, 13], false, [], []⟩), (9, ⟨[0, 1, 7, 9, 12, 13], false, [], []⟩), (10, ⟨[0, 1, 4], false, [], []⟩), (11, ⟨[4, 5], false, [], []⟩)]
def tl251 : List (Nat × Tidy) := []
def ac251 : ACode := (.seq (.region ac251_0 [] (some ⟨[0, 1], false, [], []⟩)) (.seq (.region ac251_1 [] (some ⟨[0, 1, 6], false, [], []⟩)) (.seq (.region ac251_2 [] (some ⟨[0, 1, 6, 7], false, [], []⟩)) (.seq (.region ac251_3 [] (some ⟨[0, 1, 6, 7, 8], false, [], []⟩)) (.seq (.region ac251_4 [] (some ⟨[0, 1, 6, 7, 8, 9], false, [], []⟩)) (.seq (.region ac251_5 [] (some ⟨[0, 1, 6, 7, 8, 9, 10], false, [], []⟩)) (.seq (.region ac251_6 [] (some ⟨[0, 1, 6, 7, 9, 11], false, [], []⟩)) (.seq (.region ac251_7 [] (some ⟨[0, 1, 6, 7, 9, 11, 12], false, [], []⟩)) (.seq (.region ac251_8 [] (some ⟨[0, 1, 6, 7, 9, 12, 13], false, [], []⟩)) (.seq (.region ac251_9 [] (some ⟨[0, 1, 7, 9, 12, 13], false, [], []⟩)) (.seq (.region ac251_10 [] (some ⟨[0, 1, 4], false, [], []⟩)) (.seq (.region ac251_11 [] (some ⟨[4, 5], false, [], []⟩)) .ret))))))))))))
def rs251 : List AResV := [.tmp 4, .tmp 5]
def ft251 : FnT := ⟨51, tr251, tl251, ac251, rs251⟩
theorem is251 : FnIs Tryz.prog 251 51 tr251 tl251 ac251 rs251 := ⟨Tryz.f251, Tryz.func251, rfl, by kernel_rfl, by kernel_rfl, by kernel_rfl⟩
def ac273_0 : List AOper := [
  ⟨(some 2), (.mv (.const (.float Go.FloatKind.f64 0))), none⟩]
def ac273_1 : List AOper := [
  ⟨(some 3), (.mv (.tmp 0)), none⟩,
  ⟨(some 4), (.pure (oB (.call { callee := .value (.func 243), args := #[(.tmp 3)], argTypes := #[231] }) 370)), none⟩,
  ⟨(some 5), (.bin .andNot 370 (.tmp 4) (.const (.int .u64 9223372036854775808))), none⟩,
  ⟨(some 6), (.pure (oB (.call { callee := .value (.func 310), args := #[(.tmp 5)], argTypes := #[370] }) 231)), none⟩,
  ⟨(some 2), (.mv (.tmp 6)), none⟩]
def tr273 : List (Nat × Tidy) := [(0, ⟨[0], false, [], []⟩), (1, ⟨[2], false, [], []⟩)]
def tl273 : List (Nat × Tidy) := []
def ac273 : ACode := (.seq (.region ac273_0 [] (some ⟨[0], false, [], []⟩)) (.seq (.region ac273_1 [] (some ⟨[2], false, [], []⟩)) .ret))
def rs273 : List AResV := [.tmp 2]
def ft273 : FnT := ⟨7, tr273, tl273, ac273, rs273⟩
theorem is273 : FnIs Tryz.prog 273 7 tr273 tl273 ac273 rs273 := ⟨Tryz.f273, Tryz.func273, rfl, by kernel_rfl, by kernel_rfl, by kernel_rfl⟩
def ac278_0 : List AOper := [
  ⟨(some 2), (.mv (.const (.float Go.FloatKind.f64 0))), none⟩]
def ac278_1 : List AOper := [
  ⟨(some 5), (.mv (.tmp 0)), none⟩,
  ⟨(some 6), (.call 273 [(.tmp 5)]), none⟩,
  ⟨(some 7), (.bin .lss 231 (.tmp 6) (.const (.float Go.FloatKind.f64 4607182418800017408))), none⟩]
def ac278_2 : List AOper := [
  ⟨(some 8), (.mv (.tmp 0)), none⟩,
  ⟨(some 9), (.call 314 [(.const (.float Go.FloatKind.f64 0)), (.tmp 8)]), none⟩,
  ⟨(some 2), (.mv (.tmp 9)), none⟩]
def ac278_3 : List AOper := [
  ⟨(some 10), (.mv (.tmp 0)), none⟩,
  ⟨(some 11), (.pure (oB (.call { callee := .value (.func 243), args := #[(.tmp 10)], argTypes := #[231] }) 370)), none⟩,
  ⟨(some 3), (.mv (.tmp 11)), none⟩]
def ac278_4 : List AOper := [
  ⟨(some 12), (.mv (.tmp 3)), none⟩,
  ⟨(some 13), (.bin .shr 370 (.tmp 12) (.const (.int .u64 52))), none⟩,
  ⟨(some 14), (.bin .and 408 (.tmp 13) (.const (.int .u64 2047))), none⟩,
  ⟨(some 15), (.bin .sub 408 (.tmp 14) (.const (.int .u64 1023))), none⟩,
  ⟨(some 4), (.mv (.tmp 15)), none⟩]
def ac278_5 : List AOper := [
  ⟨(some 16), (.mv (.tmp 4)), none⟩,
  ⟨(some 17), (.bin .lss 408 (.tmp 16) (.const (.int .u64 52))), none⟩]
def ac278_6 : List AOper := [
  ⟨(some 18), (.mv (.tmp 3)), none⟩,
  ⟨(some 19), (.mv (.tmp 4)), none⟩,
  ⟨(some 20), (.bin .sub 408 (.const (.int .u64 52)) (.tmp 19)), none⟩,
  ⟨(some 21), (.bin .shl 370 (.const (.int .u64 1)) (.tmp 20)), none⟩,
  ⟨(some 22), (.bin .sub 370 (.tmp 21) (.const (.int .u64 1))), none⟩,
  ⟨(some 23), (.bin .andNot 370 (.tmp 18) (.tmp 22)), none⟩,
  ⟨(some 3), (.mv (.tmp 23)), none⟩]
def ac278_7 : List AOper := [
  ⟨(some 24), (.mv (.tmp 3)), none⟩,
  ⟨(some 25), (.pure (oB (.call { callee := .value (.func 310), args := #[(.tmp 24)], argTypes := #[370] }) 231)), none⟩,
  ⟨(some 2), (.mv (.tmp 25)), none⟩]
def tr278 : List (Nat × Tidy) := [(0, ⟨[0], false, [], []⟩), (1, ⟨[0, 7], false, [], []⟩), (2, ⟨[2], false, [], []⟩), (3, ⟨[3], false, [], []⟩), (4, ⟨[3, 4], false, [], []⟩), (5, ⟨[3, 4, 17], false, [], []⟩), (6, ⟨[3], false, [], []⟩), (7, ⟨[2], false, [], []⟩)]
def tl278 : List (Nat × Tidy) := []
def ac278 : ACode := (.seq (.region ac278_0 [] (some ⟨[0], false, [], []⟩)) (.seq (.seq (.region ac278_1 [] (some ⟨[0, 7], false, [], []⟩)) (.cond (.tmp 7) (.seq (.region ac278_2 [] (some ⟨[2], false, [], []⟩)) .ret) .skip)) (.seq (.region ac278_3 [] (some ⟨[3], false, [], []⟩)) (.seq (.region ac278_4 [] (some ⟨[3, 4], false, [], []⟩)) (.seq (.seq (.region ac278_5 [] (some ⟨[3, 4, 17], false, [], []⟩)) (.cond (.tmp 17) (.region ac278_6 [] (some ⟨[3], false, [], []⟩)) .skip)) (.seq (.region ac278_7 [] (some ⟨[2], false, [], []⟩)) .ret))))))
def rs278 : List AResV := [.tmp 2]
def ft278 : FnT := ⟨26, tr278, tl278, ac278, rs278⟩
theorem is278 : FnIs Tryz.prog 278 26 tr278 tl278 ac278 rs278 := ⟨Tryz.f278, Tryz.func278, rfl, by kernel_rfl, by kernel_rfl, by kernel_rfl⟩
def ac279_0 : List AOper := [
  ⟨(some 1), (.box (.tmp 0)), none⟩,
  ⟨(some 2), (.mv (.const (.int .i64 0))), none⟩,
  ⟨(some 3), (.mv (.const (.int .i64 0))), none⟩]
def ac279_1 : List AOper := [
  ⟨(some 8), (.faddr 0 (.tmp 1)), none⟩,
  ⟨(some 9), (.load false 1 (.tmp 8)), none⟩,
  ⟨(some 10), (.len (.tmp 9)), none⟩,
  ⟨(some 11), (.bin .gtr 3 (.tmp 10) (.const (.int .i64 8))), none⟩]
def ac279_2 : List AOper := [
  ⟨(some 2), (.mv (.const (.int .i64 0))), none⟩,
  ⟨(some 3), (.mv (.const (.int .i64 8))), none⟩]
def ac279_3 : List AOper := [
  ⟨(some 12), (.faddr 0 (.tmp 1)), none⟩,
  ⟨(some 13), (.load false 1 (.tmp 12)), none⟩,
  ⟨(some 14), (.len (.tmp 13)), none⟩,
  ⟨(some 15), (.mv (.const (.int .i64 0))), none⟩]
def ac279_4 : List AOper := [
  ⟨(some 16), (.bin .lss 3 (.tmp 15) (.tmp 14)), none⟩]
def ac279_5 : List AOper := [
  ⟨(some 17), (.mv (.tmp 15)), none⟩,
  ⟨(some 18), (.iaddr 1 none (.tmp 13) (.tmp 15)), none⟩,
  ⟨(some 19), (.load false 1 (.tmp 18)), none⟩,
  ⟨(some 4), (.mv (.tmp 17)), none⟩,
  ⟨(some 5), (.mv (.tmp 19)), none⟩]
def ac279_6 : List AOper := [
  ⟨(some 21), (.mv (.tmp 5)), none⟩,
  ⟨(some 22), (.call 315 [(.tmp 21)]), none⟩,
  ⟨(some 23), (.pure (oB (.unOp .not 4 (.tmp 22)) 4)), none⟩,
  ⟨(some 20), (.mv (.tmp 23)), none⟩]
def ac279_7 : List AOper := [
  ⟨(some 24), (.mv (.tmp 4)), none⟩,
  ⟨(some 2), (.mv (.tmp 24)), none⟩,
  ⟨(some 3), (.mv (.const (.int .i64 3))), none⟩]
def ac279_8 : List AOper := [
  ⟨(some 26), (.faddr 0 (.tmp 1)), none⟩,
  ⟨(some 27), (.load false 1 (.tmp 26)), none⟩,
  ⟨(some 28), (.mv (.tmp 4)), none⟩,
  ⟨(some 29), (.slice 1 false (.tmp 27) none (some (.tmp 28))), none⟩,
  ⟨(some 30), (.mv (.tmp 5)), none⟩,
  ⟨(some 31), (.call 316 [(.tmp 29), (.tmp 30)]), none⟩,
  ⟨(some 25), (.mv (.tmp 31)), none⟩]
def ac279_9 : List AOper := [
  ⟨(some 32), (.mv (.tmp 4)), none⟩,
  ⟨(some 2), (.mv (.tmp 32)), none⟩,
  ⟨(some 3), (.mv (.const (.int .i64 5))), none⟩]
def ac279_10 : List AOper := [
  ⟨(some 33), (.bin .add 3 (.tmp 15) (.const (.int .i64 1))), none⟩,
  ⟨(some 15), (.mv (.tmp 33)), none⟩]
def ac279_11 : List AOper := [
  ⟨(some 34), (.faddr 1 (.tmp 1)), none⟩,
  ⟨(some 35), (.load false 1 (.tmp 34)), none⟩,
  ⟨(some 36), (.len (.tmp 35)), none⟩,
  ⟨(some 37), (.bin .gtr 3 (.tmp 36) (.const (.int .i64 30))), none⟩]
def ac279_12 : List AOper := [
  ⟨(some 2), (.mv (.const (.int .i64 0))), none⟩,
  ⟨(some 3), (.mv (.const (.int .i64 8))), none⟩]
def ac279_13 : List AOper := [
  ⟨(some 38), (.faddr 1 (.tmp 1)), none⟩,
  ⟨(some 39), (.load false 1 (.tmp 38)), none⟩,
  ⟨(some 40), (.len (.tmp 39)), none⟩,
  ⟨(some 41), (.mv (.const (.int .i64 0))), none⟩]
def ac279_14 : List AOper := [
  ⟨(some 42), (.bin .lss 3 (.tmp 41) (.tmp 40)), none⟩]
def ac279_15 : List AOper := [
  ⟨(some 43), (.mv (.tmp 41)), none⟩,
  ⟨(some 44), (.iaddr 4 none (.tmp 39) (.tmp 41)), none⟩,
  ⟨(some 45), (.load true 4 (.tmp 44)), none⟩,
  ⟨(some 7), (.alloc [(.d (.v (.int .i64 0))), (.d (.v (.bool false))), (.d (.v (.int .i64 0))), (.d (.v (.bool false)))]), none⟩,
  ⟨(some 6), (.mv (.tmp 43)), none⟩,
  ⟨none, (.store 4 (.tmp 7) (.tmp 45)), none⟩]
def ac279_16 : List AOper := [
  ⟨(some 46), (.faddr 0 (.tmp 7)), none⟩,
  ⟨(some 47), (.load false 1 (.tmp 46)), none⟩,
  ⟨(some 48), (.faddr 0 (.tmp 1)), none⟩,
  ⟨(some 49), (.load false 1 (.tmp 48)), none⟩,
  ⟨(some 50), (.len (.tmp 49)), none⟩,
  ⟨(some 51), (.bin .sub 3 (.tmp 50) (.const (.int .i64 1))), none⟩,
  ⟨(some 52), (.call 65 [(.tmp 47), (.const (.int .i64 0)), (.tmp 51)]), none⟩,
  ⟨(some 53), (.pure (oB (.unOp .not 4 (.tmp 52)) 4)), none⟩,
  ⟨(some 54), (.mv (.tmp 53)), none⟩,
  ⟨(some 55), (.faddr 2 (.tmp 7)), (some (54, false))⟩,
  ⟨(some 56), (.load false 1 (.tmp 55)), (some (54, false))⟩,
  ⟨(some 57), (.faddr 0 (.tmp 1)), (some (54, false))⟩,
  ⟨(some 58), (.load false 1 (.tmp 57)), (some (54, false))⟩,
  ⟨(some 59), (.len (.tmp 58)), (some (54, false))⟩,
  ⟨(some 60), (.bin .sub 3 (.tmp 59) (.const (.int .i64 1))), (some (54, false))⟩,
  ⟨(some 61), (.call 65 [(.tmp 56), (.const (.int .i64 0)), (.tmp 60)]), (some (54, false))⟩,
  ⟨(some 62), (.pure (oB (.unOp .not 4 (.tmp 61)) 4)), (some (54, false))⟩,
  ⟨(some 63), (.pick (.tmp 54) (.const (.bool true)) (.tmp 62)), none⟩]
def ac279_17 : List AOper := [
  ⟨(some 64), (.mv (.tmp 6)), none⟩,
  ⟨(some 2), (.mv (.tmp 64)), none⟩,
  ⟨(some 3), (.mv (.const (.int .i64 6))), none⟩]
def ac279_18 : List AOper := [
  ⟨(some 65), (.bin .add 3 (.tmp 41) (.const (.int .i64 1))), none⟩,
  ⟨(some 41), (.mv (.tmp 65)), none⟩]
def ac279_19 : List AOper := [
  ⟨(some 2), (.mv (.const (.int .i64 0))), none⟩,
  ⟨(some 3), (.mv (.const (.int .i64 0))), none⟩]
def tr279 : List (Nat × Tidy) := [(0, ⟨[1], false, [], []⟩), (1, ⟨[1, 11], false, [], []⟩), (2, ⟨[2, 3], false, [], []⟩), (3, ⟨[1, 13, 14, 15], false, [], []⟩), (4, ⟨[1, 13, 14, 15, 16], false, [], []⟩), (5, ⟨[1, 4, 5, 13, 14, 15], false, [], []⟩), (6, ⟨[1, 4, 5, 13, 14, 15, 20], false, [], []⟩), (7, ⟨[2, 3], false, [], []⟩), (8, ⟨[1, 4, 13, 14, 15, 25], false, [], []⟩), (9, ⟨[2, 3], false, [], []⟩), (10, ⟨[1, 13, 14, 15], false, [], []⟩), (11, ⟨[1, 37], false, [], []⟩), (12, ⟨[2, 3], false, [], []⟩), (13, ⟨[1, 39, 40, 41], false, [], []⟩), (14, ⟨[1, 39, 40, 41, 42], false, [], []⟩), (15, ⟨[1, 6, 7, 39, 40, 41], false, [], []⟩), (16, ⟨[1, 6, 39, 40, 41, 63], false, [], []⟩), (17, ⟨[2, 3], false, [], []⟩), (18, ⟨[1, 39, 40, 41], false, [], []⟩), (19, ⟨[2, 3], false, [], []⟩)]
def tl279 : List (Nat × Tidy) := [(4, ⟨[1, 13, 14, 15], true, [⟨false, 13, 0, 20013, 0⟩, ⟨false, 15, 0, 20015, 0⟩], []⟩), (14, ⟨[1, 39, 40, 41], true, [⟨false, 39, 0, 20039, 0⟩, ⟨false, 41, 0, 20041, 0⟩], []⟩)]
def ac279 : ACode := (.seq (.region ac279_0 [] (some ⟨[1], false, [], []⟩)) (.seq (.seq (.region ac279_1 [] (some ⟨[1, 11], false, [], []⟩)) (.cond (.tmp 11) (.seq (.region ac279_2 [] (some ⟨[2, 3], false, [], []⟩)) .ret) .skip)) (.seq (.seq (.region ac279_3 [] (some ⟨[1, 13, 14, 15], false, [], []⟩)) (.block 0 (.loop (some ⟨[1, 13, 14, 15], true, [⟨false, 13, 0, 20013, 0⟩, ⟨false, 15, 0, 20015, 0⟩], []⟩) (.seq (.region ac279_4 [] (some ⟨[1, 13, 14, 15, 16], false, [], []⟩)) (.seq (.cond (.tmp 16) .skip (.exit 0)) (.seq (.block 1 (.seq (.region ac279_5 [] (some ⟨[1, 4, 5, 13, 14, 15], false, [], []⟩)) (.block 2 (.seq (.region ac279_6 [] (some ⟨[1, 4, 5, 13, 14, 15, 20], false, [], []⟩)) (.cond (.tmp 20) (.seq (.region ac279_7 [] (some ⟨[2, 3], false, [], []⟩)) .ret) (.seq (.region ac279_8 [] (some ⟨[1, 4, 13, 14, 15, 25], false, [], []⟩)) (.cond (.tmp 25) (.seq (.region ac279_9 [] (some ⟨[2, 3], false, [], []⟩)) .ret) .skip))))))) (.region ac279_10 [] (some ⟨[1, 13, 14, 15], false, [], []⟩)))))))) (.seq (.seq (.region ac279_11 [] (some ⟨[1, 37], false, [], []⟩)) (.cond (.tmp 37) (.seq (.region ac279_12 [] (some ⟨[2, 3], false, [], []⟩)) .ret) .skip)) (.seq (.seq (.region ac279_13 [] (some ⟨[1, 39, 40, 41], false, [], []⟩)) (.block 3 (.loop (some ⟨[1, 39, 40, 41], true, [⟨false, 39, 0, 20039, 0⟩, ⟨false, 41, 0, 20041, 0⟩], []⟩) (.seq (.region ac279_14 [] (some ⟨[1, 39, 40, 41, 42], false, [], []⟩)) (.seq (.cond (.tmp 42) .skip (.exit 3)) (.seq (.block 4 (.seq (.region ac279_15 [] (some ⟨[1, 6, 7, 39, 40, 41], false, [], []⟩)) (.seq (.region ac279_16 [] (some ⟨[1, 6, 39, 40, 41, 63], false, [], []⟩)) (.cond (.tmp 63) (.seq (.region ac279_17 [] (some ⟨[2, 3], false, [], []⟩)) .ret) .skip)))) (.region ac279_18 [] (some ⟨[1, 39, 40, 41], false, [], []⟩)))))))) (.seq (.region ac279_19 [] (some ⟨[2, 3], false, [], []⟩)) .ret))))))
def rs279 : List AResV := [.tmp 2, .tmp 3]
def ft279 : FnT := ⟨66, tr279, tl279, ac279, rs279⟩
theorem is279 : FnIs Tryz.prog 279 66 tr279 tl279 ac279 rs279 := ⟨Tryz.f279, Tryz.func279, rfl, by kernel_rfl, by kernel_rfl, by kernel_rfl⟩
def ac280_0 : List AOper := [
  ⟨(some 2), (.mv (.const (.int .i64 0))), none⟩]
def ac280_1 : List AOper := [
  ⟨(some 3), (.mv (.const (.int .i64 0))), none⟩]
def ac280_2 : List AOper := [
  ⟨(some 6), (.mv (.tmp 0)), none⟩,
  ⟨(some 7), (.len (.tmp 6)), none⟩,
  ⟨(some 8), (.mv (.const (.int .i64 0))), none⟩]
def ac280_3 : List AOper := [
  ⟨(some 9), (.bin .lss 3 (.tmp 8) (.tmp 7)), none⟩]
def ac280_4 : List AOper := [
  ⟨(some 10), (.mv (.tmp 8)), none⟩,
  ⟨(some 11), (.iaddr 1 none (.tmp 6) (.tmp 8)), none⟩,
  ⟨(some 12), (.load false 1 (.tmp 11)), none⟩,
  ⟨(some 4), (.mv (.tmp 10)), none⟩,
  ⟨(some 5), (.mv (.tmp 12)), none⟩]
def ac280_5 : List AOper := [
  ⟨(some 13), (.mv (.tmp 5)), none⟩]
def ac280_6 : List AOper := [
  ⟨(some 14), (.mv (.tmp 3)), none⟩,
  ⟨(some 15), (.mv (.tmp 4)), none⟩,
  ⟨(some 16), (.bin .shl 284 (.const (.int .i64 1)) (.tmp 15)), none⟩,
  ⟨(some 17), (.bin .or 284 (.tmp 14) (.tmp 16)), none⟩,
  ⟨(some 3), (.mv (.tmp 17)), none⟩]
def ac280_7 : List AOper := [
  ⟨(some 18), (.bin .add 3 (.tmp 8) (.const (.int .i64 1))), none⟩,
  ⟨(some 8), (.mv (.tmp 18)), none⟩]
def ac280_8 : List AOper := [
  ⟨(some 19), (.mv (.tmp 3)), none⟩,
  ⟨(some 2), (.mv (.tmp 19)), none⟩]
def tr280 : List (Nat × Tidy) := [(0, ⟨[0], false, [], []⟩), (1, ⟨[0, 3], false, [], []⟩), (2, ⟨[3, 6, 7, 8], false, [], []⟩), (3, ⟨[3, 6, 7, 8, 9], false, [], []⟩), (4, ⟨[3, 4, 5, 6, 7, 8], false, [], []⟩), (5, ⟨[3, 4, 6, 7, 8, 13], false, [], []⟩), (6, ⟨[3, 6, 7, 8], false, [], []⟩), (7, ⟨[3, 6, 7, 8], false, [], []⟩), (8, ⟨[2], false, [], []⟩)]
def tl280 : List (Nat × Tidy) := [(3, ⟨[3, 6, 7, 8], true, [⟨false, 3, 0, 20003, 0⟩, ⟨false, 6, 0, 20006, 0⟩, ⟨false, 8, 0, 20008, 0⟩], []⟩)]
def ac280 : ACode := (.seq (.region ac280_0 [] (some ⟨[0], false, [], []⟩)) (.seq (.region ac280_1 [] (some ⟨[0, 3], false, [], []⟩)) (.seq (.seq (.region ac280_2 [] (some ⟨[3, 6, 7, 8], false, [], []⟩)) (.block 0 (.loop (some ⟨[3, 6, 7, 8], true, [⟨false, 3, 0, 20003, 0⟩, ⟨false, 6, 0, 20006, 0⟩, ⟨false, 8, 0, 20008, 0⟩], []⟩) (.seq (.region ac280_3 [] (some ⟨[3, 6, 7, 8, 9], false, [], []⟩)) (.seq (.cond (.tmp 9) .skip (.exit 0)) (.seq (.block 1 (.seq (.region ac280_4 [] (some ⟨[3, 4, 5, 6, 7, 8], false, [], []⟩)) (.seq (.region ac280_5 [] (some ⟨[3, 4, 6, 7, 8, 13], false, [], []⟩)) (.cond (.tmp 13) (.region ac280_6 [] (some ⟨[3, 6, 7, 8], false, [], []⟩)) .skip)))) (.region ac280_7 [] (some ⟨[3, 6, 7, 8], false, [], []⟩)))))))) (.seq (.region ac280_8 [] (some ⟨[2], false, [], []⟩)) .ret))))
def rs280 : List AResV := [.tmp 2]
def ft280 : FnT := ⟨20, tr280, tl280, ac280, rs280⟩
theorem is280 : FnIs Tryz.prog 280 20 tr280 tl280 ac280 rs280 := ⟨Tryz.f280, Tryz.func280, rfl, by kernel_rfl, by kernel_rfl, by kernel_rfl⟩
def ac281_0 : List AOper := [
  ⟨(some 2), (.box (.tmp 0)), none⟩,
  ⟨(some 3), (.box (.tmp 1)), none⟩,
  ⟨(some 4), (.mv (.const (.int .i64 0))), none⟩]
def ac281_1 : List AOper := [
  ⟨(some 5), (.faddr 0 (.tmp 2)), none⟩,
  ⟨(some 6), (.faddr 1 (.tmp 5)), none⟩,
  ⟨(some 7), (.load false 1 (.tmp 6)), none⟩,
  ⟨(some 8), (.mkfn 318 [(.tmp 3)]), none⟩,
  ⟨(some 9), (.call 317 [(.tmp 7), (.tmp 8)]), none⟩,
  ⟨(some 4), (.mv (.tmp 9)), none⟩]
def tr281 : List (Nat × Tidy) := [(0, ⟨[2, 3], false, [], []⟩), (1, ⟨[4], false, [], []⟩)]
def tl281 : List (Nat × Tidy) := []
def ac281 : ACode := (.seq (.region ac281_0 [] (some ⟨[2, 3], false, [], []⟩)) (.seq (.region ac281_1 [] (some ⟨[4], false, [], []⟩)) .ret))
def rs281 : List AResV := [.tmp 4]
def ft281 : FnT := ⟨10, tr281, tl281, ac281, rs281⟩
theorem is281 : FnIs Tryz.prog 281 10 tr281 tl281 ac281 rs281 := ⟨Tryz.f281, Tryz.func281, rfl, by kernel_rfl, by kernel_rfl, by kernel_rfl⟩
def ac282_0 : List AOper := [
  ⟨(some 4), (.mv (.const (.int .u64 0))), none⟩,
  ⟨(some 5), (.mv (.const (.int .u64 0))), none⟩]
def ac282_1 : List AOper := [
  ⟨(some 11), (.mv (.tmp 0)), none⟩,
  ⟨(some 12), (.pure (oB (.convert 408 395 (.tmp 11)) 395)), none⟩,
  ⟨(some 13), (.mv (.tmp 1)), none⟩,
  ⟨(some 14), (.pure (oB (.convert 408 395 (.tmp 13)) 395)), none⟩,
  ⟨(some 15), (.call 320 [(.tmp 12), (.tmp 14)]), none⟩,
  ⟨(some 10), (.mv (.tmp 15)), none⟩,
  ⟨(some 16), (.extract 0 (.tmp 10)), none⟩,
  ⟨(some 17), (.extract 1 (.tmp 10)), none⟩,
  ⟨(some 6), (.mv (.tmp 16)), none⟩,
  ⟨(some 7), (.mv (.tmp 17)), none⟩]
def ac282_2 : List AOper := [
  ⟨(some 18), (.mv (.tmp 6)), none⟩,
  ⟨(some 19), (.pure (oB (.convert 395 408 (.tmp 18)) 408)), none⟩,
  ⟨(some 20), (.mv (.tmp 7)), none⟩,
  ⟨(some 21), (.pure (oB (.convert 395 408 (.tmp 20)) 408)), none⟩,
  ⟨(some 4), (.mv (.tmp 19)), none⟩,
  ⟨(some 5), (.mv (.tmp 21)), none⟩]
def ac282_3 : List AOper := [
  ⟨(some 23), (.mv (.tmp 0)), none⟩,
  ⟨(some 24), (.mv (.tmp 1)), none⟩,
  ⟨(some 25), (.call 251 [(.tmp 23), (.tmp 24)]), none⟩,
  ⟨(some 22), (.mv (.tmp 25)), none⟩,
  ⟨(some 26), (.extract 0 (.tmp 22)), none⟩,
  ⟨(some 27), (.extract 1 (.tmp 22)), none⟩,
  ⟨(some 8), (.mv (.tmp 26)), none⟩,
  ⟨(some 9), (.mv (.tmp 27)), none⟩]
def ac282_4 : List AOper := [
  ⟨(some 28), (.mv (.tmp 8)), none⟩,
  ⟨(some 29), (.mv (.tmp 9)), none⟩,
  ⟨(some 4), (.mv (.tmp 28)), none⟩,
  ⟨(some 5), (.mv (.tmp 29)), none⟩]
def tr282 : List (Nat × Tidy) := [(0, ⟨[0, 1], false, [], []⟩), (1, ⟨[6, 7], false, [], []⟩), (2, ⟨[4, 5], false, [], []⟩), (3, ⟨[8, 9], false, [], []⟩), (4, ⟨[4, 5], false, [], []⟩)]
def tl282 : List (Nat × Tidy) := []
def ac282 : ACode := (.seq (.region ac282_0 [] (some ⟨[0, 1], false, [], []⟩)) (.seq (.cond (.const (.bool false)) (.seq (.region ac282_1 [] (some ⟨[6, 7], false, [], []⟩)) (.seq (.region ac282_2 [] (some ⟨[4, 5], false, [], []⟩)) .ret)) .skip) (.seq (.region ac282_3 [] (some ⟨[8, 9], false, [], []⟩)) (.seq (.region ac282_4 [] (some ⟨[4, 5], false, [], []⟩)) .ret))))
def rs282 : List AResV := [.tmp 4, .tmp 5]
def ft282 : FnT := ⟨30, tr282, tl282, ac282, rs282⟩
theorem is282 : FnIs Tryz.prog 282 30 tr282 tl282 ac282 rs282 := ⟨Tryz.f282, Tryz.func282, rfl, by kernel_rfl, by kernel_rfl, by kernel_rfl⟩
def ac314_0 : List AOper := [
  ⟨(some 4), (.mv (.const (.float Go.FloatKind.f64 0))), none⟩]
def ac314_1 : List AOper := [
  ⟨(some 5), (.mv (.tmp 0)), none⟩,
  ⟨(some 6), (.pure (oB (.call { callee := .value (.func 243), args := #[(.tmp 5)], argTypes := #[231] }) 370)), none⟩,
  ⟨(some 7), (.bin .andNot 370 (.tmp 6) (.const (.int .u64 9223372036854775808))), none⟩,
  ⟨(some 8), (.mv (.tmp 1)), none⟩,
  ⟨(some 9), (.pure (oB (.call { callee := .value (.func 243), args := #[(.tmp 8)], argTypes := #[231] }) 370)), none⟩,
  ⟨(some 10), (.bin .and 370 (.tmp 9) (.const (.int .u64 9223372036854775808))), none⟩,
  ⟨(some 11), (.bin .or 370 (.tmp 7) (.tmp 10)), none⟩,
  ⟨(some 12), (.pure (oB (.call { callee := .value (.func 310), args := #[(.tmp 11)], argTypes := #[370] }) 231)), none⟩,
  ⟨(some 4), (.mv (.tmp 12)), none⟩]
def tr314 : List (Nat × Tidy) := [(0, ⟨[0, 1], false, [], []⟩), (1, ⟨[4], false, [], []⟩)]
def tl314 : List (Nat × Tidy) := []
def ac314 : ACode := (.seq (.region ac314_0 [] (some ⟨[0, 1], false, [], []⟩)) (.seq (.region ac314_1 [] (some ⟨[4], false, [], []⟩)) .ret))
def rs314 : List AResV := [.tmp 4]
def ft314 : FnT := ⟨13, tr314, tl314, ac314, rs314⟩
theorem is314 : FnIs Tryz.prog 314 13 tr314 tl314 ac314 rs314 := ⟨Tryz.f314, Tryz.func314, rfl, by kernel_rfl, by kernel_rfl, by kernel_rfl⟩
def ac315_0 : List AOper := [
  ⟨(some 2), (.mv (.const (.bool false))), none⟩]
def ac315_1 : List AOper := [
  ⟨(some 6), (.mv (.tmp 0)), none⟩,
  ⟨(some 7), (.bytes (.tmp 6)), none⟩,
  ⟨(some 8), (.len (.tmp 7)), none⟩,
  ⟨(some 9), (.mv (.const (.int .i64 0))), none⟩]
def ac315_2 : List AOper := [
  ⟨(some 10), (.bin .lss 3 (.tmp 9) (.tmp 8)), none⟩]
def ac315_3 : List AOper := [
  ⟨(some 11), (.mv (.tmp 9)), none⟩,
  ⟨(some 12), (.iaddr 1 none (.tmp 7) (.tmp 9)), none⟩,
  ⟨(some 13), (.load false 1 (.tmp 12)), none⟩,
  ⟨(some 3), (.mv (.tmp 11)), none⟩,
  ⟨(some 4), (.mv (.tmp 13)), none⟩]
def ac315_4 : List AOper := [
  ⟨(some 14), (.mv (.tmp 4)), none⟩,
  ⟨(some 15), (.bin .geq 5 (.tmp 14) (.const (.int .u8 97))), none⟩,
  ⟨(some 16), (.mv (.tmp 15)), none⟩,
  ⟨(some 17), (.mv (.tmp 4)), (some (16, true))⟩,
  ⟨(some 18), (.bin .leq 5 (.tmp 17) (.const (.int .u8 122))), (some (16, true))⟩,
  ⟨(some 19), (.pick (.tmp 16) (.tmp 18) (.const (.bool false))), none⟩,
  ⟨(some 20), (.mv (.tmp 19)), none⟩,
  ⟨(some 21), (.mv (.tmp 4)), (some (20, false))⟩,
  ⟨(some 22), (.bin .geq 5 (.tmp 21) (.const (.int .u8 65))), (some (20, false))⟩,
  ⟨(some 23), (.mv (.tmp 22)), (some (20, false))⟩,
  ⟨(some 24), (.mv (.tmp 4)), (some (23, true))⟩,
  ⟨(some 25), (.bin .leq 5 (.tmp 24) (.const (.int .u8 90))), (some (23, true))⟩,
  ⟨(some 26), (.pick (.tmp 23) (.tmp 25) (.const (.bool false))), (some (20, false))⟩,
  ⟨(some 27), (.pick (.tmp 20) (.const (.bool true)) (.tmp 26)), none⟩,
  ⟨(some 5), (.mv (.tmp 27)), none⟩]
def ac315_5 : List AOper := [
  ⟨(some 28), (.mv (.tmp 5)), none⟩,
  ⟨(some 29), (.pure (oB (.unOp .not 4 (.tmp 28)) 4)), none⟩,
  ⟨(some 30), (.mv (.tmp 29)), none⟩,
  ⟨(some 31), (.mv (.tmp 3)), (some (30, true))⟩,
  ⟨(some 32), (.bin .eql 3 (.tmp 31) (.const (.int .i64 0))), (some (30, true))⟩,
  ⟨(some 33), (.mv (.tmp 32)), (some (30, true))⟩,
  ⟨(some 34), (.mv (.tmp 4)), (some (33, false))⟩,
  ⟨(some 35), (.bin .neq 5 (.tmp 34) (.const (.int .u8 45))), (some (33, false))⟩,
  ⟨(some 36), (.mv (.tmp 35)), (some (33, false))⟩,
  ⟨(some 37), (.mv (.tmp 4)), (some (36, true))⟩,
  ⟨(some 38), (.bin .lss 5 (.tmp 37) (.const (.int .u8 48))), (some (36, true))⟩,
  ⟨(some 39), (.mv (.tmp 38)), (some (36, true))⟩,
  ⟨(some 40), (.mv (.tmp 4)), (some (39, false))⟩,
  ⟨(some 41), (.bin .gtr 5 (.tmp 40) (.const (.int .u8 57))), (some (39, false))⟩,
  ⟨(some 42), (.pick (.tmp 39) (.const (.bool true)) (.tmp 41)), (some (36, true))⟩,
  ⟨(some 43), (.pick (.tmp 36) (.tmp 42) (.const (.bool false))), (some (33, false))⟩,
  ⟨(some 44), (.pick (.tmp 33) (.const (.bool true)) (.tmp 43)), (some (30, true))⟩,
  ⟨(some 45), (.pick (.tmp 30) (.tmp 44) (.const (.bool false))), none⟩]
def ac315_6 : List AOper := [
  ⟨(some 2), (.mv (.const (.bool false))), none⟩]
def ac315_7 : List AOper := [
  ⟨(some 46), (.bin .add 3 (.tmp 9) (.const (.int .i64 1))), none⟩,
  ⟨(some 9), (.mv (.tmp 46)), none⟩]
def ac315_8 : List AOper := [
  ⟨(some 47), (.mv (.tmp 0)), none⟩,
  ⟨(some 48), (.bin .neq 9 (.tmp 47) (.const (.string ⟨#[]⟩))), none⟩,
  ⟨(some 49), (.mv (.tmp 48)), none⟩,
  ⟨(some 50), (.mv (.tmp 0)), (some (49, true))⟩,
  ⟨(some 51), (.pure (oB (.call { callee := .builtin .len, args := #[(.tmp 50)], argTypes := #[9] }) 3)), (some (49, true))⟩,
  ⟨(some 52), (.bin .leq 3 (.tmp 51) (.const (.int .i64 12))), (some (49, true))⟩,
  ⟨(some 53), (.pick (.tmp 49) (.tmp 52) (.const (.bool false))), none⟩,
  ⟨(some 2), (.mv (.tmp 53)), none⟩]
def tr315 : List (Nat × Tidy) := [(0, ⟨[0], false, [], []⟩), (1, ⟨[0, 7, 8, 9], false, [], []⟩), (2, ⟨[0, 7, 8, 9, 10], false, [], []⟩), (3, ⟨[0, 3, 4, 7, 8, 9], false, [], []⟩), (4, ⟨[0, 3, 4, 5, 7, 8, 9], false, [], []⟩), (5, ⟨[0, 7, 8, 9, 45], false, [], []⟩), (6, ⟨[2], false, [], []⟩), (7, ⟨[0, 7, 8, 9], false, [], []⟩), (8, ⟨[2], false, [], []⟩)]
def tl315 : List (Nat × Tidy) := [(2, ⟨[0, 7, 8, 9], true, [⟨false, 7, 0, 20007, 0⟩, ⟨false, 9, 0, 20009, 0⟩], []⟩)]
def ac315 : ACode := (.seq (.region ac315_0 [] (some ⟨[0], false, [], []⟩)) (.seq (.seq (.region ac315_1 [] (some ⟨[0, 7, 8, 9], false, [], []⟩)) (.block 0 (.loop (some ⟨[0, 7, 8, 9], true, [⟨false, 7, 0, 20007, 0⟩, ⟨false, 9, 0, 20009, 0⟩], []⟩) (.seq (.region ac315_2 [] (some ⟨[0, 7, 8, 9, 10], false, [], []⟩)) (.seq (.cond (.tmp 10) .skip (.exit 0)) (.seq (.block 1 (.seq (.region ac315_3 [] (some ⟨[0, 3, 4, 7, 8, 9], false, [], []⟩)) (.seq (.region ac315_4 [] (some ⟨[0, 3, 4, 5, 7, 8, 9], false, [], []⟩)) (.seq (.region ac315_5 [] (some ⟨[0, 7, 8, 9, 45], false, [], []⟩)) (.cond (.tmp 45) (.seq (.region ac315_6 [] (some ⟨[2], false, [], []⟩)) .ret) .skip))))) (.region ac315_7 [] (some ⟨[0, 7, 8, 9], false, [], []⟩)))))))) (.seq (.region ac315_8 [] (some ⟨[2], false, [], []⟩)) .ret)))
def rs315 : List AResV := [.tmp 2]
def ft315 : FnT := ⟨54, tr315, tl315, ac315, rs315⟩
theorem is315 : FnIs Tryz.prog 315 54 tr315 tl315 ac315 rs315 := ⟨Tryz.f315, Tryz.func315, rfl, by kernel_rfl, by kernel_rfl, by kernel_rfl⟩
def ac316_0 : List AOper := [
  ⟨(some 4), (.mv (.const (.bool false))), none⟩]
def ac316_1 : List AOper := [
  ⟨(some 5), (.mv (.tmp 0)), none⟩,
  ⟨(some 6), (.mv (.tmp 1)), none⟩,
  ⟨(some 7), (.call 338 [(.tmp 5), (.tmp 6)]), none⟩,
  ⟨(some 8), (.bin .geq 3 (.tmp 7) (.const (.int .i64 0))), none⟩,
  ⟨(some 4), (.mv (.tmp 8)), none⟩]
def tr316 : List (Nat × Tidy) := [(0, ⟨[0, 1], false, [], []⟩), (1, ⟨[4], false, [], []⟩)]
def tl316 : List (Nat × Tidy) := []
def ac316 : ACode := (.seq (.region ac316_0 [] (some ⟨[0, 1], false, [], []⟩)) (.seq (.region ac316_1 [] (some ⟨[4], false, [], []⟩)) .ret))
def rs316 : List AResV := [.tmp 4]
def ft316 : FnT := ⟨9, tr316, tl316, ac316, rs316⟩
theorem is316 : FnIs Tryz.prog 316 9 tr316 tl316 ac316 rs316 := ⟨Tryz.f316, Tryz.func316, rfl, by kernel_rfl, by kernel_rfl, by kernel_rfl⟩
def ac317_0 : List AOper := [
  ⟨(some 4), (.mv (.const (.int .i64 0))), none⟩]
def ac317_1 : List AOper := [
  ⟨(some 6), (.mv (.tmp 0)), none⟩,
  ⟨(some 7), (.len (.tmp 6)), none⟩,
  ⟨(some 8), (.mv (.const (.int .i64 0))), none⟩]
def ac317_2 : List AOper := [
  ⟨(some 9), (.bin .lss 3 (.tmp 8) (.tmp 7)), none⟩]
def ac317_3 : List AOper := [
  ⟨(some 10), (.mv (.tmp 8)), none⟩,
  ⟨(some 5), (.mv (.tmp 10)), none⟩]
def ac317_4 : List AOper := [
  ⟨(some 11), (.mv (.tmp 1)), none⟩,
  ⟨(some 12), (.mv (.tmp 0)), none⟩,
  ⟨(some 13), (.mv (.tmp 5)), none⟩,
  ⟨(some 14), (.iaddr 4 none (.tmp 12) (.tmp 13)), none⟩,
  ⟨(some 15), (.load true 4 (.tmp 14)), none⟩,
  ⟨(some 16), (.calld (.tmp 11) [(.tmp 15)]), none⟩]
def ac317_5 : List AOper := [
  ⟨(some 17), (.mv (.tmp 5)), none⟩,
  ⟨(some 4), (.mv (.tmp 17)), none⟩]
def ac317_6 : List AOper := [
  ⟨(some 18), (.bin .add 3 (.tmp 8) (.const (.int .i64 1))), none⟩,
  ⟨(some 8), (.mv (.tmp 18)), none⟩]
def ac317_7 : List AOper := [
  ⟨(some 4), (.mv (.const (.int .i64 (-1)))), none⟩]
def tr317 : List (Nat × Tidy) := [(0, ⟨[0, 1], false, [], []⟩), (1, ⟨[0, 1, 7, 8], false, [], []⟩), (2, ⟨[0, 1, 7, 8, 9], false, [], []⟩), (3, ⟨[0, 1, 5, 7, 8], false, [], []⟩), (4, ⟨[0, 1, 5, 7, 8, 16], false, [], []⟩), (5, ⟨[4], false, [], []⟩), (6, ⟨[0, 1, 7, 8], false, [], []⟩), (7, ⟨[4], false, [], []⟩)]
def tl317 : List (Nat × Tidy) := [(2, ⟨[0, 1, 7, 8], true, [⟨false, 8, 0, 20008, 0⟩], []⟩)]
def ac317 : ACode := (.seq (.region ac317_0 [] (some ⟨[0, 1], false, [], []⟩)) (.seq (.seq (.region ac317_1 [] (some ⟨[0, 1, 7, 8], false, [], []⟩)) (.block 0 (.loop (some ⟨[0, 1, 7, 8], true, [⟨false, 8, 0, 20008, 0⟩], []⟩) (.seq (.region ac317_2 [] (some ⟨[0, 1, 7, 8, 9], false, [], []⟩)) (.seq (.cond (.tmp 9) .skip (.exit 0)) (.seq (.block 1 (.seq (.region ac317_3 [] (some ⟨[0, 1, 5, 7, 8], false, [], []⟩)) (.seq (.region ac317_4 [] (some ⟨[0, 1, 5, 7, 8, 16], false, [], []⟩)) (.cond (.tmp 16) (.seq (.region ac317_5 [] (some ⟨[4], false, [], []⟩)) .ret) .skip)))) (.region ac317_6 [] (some ⟨[0, 1, 7, 8], false, [], []⟩)))))))) (.seq (.region ac317_7 [] (some ⟨[4], false, [], []⟩)) .ret)))
def rs317 : List AResV := [.tmp 4]
def ft317 : FnT := ⟨19, tr317, tl317, ac317, rs317⟩
theorem is317 : FnIs Tryz.prog 317 19 tr317 tl317 ac317 rs317 := ⟨Tryz.f317, Tryz.func317, rfl, by kernel_rfl, by kernel_rfl, by kernel_rfl⟩
def ac318_0 : List AOper := [
  ⟨(some 2), (.box (.tmp 0)), none⟩,
  ⟨(some 3), (.mv (.const (.bool false))), none⟩]
def ac318_1 : List AOper := [
  ⟨(some 4), (.load false 1 (.tmp 1)), none⟩,
  ⟨(some 5), (.faddr 0 (.tmp 2)), none⟩,
  ⟨(some 6), (.load false 1 (.tmp 5)), none⟩,
  ⟨(some 7), (.call 319 [(.tmp 4), (.tmp 6)]), none⟩,
  ⟨(some 8), (.faddr 1 (.tmp 2)), none⟩,
  ⟨(some 9), (.load false 1 (.tmp 8)), none⟩,
  ⟨(some 10), (.bin .eql 4 (.tmp 7) (.tmp 9)), none⟩,
  ⟨(some 11), (.mv (.tmp 10)), none⟩,
  ⟨(some 12), (.load false 1 (.tmp 1)), (some (11, true))⟩,
  ⟨(some 13), (.faddr 2 (.tmp 2)), (some (11, true))⟩,
  ⟨(some 14), (.load false 1 (.tmp 13)), (some (11, true))⟩,
  ⟨(some 15), (.call 319 [(.tmp 12), (.tmp 14)]), (some (11, true))⟩,
  ⟨(some 16), (.faddr 3 (.tmp 2)), (some (11, true))⟩,
  ⟨(some 17), (.load false 1 (.tmp 16)), (some (11, true))⟩,
  ⟨(some 18), (.bin .neq 4 (.tmp 15) (.tmp 17)), (some (11, true))⟩,
  ⟨(some 19), (.pick (.tmp 11) (.tmp 18) (.const (.bool false))), none⟩,
  ⟨(some 3), (.mv (.tmp 19)), none⟩]
def tr318 : List (Nat × Tidy) := [(0, ⟨[1, 2], false, [], []⟩), (1, ⟨[3], false, [], []⟩)]
def tl318 : List (Nat × Tidy) := []
def ac318 : ACode := (.seq (.region ac318_0 [] (some ⟨[1, 2], false, [], []⟩)) (.seq (.region ac318_1 [(3, 5), (11, 13)] (some ⟨[3], false, [], []⟩)) .ret))
def rs318 : List AResV := [.tmp 3]
def ft318 : FnT := ⟨20, tr318, tl318, ac318, rs318⟩
theorem is318 : FnIs Tryz.prog 318 20 tr318 tl318 ac318 rs318 := ⟨Tryz.f318, Tryz.func318, rfl, by kernel_rfl, by kernel_rfl, by kernel_rfl⟩
def ac319_0 : List AOper := [
  ⟨(some 4), (.mv (.const (.bool false))), none⟩]
def ac319_1 : List AOper := [
  ⟨(some 5), (.mv (.tmp 0)), none⟩,
  ⟨(some 6), (.mv (.tmp 1)), none⟩,
  ⟨(some 7), (.bin .shr 284 (.tmp 5) (.tmp 6)), none⟩,
  ⟨(some 8), (.bin .and 284 (.tmp 7) (.const (.int .i64 1))), none⟩,
  ⟨(some 9), (.bin .eql 284 (.tmp 8) (.const (.int .i64 1))), none⟩,
  ⟨(some 4), (.mv (.tmp 9)), none⟩]
def tr319 : List (Nat × Tidy) := [(0, ⟨[0, 1], false, [], []⟩), (1, ⟨[4], false, [], []⟩)]
def tl319 : List (Nat × Tidy) := []
def ac319 : ACode := (.seq (.region ac319_0 [] (some ⟨[0, 1], false, [], []⟩)) (.seq (.region ac319_1 [] (some ⟨[4], false, [], []⟩)) .ret))
def rs319 : List AResV := [.tmp 4]
def ft319 : FnT := ⟨10, tr319, tl319, ac319, rs319⟩
theorem is319 : FnIs Tryz.prog 319 10 tr319 tl319 ac319 rs319 := ⟨Tryz.f319, Tryz.func319, rfl, by kernel_rfl, by kernel_rfl, by kernel_rfl⟩
def ac320_0 : List AOper := [
  ⟨(some 4), (.mv (.const (.int .u32 0))), none⟩,
  ⟨(some 5), (.mv (.const (.int .u32 0))), none⟩]
def ac320_1 : List AOper := [
  ⟨(some 7), (.mv (.tmp 0)), none⟩,
  ⟨(some 8), (.pure (oB (.convert 395 370 (.tmp 7)) 370)), none⟩,
  ⟨(some 9), (.mv (.tmp 1)), none⟩,
  ⟨(some 10), (.pure (oB (.convert 395 370 (.tmp 9)) 370)), none⟩,
  ⟨(some 11), (.bin .mul 370 (.tmp 8) (.tmp 10)), none⟩,
  ⟨(some 6), (.mv (.tmp 11)), none⟩]
def ac320_2 : List AOper := [
  ⟨(some 12), (.mv (.tmp 6)), none⟩,
  ⟨(some 13), (.bin .shr 370 (.tmp 12) (.const (.int .u64 32))), none⟩,
  ⟨(some 14), (.pure (oB (.convert 370 395 (.tmp 13)) 395)), none⟩,
  ⟨(some 15), (.mv (.tmp 6)), none⟩,
  ⟨(some 16), (.pure (oB (.convert 370 395 (.tmp 15)) 395)), none⟩,
  ⟨(some 4), (.mv (.tmp 14)), none⟩,
  ⟨(some 5), (.mv (.tmp 16)), none⟩]
def tr320 : List (Nat × Tidy) := [(0, ⟨[0, 1], false, [], []⟩), (1, ⟨[6], false, [], []⟩), (2, ⟨[4, 5], false, [], []⟩)]
def tl320 : List (Nat × Tidy) := []
def ac320 : ACode := (.seq (.region ac320_0 [] (some ⟨[0, 1], false, [], []⟩)) (.seq (.region ac320_1 [] (some ⟨[6], false, [], []⟩)) (.seq (.region ac320_2 [] (some ⟨[4, 5], false, [], []⟩)) .ret)))
def rs320 : List AResV := [.tmp 4, .tmp 5]
def ft320 : FnT := ⟨17, tr320, tl320, ac320, rs320⟩
theorem is320 : FnIs Tryz.prog 320 17 tr320 tl320 ac320 rs320 := ⟨Tryz.f320, Tryz.func320, rfl, by kernel_rfl, by kernel_rfl, by kernel_rfl⟩
def ac338_0 : List AOper := [
  ⟨(some 4), (.mv (.const (.int .i64 0))), none⟩]
def ac338_1 : List AOper := [
  ⟨(some 6), (.mv (.tmp 0)), none⟩,
  ⟨(some 7), (.len (.tmp 6)), none⟩,
  ⟨(some 8), (.mv (.const (.int .i64 0))), none⟩]
def ac338_2 : List AOper := [
  ⟨(some 9), (.bin .lss 3 (.tmp 8) (.tmp 7)), none⟩]
def ac338_3 : List AOper := [
  ⟨(some 10), (.mv (.tmp 8)), none⟩,
  ⟨(some 5), (.mv (.tmp 10)), none⟩]
def ac338_4 : List AOper := [
  ⟨(some 11), (.mv (.tmp 1)), none⟩,
  ⟨(some 12), (.mv (.tmp 0)), none⟩,
  ⟨(some 13), (.mv (.tmp 5)), none⟩,
  ⟨(some 14), (.iaddr 1 none (.tmp 12) (.tmp 13)), none⟩,
  ⟨(some 15), (.load false 1 (.tmp 14)), none⟩,
  ⟨(some 16), (.bin .eql 9 (.tmp 11) (.tmp 15)), none⟩]
def ac338_5 : List AOper := [
  ⟨(some 17), (.mv (.tmp 5)), none⟩,
  ⟨(some 4), (.mv (.tmp 17)), none⟩]
def ac338_6 : List AOper := [
  ⟨(some 18), (.bin .add 3 (.tmp 8) (.const (.int .i64 1))), none⟩,
  ⟨(some 8), (.mv (.tmp 18)), none⟩]
def ac338_7 : List AOper := [
  ⟨(some 4), (.mv (.const (.int .i64 (-1)))), none⟩]
def tr338 : List (Nat × Tidy) := [(0, ⟨[0, 1], false, [], []⟩), (1, ⟨[0, 1, 7, 8], false, [], []⟩), (2, ⟨[0, 1, 7, 8, 9], false, [], []⟩), (3, ⟨[0, 1, 5, 7, 8], false, [], []⟩), (4, ⟨[0, 1, 5, 7, 8, 16], false, [], []⟩), (5, ⟨[4], false, [], []⟩), (6, ⟨[0, 1, 7, 8], false, [], []⟩), (7, ⟨[4], false, [], []⟩)]
def tl338 : List (Nat × Tidy) := [(2, ⟨[0, 1, 7, 8], true, [⟨false, 8, 0, 20008, 0⟩], []⟩)]
def ac338 : ACode := (.seq (.region ac338_0 [] (some ⟨[0, 1], false, [], []⟩)) (.seq (.seq (.region ac338_1 [] (some ⟨[0, 1, 7, 8], false, [], []⟩)) (.block 0 (.loop (some ⟨[0, 1, 7, 8], true, [⟨false, 8, 0, 20008, 0⟩], []⟩) (.seq (.region ac338_2 [] (some ⟨[0, 1, 7, 8, 9], false, [], []⟩)) (.seq (.cond (.tmp 9) .skip (.exit 0)) (.seq (.block 1 (.seq (.region ac338_3 [] (some ⟨[0, 1, 5, 7, 8], false, [], []⟩)) (.seq (.region ac338_4 [] (some ⟨[0, 1, 5, 7, 8, 16], false, [], []⟩)) (.cond (.tmp 16) (.seq (.region ac338_5 [] (some ⟨[4], false, [], []⟩)) .ret) .skip)))) (.region ac338_6 [] (some ⟨[0, 1, 7, 8], false, [], []⟩)))))))) (.seq (.region ac338_7 [] (some ⟨[4], false, [], []⟩)) .ret)))
def rs338 : List AResV := [.tmp 4]
def ft338 : FnT := ⟨19, tr338, tl338, ac338, rs338⟩
theorem is338 : FnIs Tryz.prog 338 19 tr338 tl338 ac338 rs338 := ⟨Tryz.f338, Tryz.func338, rfl, by kernel_rfl, by kernel_rfl, by kernel_rfl⟩
def tbl : List (Nat × FnT) := [(9, ft9), (51, ft51), (52, ft52), (53, ft53), (54, ft54), (55, ft55), (56, ft56), (57, ft57), (58, ft58), (59, ft59), (60, ft60), (65, ft65), (66, ft66), (135, ft135), (136, ft136), (138, ft138), (139, ft139), (140, ft140), (141, ft141), (142, ft142), (143, ft143), (144, ft144), (145, ft145), (146, ft146), (147, ft147), (148, ft148), (149, ft149), (150, ft150), (151, ft151), (152, ft152), (153, ft153), (154, ft154), (155, ft155), (156, ft156), (157, ft157), (163, ft163), (221, ft221), (222, ft222), (223, ft223), (224, ft224), (225, ft225), (226, ft226), (227, ft227), (228, ft228), (251, ft251), (273, ft273), (278, ft278), (279, ft279), (280, ft280), (281, ft281), (282, ft282), (314, ft314), (315, ft315), (316, ft316), (317, ft317), (318, ft318), (319, ft319), (320, ft320), (338, ft338)]
theorem tblOk : TblOk Tryz.prog tbl := ⟨is9, is51, is52, is53, is54, is55, is56, is57, is58, is59, is60, is65, is66, is135, is136, is138, is139, is140, is141, is142, is143, is144, is145, is146, is147, is148, is149, is150, is151, is152, is153, is154, is155, is156, is157, is163, is221, is222, is223, is224, is225, is226, is227, is228, is251, is273, is278, is279, is280, is281, is282, is314, is315, is316, is317, is318, is319, is320, is338, trivial⟩
end Go.AM
