/- The example that the statements of chapter 8 begin with, run. -/
import Derived.Test.YtnhkllkecbmchaaGreatDoorTAcAll
namespace Go.AM
open Go.Proofs
def nextGo (E : Env) (cs : List DC) (s : Int) : List Nat → Option (List (List Value))
  | [] => some []
  | d :: r => match E 228 [(false, [.v (.int .i64 s)]), (false, [.v (.int .i64 d)])] with
    | some [(false, [.d (.v (.int .i64 n))])] => match E 225 [(true, cs), (false, [.v (.int .i64 n)])] with
      | some [(false, [.d (.v (.bool b))])] => match nextGo E cs s r with
        | some out => some (if b then [.int .i64 d, .int .i64 n] :: out else out)
        | none => none
      | _ => none
    | _ => none
def nextSq (E : Env) (f : Nat) (caps : List DC) : Option (List (List Value)) :=
  if f = 227 then (if E.io 228 = [] ∧ E.io 225 = [] then match caps with
    | [.cref [.sl devs, .sl rules] 0, .cref [.v (.int .i64 s)] 0] => if devs.length < 1000 then nextGo E [.sl devs, .sl rules] s (List.range' 0 devs.length) else none
    | _ => none
  else none) else none
theorem rates_closed : (EF Tryz.prog 500 tbl nextSq [] 12).call 58 [(true, [.v (.int .i64 500), .v (.int .i64 600)]), (true, [.v (.int .i64 10), .v (.int .i64 11)])] =
  some [(true, [.d (.v (.int .i64 5)), .d (.v (.int .i64 7))]), (false, [.d (.v (.int .i64 0))])] := by kernel_rfl
theorem awake_closed : (EF Tryz.prog 500 tbl nextSq [] 12).call 9 [] = some [(false, [.d (.v (.bool true))])] := by kernel_rfl
end Go.AM
