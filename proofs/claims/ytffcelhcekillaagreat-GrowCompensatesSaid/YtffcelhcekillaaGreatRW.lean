/- The example that the statements of chapter 8 begin with, run. -/
import Derived.Test.YtffcelhcekillaaGreatRM
namespace Go.AM
open Go.Proofs
def mZ (E:Env)(cs:List DC)(s:Int):List Nat->Option (List (List Value))
 | []=>some []
 | d::r=>match E 90 [(false,[.v (.int .i64 s)]),(false,[.v (.int .i64 d)])] with
  | some [(false,[.d (.v (.int .i64 n))])]=>match E 87 [(true,cs),(false,[.v (.int .i64 n)])] with
   | some [(false,[.d (.v (.bool b))])]=>match mZ E cs s r with
    | some out=>some (if b then [.int .i64 d,.int .i64 n]::out else out)
    | none=>none
   | _=>none
  | _=>none
def Dv (E:Env)(f:Nat)(caps:List DC):Option (List (List Value)):=
 if f=89 then (if E.io 90=[]/\E.io 87=[] then match caps with
  | [.cref [.sl devs,.sl rules] 0,.cref [.v (.int .i64 s)] 0]=>if devs.length < 1000 then mZ E [.sl devs,.sl rules] s (List.range' 0 devs.length) else none
  | _=>none
 else none) else none
theorem Kl:(EF Tryz.prog 500 tbl Dv [] 12).call 6 []=some [(false,[.d (.v (.bool true))])]:=by kernel_rfl
end Go.AM
