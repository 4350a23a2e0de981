/- Small words of the printed texts. -/
import Derived.Test.YtcidonjhifjpaaaKM6
namespace Go.AM

abbrev Rows := List (List DC)
def iAnd (k : IntKind) (a b : Int) : Int := k.wrap ((BitVec.ofInt k.bits a &&& BitVec.ofInt k.bits b).toNat)
def iOr (k : IntKind) (a b : Int) : Int := k.wrap ((BitVec.ofInt k.bits a ||| BitVec.ofInt k.bits b).toNat)
def iXor (k : IntKind) (a b : Int) : Int := k.wrap ((BitVec.ofInt k.bits a ^^^ BitVec.ofInt k.bits b).toNat)
def iAndNot (k : IntKind) (a b : Int) : Int := k.wrap ((BitVec.ofInt k.bits a &&& ~~~(BitVec.ofInt k.bits b)).toNat)
abbrev w64 (n : Int) : Int := IntKind.wrap .i64 n
/-- A row of numbers, and so on. -/
abbrev vi (n : Int) : DC := .v (.int .i64 n)
abbrev vb (b : Bool) : DC := .v (.bool b)
abbrev vs (b : ByteArray) : DC := .v (.string b)

def apOk (sz bytes : Nat) (rows rows2 : Rows) : Bool := decide (allLen sz rows2 = true ∧ (rows.length + rows2.length) * bytes ≤ 140737488355328 ∧ rows.length + rows2.length ≤ 9223372036854775807)
def apOk0 (sz bytes : Nat) (rows2 : Rows) : Bool := decide (allLen sz rows2 = true ∧ rows2.length * bytes ≤ 140737488355328 ∧ rows2.length ≤ 9223372036854775807)
def bytesR (s : ByteArray) : Rows := s.data.toList.map fun b => [.v (.int .u8 b.toNat)]

end Go.AM
