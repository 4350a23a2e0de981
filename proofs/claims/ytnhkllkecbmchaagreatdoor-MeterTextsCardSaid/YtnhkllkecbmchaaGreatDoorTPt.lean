/- Where the numbers of a reading stand. -/
import Derived.Test.YtnhkllkecbmchaaGreatDoorKMa
import Derived.Test.YtnhkllkecbmchaaGreatDoorProg
namespace Go.AM.K
open Go.Proofs
set_option maxRecDepth 100000
noncomputable def c77:Code:=Tryz.f77.body.getD .ret
noncomputable def ac77:ACode:=(mk Tryz.prog 39 [] [] false c77).getD .ret
theorem ptr77:PtrsOk Tryz.prog 77 [1,2,3,4,5,6,7,8,9]:=
 ptrs_ok (E:=EnvK.of [] noSeq) (c:=c77) (ac:=ac77) (tr:=[]) (tl:=[]) (t:=2) (sh:=[]) (EnvK.of_ok noSeq_ok trivial) (by kernel_rfl) Tryz.func77 (by kernel_rfl) (by kernel_rfl) (by kernel_rfl) (by decide) fun off=>by kernel_rfl
end Go.AM.K
