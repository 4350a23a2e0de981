/- The iterator over the numbers of a kernel at times below 0, as the printed texts name it. -/
import Derived.Test.YtehamglokkjipaaGreatKMa
import Derived.Test.YtehamglokkjipaaGreatQEi
namespace Go.AM.K
open Go.Proofs
theorem ptr84:PtrsOk Tryz.prog 84 [1000121,0]:=Tryz.early_it
theorem ptr121:PtrsOk Tryz.prog 121 [2000000,2]:=⟨Tryz.early_run,⟨Tryz.f121,Tryz.func121,by kernel_rfl,by kernel_rfl⟩⟩
end Go.AM.K
