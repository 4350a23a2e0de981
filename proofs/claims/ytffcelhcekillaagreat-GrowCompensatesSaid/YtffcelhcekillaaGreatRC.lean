/- The example that the statements of chapter 8 begin with: its contract. -/
import Derived.Test.YtffcelhcekillaaGreatRN
import Derived.Test.YtffcelhcekillaaGreatKMa
namespace Go.AM
open Go.Proofs
set_option maxRecDepth 100000
theorem agU:Tryz.prog.follows .mixedOrders=true:=by kernel_rfl
abbrev nt6:Nat:=38
abbrev aDT:Type 1:=(α:Type)->Option α->Option α
def aoN (α:Type)(k1:Option α):Option α:=k1
def avW:PT (List DV):=pA []
def av3 (v:aDT)(α:Type)(k:List RV->Option α):Option α:=v α (k [rB true])
theorem aEG:ak Tryz.prog 6 nt6 ⟨avW,av3 aoN⟩:=
 Xj (r:=fun ds=>(EF Tryz.prog 500 tbl Dv [] 12).call 6 ds) (fun α k=>by
  show k [rB true]=((EF Tryz.prog 500 tbl Dv [] 12).call 6 []).bind k;rw [Kl];rfl) (fun ds res h=>(aij agU aDz atR 12).call 6 ds res h)
end Go.AM
