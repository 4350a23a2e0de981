/- The example that the statements of chapter 8 begin with: its contract. -/
import Derived.Test.YtffcelhcekillaaGreatRN
import Derived.Test.YtffcelhcekillaaGreatKMa
namespace Go.AM
open Go.Proofs
set_option maxRecDepth 100000
theorem alx:Tryz.prog.follows .mixedOrders=true:=by kernel_rfl
abbrev nt6:Nat:=38
abbrev aGO:Type 1:=(α:Type)->Option α->Option α
def anw (α:Type)(k1:Option α):Option α:=k1
def avO:PT (List DV):=pA []
def au8 (v:aGO)(α:Type)(k:List RV->Option α):Option α:=v α (k [rB true])
theorem aD1:ak Tryz.prog 6 nt6 ⟨avO,au8 anw⟩:=
 asX (r:=fun ds=>(EF Tryz.prog 500 tbl Eo [] 12).call 6 ds) (fun α k=>by
  show k [rB true]=((EF Tryz.prog 500 tbl Eo [] 12).call 6 []).bind k;rw [H1];rfl) (fun ds res h=>(adZ alx aHB aok 12).call 6 ds res h)
end Go.AM
