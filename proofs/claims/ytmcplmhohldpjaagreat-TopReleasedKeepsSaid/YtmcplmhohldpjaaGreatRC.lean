/- The example that the statements of chapter 8 begin with: its contract. -/
import Derived.Test.YtmcplmhohldpjaaGreatRN
import Derived.Test.YtmcplmhohldpjaaGreatKMa
namespace Go.AM
open Go.Proofs
set_option maxRecDepth 100000
theorem Tx:Tryz.prog.follows .mixedOrders=true:=by kernel_rfl
abbrev aqF:Nat:=38
abbrev ajQ:Type 1:=(α:Type)->Option α->Option α
def UW (α:Type)(k1:Option α):Option α:=k1
def XR:PT (List DV):=pA []
def Z8 (v:ajQ)(α:Type)(k:List RV->Option α):Option α:=v α (k [rB true])
theorem alF:al Tryz.prog 20 aqF ⟨XR,Z8 UW⟩:=
 acy (r:=fun ds=>(EF Tryz.prog 500 tbl BV [] 12).call 20 ds) (fun α k=>by
  show k [rB true]=((EF Tryz.prog 500 tbl BV [] 12).call 20 []).bind k
  rw [Gz];rfl) (fun ds res h=>(VT Tx apR afB 12).call 20 ds res h)
end Go.AM
