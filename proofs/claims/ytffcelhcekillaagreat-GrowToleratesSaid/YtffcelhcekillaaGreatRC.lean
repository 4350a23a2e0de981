/- The example that the statements of chapter 8 begin with: its contract. -/
import Derived.Test.YtffcelhcekillaaGreatRN
import Derived.Test.YtffcelhcekillaaGreatKMa
namespace Go.AM
open Go.Proofs
set_option maxRecDepth 100000
theorem al4:Tryz.prog.follows .mixedOrders=true:=by kernel_rfl
abbrev nt6:Nat:=38
abbrev aEF:Type 1:=(α:Type)->Option α->Option α
def aqs (α:Type)(k1:Option α):Option α:=k1
def avD:PT (List DV):=pA []
def avF (v:aEF)(α:Type)(k:List RV->Option α):Option α:=v α (k [rB true])
theorem aAc:ak Tryz.prog 6 nt6 ⟨avD,avF aqs⟩:=
 atg (r:=fun ds=>(EF Tryz.prog 500 tbl DT [] 12).call 6 ds) (fun α k=>by
  show k [rB true]=((EF Tryz.prog 500 tbl DT [] 12).call 6 []).bind k;rw [IR];rfl) (fun ds res h=>(ahA al4 aGr ann 12).call 6 ds res h)
end Go.AM
