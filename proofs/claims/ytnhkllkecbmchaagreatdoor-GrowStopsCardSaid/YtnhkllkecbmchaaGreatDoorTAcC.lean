/- The example that the statements of chapter 8 begin with: its contract. -/
import Derived.Test.YtnhkllkecbmchaaGreatDoorTAcN
import Derived.Test.YtnhkllkecbmchaaGreatDoorKMa
namespace Go.AM
open Go.Proofs
theorem follows8 : Tryz.prog.follows .mixedOrders = true := by kernel_rfl
abbrev nt9 : Nat := 95
abbrev Tf9_0 : Type 1 := (α : Type) → Option α → Option α
def f9_0 (α : Type) (k1 : Option α) : Option α := k1
def pa9_0 : PT (List DV) := pA []
def Fn9_0 (v : Tf9_0) (α : Type) (k : List RV → Option α) : Option α := v α (k [rB true])
theorem io9_0 : InstOk Tryz.prog 9 nt9 ⟨pa9_0, Fn9_0 f9_0⟩ :=
  inst_of (r := fun ds => (EF Tryz.prog 500 tbl nextSq [] 12).call 9 ds) (fun α k => by
    show k [rB true] = ((EF Tryz.prog 500 tbl nextSq [] 12).call 9 []).bind k
    rw [awake_closed]; rfl) (fun ds res h => (EF_ok follows8 tblOk next_ok 12).call 9 ds res h)
end Go.AM
