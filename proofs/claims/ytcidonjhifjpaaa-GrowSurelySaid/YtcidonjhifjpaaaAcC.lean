/- The example that the statements of chapter 8 begin with: its contract. -/
import Derived.Test.YtcidonjhifjpaaaAcN
import Derived.Test.YtcidonjhifjpaaaKMa
namespace Go.AM
open Go.Proofs

theorem follows8 : Try.prog.follows .mixedOrders = true := by kernel_rfl

abbrev nt14 : Nat := 95
abbrev Tf14_0 : Type 1 := (α : Type) → Option α → Option α
def f14_0 (α : Type) (k1 : Option α) : Option α := k1
def pa14_0 : PT (List DV) := pA []
def Fn14_0 (v : Tf14_0) (α : Type) (k : List RV → Option α) : Option α := v α (k [rB true])
theorem io14_0 : InstOk Try.prog 14 nt14 ⟨pa14_0, Fn14_0 f14_0⟩ :=
  inst_of (r := fun ds => (EF Try.prog 500 tbl nextSq 12).call 14 ds) (fun α k => by
    show k [rB true] = ((EF Try.prog 500 tbl nextSq 12).call 14 []).bind k
    rw [awake_closed]; rfl) (fun ds res h => (EF_ok follows8 tblOk next_ok 12).call 14 ds res h)

end Go.AM
