/- Chapter 8: small things of the statements. -/
import Derived.Test.YtcidonjhifjpaaaKC4
namespace Go.AM.K
variable {α : Type}
set_option linter.unusedVariables false
set_option linter.unusedSimpArgs false

theorem fl0 {x : Option α} : flatK [([] : Rows)] x = x := rfl
theorem flB {s : List Bool} {x : Option α} : flatK [s.map rB1] x = x := flatK_map (enc := rB1) (fun _ => rfl)
theorem f44_eq {D R : Rows} {k : Bool → Option α} : f44_0 α D R k = k ((decide (D.length ≤ 5) || (decide (8 < D.length) && decide (D.length ≤ 10))) && decide (R.length ≤ 32)) := by
  simp only [f44_0, f44_0g]
  have e1 : decide (((D.length : Nat) : Int) ≤ 5) = decide (D.length ≤ 5) := by congr 1; apply propext; omega
  have e2 : decide ((8 : Int) < ((D.length : Nat) : Int)) = decide (8 < D.length) := by congr 1; apply propext; omega
  have e3 : decide (((D.length : Nat) : Int) ≤ 10) = decide (D.length ≤ 10) := by congr 1; apply propext; omega
  have e4 : decide (((R.length : Nat) : Int) ≤ 32) = decide (R.length ≤ 32) := by congr 1; apply propext; omega
  rw [e1, e2, e3, e4]
  cases decide (D.length ≤ 5) <;> cases decide (8 < D.length) <;> cases decide (D.length ≤ 10) <;> cases decide (R.length ≤ 32) <;> rfl

end Go.AM.K
