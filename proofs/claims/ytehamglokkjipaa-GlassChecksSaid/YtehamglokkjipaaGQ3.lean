/- Chapter 2: which materials are right: what the program and the document say agrees. -/
import Derived.Test.YtehamglokkjipaaGP7
namespace Go.AM.K
variable {α : Type}
theorem law3 {s : ByteArray} {kd : Int} {lw : List Int} {lx ly : List Nat} {c0 c1 : Int} {k : Bool → Option α} : f3_0 α s kd (lw.map rI1) (lx.map rF) (ly.map rF) c0 c1 k = k true := by
  simp only [f3_0, f3_0g, f7_0, f8_eq]
  cases hf : fewB s lw lx ly with
  | false => rfl
  | true =>
    obtain ⟨h1, h2, h3, h4⟩ := few_le hf
    simp only [Bool.not_true, cK_false]
    rw [f10_eq (by omega) (by omega) (by omega), f9_eq (by omega) (by omega) (by omega) (by omega), f11_eq (by omega) (by omega) (by omega)]
    simp
end Go.AM.K
