/- Chapter 2: enclosures between wavelengths: what the program and the document say agrees. -/
import Derived.Test.YtehamglokkjipaaGreatQHP2
namespace Go.AM.K
set_option linter.unusedVariables false
set_option linter.unusedSimpArgs false
variable {α : Type}
theorem law6 {s : ByteArray} {kd : Int} {lw : List Int} {lx ly : List Nat} {c0 c1 lo hi : Int} {k : Bool → Option α} : f6_0 α s kd (lw.map rI1) (lx.map rF) (ly.map rF) c0 c1 lo hi k = k true := by
  simp only [f6_0, f6_0g, f9_0, f16_eq, J6_0_0, J6_0_0g]
  cases hf : fewB s lw lx ly with
  | false => rfl
  | true =>
    obtain ⟨l1, l2, l3, l4⟩ := few_le hf
    have hs : s.size ≤ 9223372036854775807 := by omega
    have w1 : lw.length ≤ 1000 := by omega
    have w2 : lx.length ≤ 1000 := by omega
    have w3 : ly.length ≤ 1000 := by omega
    simp only [Bool.not_true, cK_false, f18_eq w1 w2 w3, f21_eq w1 w2 w3]
    by_cases hE : (ckG s kd lw lx ly c0 c1).2 = 0
    · rw [hE]
      simp only [beq_self_eq_true, cK_true]
      rcases ck_ok2 hE with ⟨hk, h⟩ | ⟨hk, h, hn⟩
      · simp only [h.f17 hs hE hk, h.f31 hk]
        split
        · simp
        · split
          · simp
          · split
            · simp
            · simp
      · simp only [h.f17 hs w1 w2 w3 hE (show kd ≠ 1 by omega), h.f31 hn hk]
        split
        · simp
        · split
          · simp
          · simp
    · simp only [f30_E hs w1 w2 w3 hE]
      rw [show ((ckG s kd lw lx ly c0 c1).2 == 0) = false by simpa using hE]
      simp
end Go.AM.K
