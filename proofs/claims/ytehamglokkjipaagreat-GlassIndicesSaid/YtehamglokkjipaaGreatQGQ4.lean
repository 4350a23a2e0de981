/- Chapter 2: index, permittivity, group index: what the program and the document say agrees. -/
import Derived.Test.YtehamglokkjipaaGreatQHP5
namespace Go.AM.K
set_option linter.unusedVariables false
set_option linter.unusedSimpArgs false
variable {α : Type}
theorem near00 : FloatKind.nearest .f64 0 = 0 := by decide +kernel
section
variable {s : ByteArray} {kd : Int} {W X Y : Rows} {c0 c1 : Int} {cov : Int → Bool} {A B : Int → Int} (h : AtOk s kd W X Y c0 c1 cov A B)
include h
theorem f19_A {w : Int} {k : Nat → Nat → Int → Int → Option α} : f19_0 α s kd W X Y c0 c1 w k = if isW w = false then k 0 0 0 2 else if cov w = false then k 0 0 0 17 else
    if peO (A w) (B w) = true then k (FloatKind.nearest .f64 (peX (A w) (B w))) (FloatKind.nearest .f64 (peY (A w) (B w))) (peR (A w) (B w)) 0 else k 0 0 0 8 := by
  simp only [f19_0, f19_0g, h.e17]
  cases ha : isW w with
  | false => rfl
  | true =>
    cases hc : cov w with
    | false => rfl
    | true =>
      simp only [Bool.true_eq_false, if_false, bne_self_eq_false, cK_false]
      have b1 := h.bA ha hc
      have b2 := h.bB ha hc
      exact pe_prog b1.1 b1.2 b2.1 b2.2
end
theorem f23_same {a b : Nat} {r : Int} {k : Bool → Option α} : f23_0 α a b r a b r k = k true := by
  simp [f23_0, f23_0g, f71_0, f71_0g]
theorem law4 {s : ByteArray} {kd : Int} {lw : List Int} {lx ly : List Nat} {c0 c1 w : Int} {k : Bool → Option α} : f4_0 α s kd (lw.map rI1) (lx.map rF) (ly.map rF) c0 c1 w k = k true := by
  simp only [f4_0, f4_0g, f9_0, f16_eq, J4_0_0, J4_0_0g]
  cases hf : fewB s lw lx ly with
  | false => rfl
  | true =>
    obtain ⟨l1, l2, l3, l4⟩ := few_le hf
    have hs : s.size ≤ 9223372036854775807 := by omega
    have w1 : lw.length ≤ 1000 := by omega
    have w2 : lx.length ≤ 1000 := by omega
    have w3 : ly.length ≤ 1000 := by omega
    simp only [Bool.not_true, cK_false, f18_eq w1 w2 w3, f21_eq w1 w2 w3]
    by_cases hE : (ckG s kd lw lx ly c0 c1).2 = 0
    · rw [hE]
      simp only [beq_self_eq_true, cK_true]
      obtain ⟨cov, A, B, g1, g2, g3, h, g⟩ := both_ok hs w1 w2 w3 hE
      simp only [f19_A h, g.e20, h.e17, h.e22]
      cases ha : isW w with
      | false => simp [f23_same]
      | true =>
        cases hc : cov w with
        | false => simp [f23_same]
        | true =>
          have b1 := h.bA ha hc
          have b2 := h.bB ha hc
          simp only [Bool.true_eq_false, if_false, bne_self_eq_false, cK_false, h.e25 ha hc, g.e26 ha hc, f24_eq b1.1 b1.2 b2.1 b2.2, beq_self_eq_true, cK_true, Bool.and_true, f27_0, f27_0g, f49_0, f49_0g, f45_0, f45_0g]
          split
          · simp [f23_same]
          · simp [f23_same, near00]
    · simp only [f19_0, f19_0g, f20_0, f20_0g, J20_0_0, J20_0_0g, f17_E hs w1 w2 w3 hE, f62_E hs w1 w2 w3 hE]
      rw [show ((ckG s kd lw lx ly c0 c1).2 == 0) = false by simpa using hE, show ((ckG s kd lw lx ly c0 c1).2 != 0) = true by simpa using hE]
      simp [f23_same]
end Go.AM.K
