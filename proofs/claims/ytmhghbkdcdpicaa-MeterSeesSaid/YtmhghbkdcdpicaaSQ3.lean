/- MeterSees. -/
import Derived.Test.YtmhghbkdcdpicaaSQ0
import Derived.Test.YtmhghbkdcdpicaaKTt
namespace Go.AM.K
set_option linter.unusedVariables false
set_option linter.unusedSimpArgs false
variable {α : Type}
theorem law3 {n1 n2 n3 n4 n5 n6 n7 n8 n9 n a0 a1 b0 b1 c0 c1 : Int} {k : Bool → Option α} : f3_0 α n1 n2 n3 n4 n5 n6 n7 n8 n9 n a0 a1 b0 b1 c0 c1 k = k true := by
  have err : ∀ e : Int, e ≠ 0 → (if mxE n1 n2 n3 n4 n5 n6 n7 n8 n9 n ≠ 0 then mxE n1 n2 n3 n4 n5 n6 n7 n8 n9 n else smE a0 a1 b0 b1 c0 c1) = e →
      (∀ {kk : Int → Int → Int → Int → Int → Int → Int → Option α}, f6_0 α n1 n2 n3 n4 n5 n6 n7 n8 n9 n a0 a1 b0 b1 c0 c1 kk = kk 0 0 0 0 0 0 e) ∧ ∀ {kk : Int → Int → Int → Int → Int → Int → Int → Option α}, f7_0 α n1 n2 n3 n4 n5 n6 n7 n8 n9 n a0 a1 b0 b1 c0 c1 kk = kk 0 0 0 0 0 0 e := by
    intro e he h
    constructor
    · intro kk; simp only [f6_0, f6_0g, f22_eq, h, bne_iff_ne.2 he, cK_true]
    · intro kk; simp only [f7_0, f7_0g, f22_eq, h, bne_iff_ne.2 he, cK_true]
  simp only [f3_0, f3_0g, f5_0, J3_0_0, J3_0_0g, f8_eq, f9_eq]
  by_cases h : mxE n1 n2 n3 n4 n5 n6 n7 n8 n9 n = 0
  · by_cases hs : smE a0 a1 b0 b1 c0 c1 = 0
    · obtain ⟨x, y, z, w, p, q, r, g1⟩ := mapK_cases (α := α) n1 n2 n3 n4 n5 n6 n7 n8 n9 a0 a1 b0 b1 c0 c1 1 n
      obtain ⟨x', y', z', w', p', q', r', g2⟩ := corK_cases (α := α) n1 n2 n3 n4 n5 n6 n7 n8 n9 n a0 a1 b0 b1 c0 c1
      simp only [f6_ok h hs, f10_ok h hs, f7_ok h hs, f11_ok h hs, g1, g2, h, hs, beq_self_eq_true, bne_self_eq_false, cK_true, cK_false, Bool.and_self]
    · obtain ⟨e1, e2⟩ := err (smE a0 a1 b0 b1 c0 c1) hs (by rw [if_neg (fun hh => hh h)])
      simp only [e1, e2, h, bne_iff_ne.2 hs, beq_self_eq_true, cK_true, Bool.and_self]
  · obtain ⟨e1, e2⟩ := err (mxE n1 n2 n3 n4 n5 n6 n7 n8 n9 n) h (by rw [if_pos h])
    simp only [e1, e2, beq_eq_false_iff_ne.2 h, bne_iff_ne.2 h, beq_self_eq_true, cK_true, cK_false, Bool.and_self]
end Go.AM.K
