/- Chapter 2: the spectrum of a kernel: what the program and the document say agrees. -/
import Derived.Test.YtehamglokkjipaaGreatQHP7
namespace Go.AM.K
set_option linter.unusedVariables false
set_option linter.unusedSimpArgs false
variable {α : Type}
theorem fl_nil {x : Option α} : flatK [([] : Rows)] x = x := rfl
theorem krn_le {n : Nat} (h : krn n = true) : n ≤ 34 := by
  unfold krn at h
  simp only [Bool.or_eq_true, Bool.and_eq_true, decide_eq_true_eq] at h
  omega
theorem f12_eq {l : List Int} (h : l.length ≤ 1000) {k : Rows → Option α} : f12_0 α (l.map rI1) k = k (l.map rI1) := by
  simp only [f12_0, f12_0g, List.nil_append]
  exact gK_ap0 (enc := rI1) (n := 1) (b := 8) (fun _ => rfl) (by omega) (by omega)
theorem law3 {l : List Int} {k : Bool → Option α} : f3_0 α (l.map rI1) k = k true := by
  simp only [f3_0, f3_0g, f9_0, List.length_map, f10_eq]
  cases hk : krn l.length with
  | false => rfl
  | true =>
    have h2 := krn_le hk
    simp only [Bool.not_true, cK_false, f12_eq (show l.length ≤ 1000 by omega), f11_eq h2, f13_eq h2, J3_0_0, J3_0_0g]
    by_cases he : spE l = 0
    · simp only [he, if_true, beq_self_eq_true, cK_true]
      have hL : lenB l.length = true := by
        unfold spE at he
        cases h : lenB l.length with
        | true => rfl
        | false => rw [h] at he; simp at he
      have hK : knB l = true := by
        unfold spE at he
        rw [hL] at he
        cases h : knB l with
        | true => rfl
        | false => rw [h] at he; simp at he
      have hp := len_pos hL
      have e14 : ∀ k : Rows → Int → Option α, _ := fun k => f14_eq (α := α) (l := l) (by omega) h2 (fun i hi => knB_at hK hi) (k := k)
      simp only [e14]
      cases ha : allB (fun m t => some (spT l m t)) l.length l.length 0 [] with
      | none =>
        simp only [fl_nil, beq_self_eq_true, cK_true]
        exact f15_self (s := []) (by simp)
      | some r =>
        have := allB_len _ _ _ _ ha
        simp only [fl_Bl, beq_self_eq_true, cK_true]
        exact f15_self (s := r.map nB) (by simp at this; simp; omega)
    · rw [if_neg he, show (spE l == 0) = false from beq_eq_false_iff_ne.2 he]
      simp only [fl_nil, beq_self_eq_true, cK_true, cK_false]
      exact f15_self (s := []) (by simp)
end Go.AM.K
