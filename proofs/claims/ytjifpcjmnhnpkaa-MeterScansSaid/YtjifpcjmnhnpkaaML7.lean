/- MeterScans. -/
import Derived.Test.YtjifpcjmnhnpkaaMS2
import Derived.Test.YtjifpcjmnhnpkaaKTt
namespace Go.AM.K
set_option linter.unusedVariables false
set_option linter.unusedSimpArgs false
variable {α : Type}
theorem apF {l : List Nat} (h : l.length ≤ 70) : apOk 1 4 [] (l.map rF) = true :=
  apOk_of (enc := rF) (n := 1) (b := 4) (fun _ => rfl) (rows := []) (l := l) (by simp; omega) (by simp; omega)
theorem law7 {l : List Nat} {M F : Int} {k : Bool → Option α} : f7_0 α (l.map rF) M F k = k true := by
  simp only [f7_0, f7_0g, f15_0, cK_dec, List.length_map]
  split
  · rfl
  · rename_i h70
    have h70 : l.length ≤ 70 := by omega
    simp only [f17_0, f17_0g, apF h70, gK_true, List.nil_append, f33_0, f33_0g, f34_0, f34_0g, f21_0, f21_0g, f67_eq, f18_eq]
    by_cases hE : (scanE l M F).2 = 0
    · have hE' : ¬ ((scanE l M F).2 ≠ 0) := fun h => h hE
      obtain ⟨⟨h1, h2⟩, ⟨h3, h4⟩, h5, h6⟩ := scan_ok hE
      have hfl : ∀ xs : List Int, ∀ x : Option α, flatK [xs.map rI1] x = x := fun xs x => flatK_map fun _ => rfl
      have hz : ∀ a b : Option α, (if (0 : Int) ≠ 0 then a else b) = b := fun a b => if_neg fun h => h rfl
      simp only [hE, hz, bne_self_eq_false, cK_false, f75_eq h1.2 h6, hfl, h5, cK_ne]
      have h36 : ∀ kk : Bool → Option α, f36_0 α ((satGo F (l.map smp) 0).map rI1) ((satGo F (l.map smp) 0).map rI1) kk = kk true := fun kk => f36_self (Nat.le_trans (satGo_len F (l.map smp) 0) (by simpa using h1.2))
      simp only [f35_0, f35_0g, f37_eq h1.2 h6, h36, List.length_map, beq_self_eq_true, cK_true, cK_dec]
      by_cases hs : 0 < (satGo F (l.map smp) 0).length
      · simp only [if_pos (show (0 : Int) < ((satGo F (l.map smp) 0).length : Int) by omega)]
        simp
      · simp only [if_neg (show ¬ (0 : Int) < ((satGo F (l.map smp) 0).length : Int) by omega)]
        simp only [f72_eq h1.2 h6, List.length_map]
        have s21 := fun kk : Int → Int → Int → Int → Int → Int → Option α => sums21 h1.2 h2 h6 h3 (k := fun a b c d e f _ => kk a b c d e f)
        have s35 := fun kk : Int → Int → Int → Int → Int → Int → Option α => sums35 h1.2 h2 h6 h3 (k := fun a b c d e f _ => kk a b c d e f)
        unfold sumK at s21 s35
        rw [s21]
        refine (s35 _).trans ?_
        simp
    · have hE' : (scanE l M F).2 ≠ 0 := hE
      have hp : ∀ a b : Option α, (if (scanE l M F).2 ≠ 0 then a else b) = a := fun a b => if_pos hE'
      have hb : ((scanE l M F).2 != 0) = true := by simpa using hE
      simp only [hp, hb, bne_self_eq_false, cK_false, cK_true, cK_ne, beq_self_eq_true]
      have hfl : ∀ x : Option α, flatK [[]] x = x := fun x => flatK_map (enc := rI1) (l := []) fun _ => rfl
      simp [hfl, cK]
end Go.AM.K
