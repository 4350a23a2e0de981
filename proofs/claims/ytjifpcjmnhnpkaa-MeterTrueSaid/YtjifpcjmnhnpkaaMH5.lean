/- Chapter 6: sums without saturated samples. -/
import Derived.Test.YtjifpcjmnhnpkaaMS2
namespace Go.AM.K
set_option linter.unusedVariables false
set_option linter.unusedSimpArgs false
variable {α : Type}
theorem satGo_nil {F : Int} : ∀ (l : List Int) (i : Nat), (∀ x ∈ l, x < F) → satGo F l i = []
  | [], _, _ => rfl
  | x :: r, i, h => by
    have h1 := h x (by simp)
    simp only [satGo]
    rw [if_neg (by omega)]
    exact satGo_nil r (i + 1) fun y hy => h y (by simp [hy])
theorem f21_plain {l : List Nat} {M : Int} (h : (scanE l M 65536).2 = 0) {k : Int → Int → Int → Int → Int → Int → Int → Option α} : f21_0 α (l.map rF) M 65536 k = sumK l M k := by
  obtain ⟨⟨h1, h2⟩, h3, h5, h6⟩ := scan_ok h
  have hs : satGo 65536 (l.map smp) 0 = [] := satGo_nil _ _ fun x hx => by have := (smp_bd h1.2 h6).2 x hx; omega
  have hfl : ∀ x : Option α, flatK [[]] x = x := fun x => flatK_map (enc := rI1) (l := []) fun _ => rfl
  simp only [f21_0, f21_0g, f67_eq]
  rw [if_neg (fun hh => hh h), bne_self_eq_false, cK_false, f75_eq h1.2 h6, hs]
  simp only [List.map_nil, hfl, List.length_nil]
  rw [decide_eq_false (by decide), cK_false, List.length_map]
  exact sums21 h1.2 h2 h6 h3.1
end Go.AM.K
