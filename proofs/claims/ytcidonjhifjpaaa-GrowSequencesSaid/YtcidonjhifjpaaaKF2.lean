/- Arguments of chambers as data. -/
import Derived.Test.YtcidonjhifjpaaaKF1
import Derived.Test.YtcidonjhifjpaaaKC3
namespace Go.AM
theorem rows_ofP {A : Type} {P : A → Prop} {enc : A → List DC} {l : List TS} (h : ∀ r, TSoks l r → ∃ a, P a ∧ r = enc a) : ∀ rows : List (List DC), (∀ r ∈ rows, TSoks l r) → ∃ L : List A, (∀ a ∈ L, P a) ∧ rows = L.map enc
  | [], _ => ⟨[], by simp, rfl⟩
  | r :: rows, hr => by
    obtain ⟨a, ha, rfl⟩ := h r (hr r (by simp))
    obtain ⟨L, hL, rfl⟩ := rows_ofP h rows fun q hq => hr q (List.mem_cons_of_mem _ hq)
    refine ⟨a :: L, fun b hb => ?_, rfl⟩
    rcases List.mem_cons.1 hb with h1 | h1
    · subst h1; exact ha
    · exact hL b h1
theorem ofS (r : List DC) (h : TSoks [.str] r) : ∃ a : ByteArray, a.size ≤ 9223372036854775807 ∧ r = K.rS a := by
  obtain ⟨_, _, rfl, t, h1⟩ := h.cons
  obtain rfl := h1.nil
  cases t with
  | str hs => exact ⟨_, Nat.le_trans hs (by decide), rfl⟩
theorem ofR (r : List DC) (h : TSoks [.int .i64, .bool, .int .i64, .bool] r) : ∃ a : Rule, r = rR a := by
  obtain ⟨_, _, rfl, ⟨_⟩, h1⟩ := h.cons
  obtain ⟨_, _, rfl, ⟨_⟩, h2⟩ := h1.cons
  obtain ⟨_, _, rfl, ⟨_⟩, h3⟩ := h2.cons
  obtain ⟨_, _, rfl, ⟨_⟩, h4⟩ := h3.cons
  obtain rfl := h4.nil
  exact ⟨(_, _, _, _), rfl⟩
theorem ofB (r : List DC) (h : TSoks [.bool] r) : ∃ a : Bool, r = rB1 a := by
  obtain ⟨_, _, rfl, ⟨_⟩, h1⟩ := h.cons
  obtain rfl := h1.nil
  exact ⟨_, rfl⟩
theorem ofN (r : List DC) (h : TSoks [.int .i64] r) : ∃ a : Int, r = rI1 a := by
  obtain ⟨_, _, rfl, ⟨_⟩, h1⟩ := h.cons
  obtain rfl := h1.nil
  exact ⟨_, rfl⟩
end Go.AM
