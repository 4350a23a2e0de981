/- Chapter 6: whole numbers as samples. -/
import Derived.Test.YtjifpcjmnhnpkaaMH5
namespace Go.AM.K
open Ieee
set_option linter.unusedVariables false
set_option linter.unusedSimpArgs false
variable {α : Type}
abbrev N32 (n : Int) : Nat := FloatKind.nearest .f32 n
theorem near_smp {n : Int} (h0 : 0 ≤ n) (h1 : n ≤ 65535) : chkS (N32 n) = none ∧ smp (N32 n) = n := by
  obtain ⟨s, m, i, a1, a2, a3⟩ := whole_smallS (n := n) (by omega)
  have hw : whl (vl (.number s m i)) = true := by
    unfold whl; rw [a3, Int.natAbs_mul, Int.natAbs_natCast]; exact decide_eq_true (Nat.mul_mod_left _ _)
  have hq := whole_qtS a2 a3
  have hU := UU_pos
  constructor
  · unfold chkS
    rw [a1]
    simp only [hw, Bool.true_eq_false, if_false]
    rw [a3]
    have u0 : ¬ n * (UU : Int) < 0 := by have := mulU_lt (a := n) (b := 0); rw [Int.zero_mul] at this; omega
    have u1 : ¬ 65535 * (UU : Int) < n * (UU : Int) := by have := mulU_lt (a := 65535) (b := n); omega
    rw [if_neg u0, if_neg u1]
  · unfold smp f2i
    rw [toInt_numS a1, hq]
    simp only
    have : IntKind.min .i64 = -9223372036854775808 := by decide
    have : IntKind.max .i64 = 9223372036854775807 := by decide
    rw [if_pos (by omega)]; rfl
theorem chkGo_near : ∀ (L : List Int) (i : Nat), (∀ x ∈ L, 0 ≤ x ∧ x ≤ 65535) → chkGo (L.map N32) i = none
  | [], _, _ => rfl
  | x :: r, i, h => by
    have hx := h x (by simp)
    simp only [List.map_cons, chkGo, (near_smp hx.1 hx.2).1]
    exact chkGo_near r (i + 1) fun y hy => h y (by simp [hy])
theorem smp_near : ∀ (L : List Int), (∀ x ∈ L, 0 ≤ x ∧ x ≤ 65535) → (L.map N32).map smp = L
  | [], _ => rfl
  | x :: r, h => by
    have hx := h x (by simp)
    simp only [List.map_cons, (near_smp hx.1 hx.2).2]
    rw [smp_near r fun y hy => h y (by simp [hy])]
theorem scan_near {L : List Int} {M : Int} (h1 : 4 ≤ L.length ∧ L.length ≤ 64) (h2 : L.length % 4 = 0) (hM : 0 ≤ M ∧ M ≤ 65535) (h : ∀ x ∈ L, 0 ≤ x ∧ x ≤ 65535) : scanE (L.map N32) M 65536 = (0, 0) :=
  scanE_none (scan0 (by rw [List.length_map]; exact ⟨h1, h2⟩) ⟨hM, by omega⟩) (chkGo_near L 0 h)
end Go.AM.K
