/- Chapter 8: GrowNarrowest. -/
import Derived.Test.YtcidonjhifjpaaaKP12
namespace Go.AM.K
variable {α : Type}
set_option linter.unusedVariables false
set_option linter.unusedSimpArgs false
variable {lo hi er : Int} {l : List (Int × Int)}

def gt1 (g : List Int) (i : Nat) : Int := g.getD i 0
theorem rowK_G1 {g : List Int} {i : Nat} {f : Int → Option α} (h : i < g.length) : rowK (g.map rI1) (i : Int) [.int .i64] f = f (gt1 g i) := by
  rw [rowK_I h]; simp [gt1, h]
/-- A growth with its beginning. -/
def gF (g : List Int) : Nat → Int
  | 0 => 0
  | i + 1 => gt1 g i
/-- One step of a growth. -/
def kpB (lo hi er : Int) (l : List (Int × Int)) (G : Nat → Int) (i : Nat) : Bool :=
  (decide (aT er l (i + 1) ≤ G (i + 1)) && decide (G (i + 1) ≤ bT er l (i + 1))) && (decide (G i + (sT l (i + 1) - sT l i) * lo ≤ G (i + 1)) && decide (G (i + 1) ≤ G i + (sT l (i + 1) - sT l i) * hi))
def kpL (lo hi er : Int) (l : List (Int × Int)) (G : Nat → Int) : Nat → Nat → Bool
  | 0, _ => true
  | m + 1, i => kpB lo hi er l G i && kpL lo hi er l G m (i + 1)
theorem kpL_iff {G : Nat → Int} : ∀ m i, kpL lo hi er l G m i = true ↔ ∀ x, i ≤ x → x < i + m → kpB lo hi er l G x = true
  | 0, i => by simp only [kpL, true_iff]; intro x h1 h2; omega
  | m + 1, i => by
    simp only [kpL, Bool.and_eq_true, kpL_iff m (i + 1)]
    constructor
    · intro ⟨h, h'⟩ x h1 h2
      by_cases hx : x = i
      · subst hx; exact h
      · exact h' x (by omega) (by omega)
    · intro h; exact ⟨h i (by omega) (by omega), fun x h1 h2 => h x (by omega) (by omega)⟩
theorem kpL_Kp {G : Nat → Int} (g0 : G 0 = 0) : kpL lo hi er l G l.length 0 = true ↔ Kp lo hi er l G := by
  rw [kpL_iff]
  constructor
  · intro h
    have h : ∀ i, i < l.length → (aT er l (i + 1) ≤ G (i + 1) ∧ G (i + 1) ≤ bT er l (i + 1)) ∧ (G i + (sT l (i + 1) - sT l i) * lo ≤ G (i + 1) ∧ G (i + 1) ≤ G i + (sT l (i + 1) - sT l i) * hi) := fun i hi' => by
      have := h i (by omega) (by omega)
      simpa only [kpB, Bool.and_eq_true, decide_eq_true_eq] using this
    exact ⟨g0, fun i hi' => (h i hi').1, fun i hi' => (h i hi').2⟩
  · intro h x h1 h2
    simp only [kpB, Bool.and_eq_true, decide_eq_true_eq]
    exact ⟨h.in_ x (by omega), h.by_ x (by omega)⟩

theorem R18 (t : TrOk lo hi er l) {g : List Int} (hg : g.length = l.length) {k1 : Option α} {k2 : Int → Int → Int → Bool → Option α} {fin : Option α} (hk : ∀ a b c d, k2 a b c d = fin) : ∀ (m i n : Nat), i + m = l.length → m < n → (-1000000000 ≤ gF g i ∧ gF g i ≤ 2000000000) →
    R18_0_0 α (g.map rI1) lo hi er (l.map rI2) k1 k2 n (sT l i) (gF g i) (i : Int) = if kpL lo hi er l (gF g) m i = true then fin else k1 := by
  have hl := t.len
  intro m
  induction m with
  | zero =>
    intro i n h1 h2 hb
    obtain ⟨n, rfl⟩ : ∃ k, n = k + 1 := ⟨n - 1, by omega⟩
    have : ¬ ((i : Int) < ((g.length : Nat) : Int)) := by omega
    simp only [R18_0_0, S18_0_0, S18_0_0g, List.length_map, this, decide_false, cK_false, hk, kpL, if_true]
  | succ m ih =>
    intro i n h1 h2 hb
    obtain ⟨n, rfl⟩ : ∃ k, n = k + 1 := ⟨n - 1, by omega⟩
    have : ((i : Int) < ((g.length : Nat) : Int)) := by omega
    have h3 := t.rd i (by omega)
    have h4 := t.err
    have hm := t.mul (i := i) (j := i + 1) (by omega) (by omega)
    have hm : (0 ≤ (gt2 l i).1 - sT l i ∧ (gt2 l i).1 - sT l i ≤ 100000) ∧ (0 ≤ ((gt2 l i).1 - sT l i) * lo ∧ ((gt2 l i).1 - sT l i) * lo ≤ 100000000000) ∧ (0 ≤ ((gt2 l i).1 - sT l i) * hi ∧ ((gt2 l i).1 - sT l i) * hi ≤ 100000000000) := hm
    simp only [R18_0_0, S18_0_0, S18_0_0g, List.length_map, this, decide_true, cK_true, f19_eq]
    rw [rowK_G2 (by omega)]
    simp only [rowK_G1 (show i < g.length by omega)]
    rw [w64_nat (N := l.length) (by omega) (by omega), w64_in (n := (gt2 l i).2 - er) (by omega) (by omega), w64_in (n := (gt2 l i).2 + er) (by omega) (by omega), w64_in (n := 1000 * ((gt2 l i).2 - er)) (by omega) (by omega), w64_in (n := 1000 * ((gt2 l i).2 + er)) (by omega) (by omega), w64_in (n := (gt2 l i).1 - sT l i) (by omega) (by omega), w64_in (n := ((gt2 l i).1 - sT l i) * lo) (by omega) (by omega), w64_in (n := ((gt2 l i).1 - sT l i) * hi) (by omega) (by omega), w64_in (n := gF g i + ((gt2 l i).1 - sT l i) * lo) (by omega) (by omega), w64_in (n := gF g i + ((gt2 l i).1 - sT l i) * hi) (by omega) (by omega)]
    have ek : kpL lo hi er l (gF g) (m + 1) i = (((decide (1000 * ((gt2 l i).2 - er) ≤ gt1 g i) && decide (gt1 g i ≤ 1000 * ((gt2 l i).2 + er))) && (decide (gF g i + ((gt2 l i).1 - sT l i) * lo ≤ gt1 g i) && decide (gt1 g i ≤ gF g i + ((gt2 l i).1 - sT l i) * hi))) && kpL lo hi er l (gF g) m (i + 1)) := rfl
    rw [ek]
    cases hA : (decide (1000 * ((gt2 l i).2 - er) ≤ gt1 g i) && decide (gt1 g i ≤ 1000 * ((gt2 l i).2 + er)))
    · simp
    · have hA' := hA
      simp only [Bool.and_eq_true, decide_eq_true_eq] at hA'
      cases hB : (decide (gF g i + ((gt2 l i).1 - sT l i) * lo ≤ gt1 g i) && decide (gt1 g i ≤ gF g i + ((gt2 l i).1 - sT l i) * hi))
      · simp
      · simp only [Bool.not_true, cK_false, Bool.true_and]
        exact ih (i + 1) n (by omega) (by omega) (by simp only [gF]; omega)

theorem f18_eq (t : TrOk lo hi er l) {g : List Int} {k : Bool → Option α} : f18_0 α lo hi er (l.map rI2) (g.map rI1) k = k (decide (g.length = l.length) && kpL lo hi er l (gF g) l.length 0) := by
  have hl := t.len
  have := fuel_ge
  simp only [f18_0, f18_0g, List.length_map, L18_0_0]
  by_cases h : g.length = l.length
  · simp only [h, bne_self_eq_false, cK_false, decide_true, Bool.true_and]
    refine (R18 t h (fin := k true) (fun _ _ _ _ => rfl) l.length 0 fuel (by omega) (by omega) (by simp [gF])).trans ?_
    cases kpL lo hi er l (gF g) l.length 0 <;> simp
  · have : (((g.length : Nat) : Int) != ((l.length : Nat) : Int)) = true := by simp; omega
    simp only [this, cK_true, h, decide_false, Bool.false_and]

end Go.AM.K
