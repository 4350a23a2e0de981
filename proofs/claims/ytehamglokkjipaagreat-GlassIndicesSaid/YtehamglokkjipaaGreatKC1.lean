/- Plain tools: loops that search; rows of bools and numbers. -/
import Derived.Test.YtehamglokkjipaaGreatKP1
namespace Go.AM
variable {α : Type}
set_option linter.unusedVariables false
set_option linter.unusedSimpArgs false
def srch {B : Type} (p : Nat → Option B) : Nat → Nat → Option B
  | 0, _ => none
  | m + 1, i => match p i with
    | some b => some b
    | none => srch p m (i + 1)
def orK {B : Type} (o : Option B) (y : B → Option α) (n : Option α) : Option α := match o with | some b => y b | none => n
@[simp] theorem orK_some {B : Type} {b : B} {y : B → Option α} {n : Option α} : orK (some b) y n = y b := rfl
@[simp] theorem orK_none {B : Type} {y : B → Option α} {n : Option α} : orK (none : Option B) y n = n := rfl
theorem srch_none {B : Type} {p : Nat → Option B} : ∀ {m i : Nat}, srch p m i = none ↔ ∀ j, i ≤ j → j < i + m → p j = none
  | 0, i => by simp only [srch, true_iff]; intro j h1 h2; omega
  | m + 1, i => by
    simp only [srch]
    cases hp : p i with
    | some b => simp only [reduceCtorEq, false_iff]; intro h; have := h i (by omega) (by omega); rw [hp] at this; cases this
    | none =>
      simp only
      rw [srch_none]
      constructor
      · intro h j h1 h2
        by_cases hj : j = i
        · subst hj; exact hp
        · exact h j (by omega) (by omega)
      · intro h j h1 h2; exact h j (by omega) (by omega)
theorem srch_some {B : Type} {p : Nat → Option B} {b : B} : ∀ {m i : Nat}, srch p m i = some b → ∃ j, i ≤ j ∧ j < i + m ∧ p j = some b ∧ ∀ k, i ≤ k → k < j → p k = none
  | 0, i, h => by cases h
  | m + 1, i, h => by
    simp only [srch] at h
    cases hp : p i with
    | some c => rw [hp] at h; simp only [Option.some.injEq] at h; subst h; exact ⟨i, by omega, by omega, hp, fun k _ _ => by omega⟩
    | none =>
      rw [hp] at h
      obtain ⟨j, h1, h2, h3, h4⟩ := srch_some h
      refine ⟨j, by omega, by omega, h3, fun k h5 h6 => ?_⟩
      by_cases hk : k = i
      · subst hk; exact hp
      · exact h4 k (by omega) h6
theorem loopS' {B : Type} {R : Nat → Int → Option α} {N : Nat} {p : Nat → Option B} {yes : B → Option α} {no : Option α}
    (hs : ∀ (n i : Nat), i < N → R (n + 1) (i : Int) = orK (p i) yes (R n ((i + 1 : Nat) : Int))) (he : ∀ n : Nat, R (n + 1) ((N : Nat) : Int) = no) :
    ∀ (m i n : Nat), i + m = N → m < n → R n (i : Int) = orK (srch p m i) yes no := by
  intro m
  induction m with
  | zero =>
    intro i n h1 h2
    obtain ⟨n, rfl⟩ : ∃ k, n = k + 1 := ⟨n - 1, by omega⟩
    have : i = N := by omega
    subst this
    rw [he]; rfl
  | succ m ih =>
    intro i n h1 h2
    obtain ⟨n, rfl⟩ : ∃ k, n = k + 1 := ⟨n - 1, by omega⟩
    rw [hs n i (by omega), ih (i + 1) n (by omega) (by omega)]
    simp only [srch]
    cases p i <;> rfl
theorem loopS {B : Type} {R : Nat → Int → Option α} {N : Nat} {p : Nat → Option B} {yes : B → Option α} {no : Option α} (hN : N < 9223372036854775807)
    (hs : ∀ (n i : Nat), i < N → R (n + 1) (i : Int) = orK (p i) yes (R n ((i + 1 : Nat) : Int))) (he : ∀ n : Nat, R (n + 1) ((N : Nat) : Int) = no) :
    R fuel 0 = orK (srch p N 0) yes no := by
  have := fuel_ge
  exact loopS' hs he N 0 fuel (by omega) (by omega)
abbrev Rule := Int × Bool × Int × Bool
theorem gD {A : Type} {l : List A} {i : Nat} {d : A} (h : i < l.length) : l.getD i d = l[i]'h := by
  simp [List.getD_eq_getElem?_getD, h]
theorem rowK_N {s : List Int} {x : Int} (h0 : 0 ≤ x) (h1 : x < (s.length : Int)) {f : Int → Option α} : rowK (s.map rI1) x [.int .i64] f = f (s.getD x.toNat 0) := by
  obtain ⟨i, rfl⟩ : ∃ i : Nat, x = i := ⟨x.toNat, by omega⟩
  have hi : i < s.length := by omega
  rw [Int.toNat_natCast, gD hi]
  exact (rowK_get (sh := [.int .i64]) (f := f) (r := rI1 (s[i]'hi)) (by simp [hi])).trans rfl
def r0 : Rule := (0, false, 0, false)
end Go.AM
