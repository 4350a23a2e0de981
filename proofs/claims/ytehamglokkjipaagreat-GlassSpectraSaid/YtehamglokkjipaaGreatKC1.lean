/- Plain tools: loops that search; rows of bools and numbers. -/
import Derived.Test.YtehamglokkjipaaGreatKP1
namespace Go.AM
variable {α : Type}
set_option linter.unusedVariables false
set_option linter.unusedSimpArgs false
def orK {B : Type} (o : Option B) (y : B → Option α) (n : Option α) : Option α := match o with | some b => y b | none => n
@[simp] theorem orK_some {B : Type} {b : B} {y : B → Option α} {n : Option α} : orK (some b) y n = y b := rfl
@[simp] theorem orK_none {B : Type} {y : B → Option α} {n : Option α} : orK (none : Option B) y n = n := rfl
theorem loopF {σ : Type} {R : Nat → Int → σ → Option α} {N : Nat} {st : Nat → σ} {fin : Option α} 
    (hs : ∀ (n i : Nat), i < N → R (n + 1) (i : Int) (st i) = R n ((i + 1 : Nat) : Int) (st (i + 1))) (he : ∀ n : Nat, R (n + 1) ((N : Nat) : Int) (st N) = fin) :
    ∀ (m i n : Nat), i + m = N → m < n → R n (i : Int) (st i) = fin := by
  intro m
  induction m with
  | zero =>
    intro i n h1 h2
    obtain ⟨n, rfl⟩ : ∃ k, n = k + 1 := ⟨n - 1, by omega⟩
    have : i = N := by omega
    subst this
    exact he n
  | succ m ih =>
    intro i n h1 h2
    obtain ⟨n, rfl⟩ : ∃ k, n = k + 1 := ⟨n - 1, by omega⟩
    rw [hs n i (by omega)]
    exact ih (i + 1) n (by omega) (by omega)
theorem loopF0 {σ : Type} {R : Nat → Int → σ → Option α} {N : Nat} {st : Nat → σ} {fin : Option α} (hN : N < 9223372036854775807)
    (hs : ∀ (n i : Nat), i < N → R (n + 1) (i : Int) (st i) = R n ((i + 1 : Nat) : Int) (st (i + 1))) (he : ∀ n : Nat, R (n + 1) ((N : Nat) : Int) (st N) = fin) :
    R fuel 0 (st 0) = fin := by
  have := fuel_ge
  exact loopF hs he N 0 fuel (by omega) (by omega)
abbrev Rule := Int × Bool × Int × Bool
theorem gD {A : Type} {l : List A} {i : Nat} {d : A} (h : i < l.length) : l.getD i d = l[i]'h := by
  simp [List.getD_eq_getElem?_getD, h]
def r0 : Rule := (0, false, 0, false)
theorem gK_ap0 {A : Type} {enc : A → List DC} {n b : Nat} (h : ∀ a, (enc a).length = n) {l : List A} (h1 : l.length * b ≤ 140737488355328) (h2 : l.length ≤ 9223372036854775807) {x : Option α} : gK (apOk n b ([] : Rows) (l.map enc)) x = x := by
  rw [apOk_of h (by simpa using h1) (by simpa using h2)]; rfl
end Go.AM
