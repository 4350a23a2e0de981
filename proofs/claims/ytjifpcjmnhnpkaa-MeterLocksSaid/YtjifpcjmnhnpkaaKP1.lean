/- Plain rules: conditions, numbers. -/
import Derived.Test.YtjifpcjmnhnpkaaKMa
import Derived.IntWalk
namespace Go.AM
variable {α : Type}
@[simp] theorem cK_true {x y : Option α} : cK true x y = x := rfl
@[simp] theorem cK_false {x y : Option α} : cK false x y = y := rfl
@[simp] theorem gK_true {x : Option α} : gK true x = x := rfl
theorem cK_dec {p : Prop} [Decidable p] {x y : Option α} : cK (decide p) x y = if p then x else y := by by_cases h : p <;> simp [h]
theorem gK_of {b : Bool} {x : Option α} (h : b = true) : gK b x = x := by rw [h]; rfl
theorem w64_in {n : Int} (h1 : -9223372036854775808 ≤ n) (h2 : n ≤ 9223372036854775807) : w64 n = n := IntWalk.i64_in n (by omega)
def cdv (n d : Int) : Int := -((-n) / d)
end Go.AM
namespace Go.AM
variable {α : Type}
theorem rowK_get {rows : Rows} {i : Nat} {r : List DC} {sh : List Sh} {f : Cur sh (Option α)} (h : rows[i]? = some r) : rowK rows (i : Int) sh f = shC sh r f := by
  simp [rowK, h]
end Go.AM
namespace Go.AM
variable {α : Type}
abbrev rI2 (a : Int × Int) : List DC := [.v (.int .i64 a.1), .v (.int .i64 a.2)]
theorem rowK_I2 {l : List (Int × Int)} {i : Nat} {f : Int → Int → Option α} (h : i < l.length) : rowK (l.map rI2) (i : Int) [.int .i64, .int .i64] f = f (l[i]'h).1 (l[i]'h).2 :=
  (rowK_get (sh := [.int .i64, .int .i64]) (f := f) (r := rI2 (l[i]'h)) (by simp [h])).trans rfl
theorem allLen_map {A : Type} {enc : A → List DC} {n : Nat} (h : ∀ a, (enc a).length = n) (l : List A) : allLen n (l.map enc) = true := by
  simp [allLen, h]
theorem apOk_of {A : Type} {enc : A → List DC} {n b : Nat} (h : ∀ a, (enc a).length = n) {rows : Rows} {l : List A} (h1 : (rows.length + l.length) * b ≤ 140737488355328) (h2 : rows.length + l.length ≤ 9223372036854775807) : apOk n b rows (l.map enc) = true := by
  simp only [apOk, allLen_map h, List.length_map]
  exact decide_eq_true ⟨trivial, h1, h2⟩
end Go.AM
