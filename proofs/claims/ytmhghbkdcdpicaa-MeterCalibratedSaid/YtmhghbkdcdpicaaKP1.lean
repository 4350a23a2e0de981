/- Plain rules: conditions, numbers. -/
import Derived.Test.YtmhghbkdcdpicaaKMa
import Derived.IntWalk
namespace Go.AM
variable {α : Type}
@[simp] theorem cK_true {x y : Option α} : cK true x y = x := rfl
@[simp] theorem cK_false {x y : Option α} : cK false x y = y := rfl
@[simp] theorem gK_true {x : Option α} : gK true x = x := rfl
theorem cK_dec {p : Prop} [Decidable p] {x y : Option α} : cK (decide p) x y = if p then x else y := by by_cases h : p <;> simp [h]
theorem cK_if {b : Bool} {x y : Option α} : cK b x y = if b = true then x else y := by cases b <;> rfl
theorem gK_of {b : Bool} {x : Option α} (h : b = true) : gK b x = x := by rw [h]; rfl
theorem w64_in {n : Int} (h1 : -9223372036854775808 ≤ n) (h2 : n ≤ 9223372036854775807) : w64 n = n := IntWalk.i64_in n (by omega)
def cdv (n d : Int) : Int := -((-n) / d)
end Go.AM
namespace Go.AM
variable {α : Type}
theorem rowK_get {rows : Rows} {i : Nat} {r : List DC} {sh : List Sh} {f : Cur sh (Option α)} (h : rows[i]? = some r) : rowK rows (i : Int) sh f = shC sh r f := by
  simp [rowK, h]
abbrev rI1 (a : Int) : List DC := [.v (.int .i64 a)]
theorem rowK_I {l : List Int} {i : Nat} {f : Int → Option α} (h : i < l.length) : rowK (l.map rI1) (i : Int) [.int .i64] f = f (l[i]'h) :=
  (rowK_get (sh := [.int .i64]) (f := f) (r := rI1 (l[i]'h)) (by simp [h])).trans rfl
end Go.AM
namespace Go.AM
variable {α : Type}
end Go.AM
