/- Plain rules: conditions, numbers. -/
import Derived.Test.YtcidonjhifjpaaaKM7
import Derived.IntWalk
namespace Go.AM
variable {α : Type}

@[simp] theorem cK_true {x y : Option α} : cK true x y = x := rfl
@[simp] theorem cK_false {x y : Option α} : cK false x y = y := rfl
@[simp] theorem gK_true {x : Option α} : gK true x = x := rfl
theorem cK_dec {p : Prop} [Decidable p] {x y : Option α} : cK (decide p) x y = if p then x else y := by by_cases h : p <;> simp [h]
theorem cK_ndec {p : Prop} [Decidable p] {x y : Option α} : cK (!decide p) x y = if p then y else x := by by_cases h : p <;> simp [h]
theorem cK_if {b : Bool} {x y : Option α} : cK b x y = if b = true then x else y := by cases b <;> rfl
theorem gK_of {b : Bool} {x : Option α} (h : b = true) : gK b x = x := by rw [h]; rfl
theorem cK_and {a b : Bool} {β : Type} {k : Bool → Option β} : cK a (k b) (k false) = k (a && b) := by cases a <;> rfl
theorem cK_or {a b : Bool} {β : Type} {k : Bool → Option β} : cK a (k true) (k b) = k (a || b) := by cases a <;> rfl

theorem w64_in {n : Int} (h1 : -9223372036854775808 ≤ n) (h2 : n ≤ 9223372036854775807) : w64 n = n := IntWalk.i64_in n (by omega)

/-- Rounded up, rounded down. -/
def cdv (n d : Int) : Int := -((-n) / d)

theorem tdiv_pos {n d : Int} (hn : 0 ≤ n) : Int.tdiv n d = n / d := Int.tdiv_eq_ediv_of_nonneg hn
theorem up_cdv {n d : Int} (hd : 0 < d) : (n + d - 1) / d = cdv n d := by
  unfold cdv
  have h1 := Int.emod_add_mul_ediv (n + d - 1) d
  have h2 := Int.emod_nonneg (n + d - 1) (Int.ne_of_gt hd)
  have h3 := Int.emod_lt_of_pos (n + d - 1) hd
  have h4 := Int.emod_add_mul_ediv (-n) d
  have h5 := Int.emod_nonneg (-n) (Int.ne_of_gt hd)
  have h6 := Int.emod_lt_of_pos (-n) hd
  generalize (n + d - 1) / d = a at *
  generalize (-n) / d = b at *
  generalize (n + d - 1) % d = r at *
  generalize (-n) % d = s at *
  have h7 : d * (a + b) = d - 1 - r - s := by rw [Int.mul_add]; omega
  have h8 : a + b < 1 := by
    by_cases h : a + b < 1
    · exact h
    · have : d * 1 ≤ d * (a + b) := Int.mul_le_mul_of_nonneg_left (by omega) (by omega)
      omega
  have h9 : -1 < a + b := by
    by_cases h : -1 < a + b
    · exact h
    · have : d * (a + b) ≤ d * (-1) := Int.mul_le_mul_of_nonneg_left (by omega) (by omega)
      omega
  omega

end Go.AM
namespace Go.AM
variable {α : Type}
theorem rowK_get {rows : Rows} {i : Nat} {r : List DC} {sh : List Sh} {f : Cur sh (Option α)} (h : rows[i]? = some r) : rowK rows (i : Int) sh f = shC sh r f := by
  simp [rowK, h]

/-- Rows of numbers. -/
abbrev rI1 (a : Int) : List DC := [.v (.int .i64 a)]
theorem rowK_I {l : List Int} {i : Nat} {f : Int → Option α} (h : i < l.length) : rowK (l.map rI1) (i : Int) [.int .i64] f = f (l[i]'h) :=
  (rowK_get (sh := [.int .i64]) (f := f) (r := rI1 (l[i]'h)) (by simp [h])).trans rfl
end Go.AM
