/- Plain rules: conditions, numbers. -/
import Derived.Test.YtnhkllkecbmchaaGreatDoorKMa
import Derived.IntWalk
namespace Go.AM
variable {α : Type}
@[simp] theorem cK_true {x y : Option α} : cK true x y = x := rfl
@[simp] theorem cK_false {x y : Option α} : cK false x y = y := rfl
@[simp] theorem gK_true {x : Option α} : gK true x = x := rfl
theorem cK_dec {p : Prop} [Decidable p] {x y : Option α} : cK (decide p) x y = if p then x else y := by by_cases h : p <;> simp [h]
theorem cK_ndec {p : Prop} [Decidable p] {x y : Option α} : cK (!decide p) x y = if p then y else x := by by_cases h : p <;> simp [h]
theorem cK_if {b : Bool} {x y : Option α} : cK b x y = if b = true then x else y := by cases b <;> rfl
theorem gK_of {b : Bool} {x : Option α} (h : b = true) : gK b x = x := by rw [h]; rfl
theorem cK_and {a b : Bool} {β : Type} {k : Bool → Option β} : cK a (k b) (k false) = k (a && b) := by cases a <;> rfl
theorem cK_or {a b : Bool} {β : Type} {k : Bool → Option β} : cK a (k true) (k b) = k (a || b) := by cases a <;> rfl
theorem w64_in {n : Int} (h1 : -9223372036854775808 ≤ n) (h2 : n ≤ 9223372036854775807) : w64 n = n := IntWalk.i64_in n (by omega)
def cdv (n d : Int) : Int := -((-n) / d)
theorem tdiv_pos {n d : Int} (hn : 0 ≤ n) : Int.tdiv n d = n / d := Int.tdiv_eq_ediv_of_nonneg hn
theorem up_cdv {n d : Int} (hd : 0 < d) : (n + d - 1) / d = cdv n d := by
  unfold cdv
  have h1 := Int.emod_add_mul_ediv (n + d - 1) d
  have h2 := Int.emod_nonneg (n + d - 1) (Int.ne_of_gt hd)
  have h3 := Int.emod_lt_of_pos (n + d - 1) hd
  have h4 := Int.emod_add_mul_ediv (-n) d
  have h5 := Int.emod_nonneg (-n) (Int.ne_of_gt hd)
  have h6 := Int.emod_lt_of_pos (-n) hd
  generalize (n + d - 1) / d = a at *
  generalize (-n) / d = b at *
  generalize (n + d - 1) % d = r at *
  generalize (-n) % d = s at *
  have h7 : d * (a + b) = d - 1 - r - s := by rw [Int.mul_add]; omega
  have h8 : a + b < 1 := by
    by_cases h : a + b < 1
    · exact h
    · have : d * 1 ≤ d * (a + b) := Int.mul_le_mul_of_nonneg_left (by omega) (by omega)
      omega
  have h9 : -1 < a + b := by
    by_cases h : -1 < a + b
    · exact h
    · have : d * (a + b) ≤ d * (-1) := Int.mul_le_mul_of_nonneg_left (by omega) (by omega)
      omega
  omega
end Go.AM
namespace Go.AM
variable {α : Type}
theorem rowK_get {rows : Rows} {i : Nat} {r : List DC} {sh : List Sh} {f : Cur sh (Option α)} (h : rows[i]? = some r) : rowK rows (i : Int) sh f = shC sh r f := by
  simp [rowK, h]
abbrev rI1 (a : Int) : List DC := [.v (.int .i64 a)]
theorem rowK_I {l : List Int} {i : Nat} {f : Int → Option α} (h : i < l.length) : rowK (l.map rI1) (i : Int) [.int .i64] f = f (l[i]'h) :=
  (rowK_get (sh := [.int .i64]) (f := f) (r := rI1 (l[i]'h)) (by simp [h])).trans rfl
end Go.AM
namespace Go.AM
variable {α : Type}
def runL {A σ : Type} (step : A → σ → (σ → Option α) → Option α) (fin : σ → Option α) : List A → σ → Option α
  | [], s => fin s
  | a :: r, s => step a s (runL step fin r)
theorem loop_list {A σ : Type} {l : List A} {R : Nat → Int → σ → Option α} {step : A → σ → (σ → Option α) → Option α} {fin : σ → Option α}
    (hs : ∀ (n i : Nat) (h : i < l.length) (s : σ), R (n + 1) (i : Int) s = step (l[i]'h) s (fun s' => R n ((i + 1 : Nat) : Int) s')) (he : ∀ (n : Nat) (s : σ), R (n + 1) ((l.length : Nat) : Int) s = fin s) :
    ∀ (m i n : Nat) (s : σ), i + m = l.length → m < n → R n (i : Int) s = runL step fin (l.drop i) s := by
  intro m
  induction m with
  | zero =>
    intro i n s h1 h2
    obtain ⟨n, rfl⟩ : ∃ k, n = k + 1 := ⟨n - 1, by omega⟩
    rw [List.drop_eq_nil_of_le (by omega)]
    have : i = l.length := by omega
    subst this
    exact he n s
  | succ m ih =>
    intro i n s h1 h2
    obtain ⟨n, rfl⟩ : ∃ k, n = k + 1 := ⟨n - 1, by omega⟩
    have hi : i < l.length := by omega
    rw [hs n i hi s, List.drop_eq_getElem_cons hi]
    simp only [runL]
    congr 1
    funext s'
    exact ih (i + 1) n s' (by omega) (by omega)
theorem loop_list0 {A σ : Type} {l : List A} {R : Nat → Int → σ → Option α} {step : A → σ → (σ → Option α) → Option α} {fin : σ → Option α} {s : σ} (hl : l.length < 9223372036854775807)
    (hs : ∀ (n i : Nat) (h : i < l.length) (s : σ), R (n + 1) (i : Int) s = step (l[i]'h) s (fun s' => R n ((i + 1 : Nat) : Int) s')) (he : ∀ (n : Nat) (s : σ), R (n + 1) ((l.length : Nat) : Int) s = fin s) : R fuel 0 s = runL step fin l s := by
  have := fuel_ge
  exact loop_list hs he l.length 0 fuel s (by omega) (by omega)
theorem w64_nat {i N : Nat} (h : i < N) (hN : N < 9223372036854775807) : w64 ((i : Int) + 1) = ((i + 1 : Nat) : Int) := by
  rw [w64_in (by omega) (by omega)]; rfl
abbrev rI2 (a : Int × Int) : List DC := [.v (.int .i64 a.1), .v (.int .i64 a.2)]
abbrev rI3 (a : Int × Int × Int) : List DC := [.v (.int .i64 a.1), .v (.int .i64 a.2.1), .v (.int .i64 a.2.2)]
theorem rowK_I2 {l : List (Int × Int)} {i : Nat} {f : Int → Int → Option α} (h : i < l.length) : rowK (l.map rI2) (i : Int) [.int .i64, .int .i64] f = f (l[i]'h).1 (l[i]'h).2 :=
  (rowK_get (sh := [.int .i64, .int .i64]) (f := f) (r := rI2 (l[i]'h)) (by simp [h])).trans rfl
theorem rowK_I3 {l : List (Int × Int × Int)} {i : Nat} {f : Int → Int → Int → Option α} (h : i < l.length) : rowK (l.map rI3) (i : Int) [.int .i64, .int .i64, .int .i64] f = f (l[i]'h).1 (l[i]'h).2.1 (l[i]'h).2.2 :=
  (rowK_get (sh := [.int .i64, .int .i64, .int .i64]) (f := f) (r := rI3 (l[i]'h)) (by simp [h])).trans rfl
theorem allLen_map {A : Type} {enc : A → List DC} {n : Nat} (h : ∀ a, (enc a).length = n) (l : List A) : allLen n (l.map enc) = true := by
  simp [allLen, h]
theorem apOk_of {A : Type} {enc : A → List DC} {n b : Nat} (h : ∀ a, (enc a).length = n) {rows : Rows} {l : List A} (h1 : (rows.length + l.length) * b ≤ 140737488355328) (h2 : rows.length + l.length ≤ 9223372036854775807) : apOk n b rows (l.map enc) = true := by
  simp only [apOk, allLen_map h, List.length_map]
  exact decide_eq_true ⟨trivial, h1, h2⟩
theorem flatK_map {A : Type} {enc : A → List DC} (h : ∀ a, (enc a).all (fun d => !viewD d) = true) {l : List A} {x : Option α} : flatK [l.map enc] x = x := by
  have : flatRows (l.map enc) = true := by simp only [flatRows, List.all_map]; exact List.all_eq_true.2 fun a _ => h a
  simp [flatK, this]
end Go.AM
