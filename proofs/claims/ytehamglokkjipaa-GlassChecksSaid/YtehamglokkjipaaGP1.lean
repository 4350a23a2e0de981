/- Chapter 2: quotients, great products, comparisons of fractions, roots. -/
import Derived.Test.YtehamglokkjipaaKT
import Derived.Test.YtehamglokkjipaaKP1
namespace Go.AM.K
set_option linter.unusedVariables false
set_option linter.unusedSimpArgs false
variable {α : Type}
theorem flr_core {n d : Int} (hd : 0 < d) (hd2 : d ≤ 9223372036854775807) (hn : -9223372036854775807 ≤ n) (hn2 : n ≤ 9223372036854775807) {k : Int → Option α} :
    (gK (d != 0) (gK (d != 0) (cK (decide ((Int.tmod n d) < 0)) (k (w64 ((w64 (Int.tdiv n d)) - 1))) (k (w64 (Int.tdiv n d)))))) = k (n / d) := by
  have h0 : (d != 0) = true := by simp; omega
  simp only [gK_of h0, cK_dec]
  have hm := Int.emod_add_mul_ediv n d
  have e1 := Int.emod_nonneg n (Int.ne_of_gt hd)
  have e2 := Int.emod_lt_of_pos n hd
  have e3 := Int.tmod_add_mul_tdiv n d
  by_cases hp : 0 ≤ n
  · have q1 : Int.tdiv n d = n / d := Int.tdiv_eq_ediv_of_nonneg hp
    have q2 : 0 ≤ n / d := Int.ediv_nonneg hp (by omega)
    have q3 : n / d ≤ n := Int.ediv_le_self _ hp
    rw [if_neg (by rw [Int.tmod_eq_emod_of_nonneg hp]; omega), q1, w64_in (by omega) (by omega)]
  · have t1 : Int.tdiv n d = -((-n) / d) := by
      rw [show n = -(-n) by omega, Int.neg_tdiv, Int.tdiv_eq_ediv_of_nonneg (by omega), Int.neg_neg]
    have t2 : Int.tmod n d = -((-n) % d) := by
      rw [show n = -(-n) by omega, Int.neg_tmod, Int.tmod_eq_emod_of_nonneg (by omega), Int.neg_neg]
    have q2 : 0 ≤ (-n) / d := Int.ediv_nonneg (by omega) (by omega)
    have q3 : (-n) / d ≤ -n := Int.ediv_le_self _ (by omega)
    have m1 := Int.emod_nonneg (-n) (Int.ne_of_gt hd)
    have m2 := Int.emod_lt_of_pos (-n) hd
    have m3 := Int.emod_add_mul_ediv (-n) d
    rw [t1, t2]
    generalize (-n) / d = q at *
    generalize (-n) % d = r at *
    rw [w64_in (n := -q) (by omega) (by omega), w64_in (n := -q - 1) (by omega) (by omega)]
    by_cases hr : r = 0
    · rw [if_neg (by omega)]
      congr 1
      have := (Int.ediv_emod_unique (a := n) (q := -q) (r := 0) hd).2 ⟨by rw [Int.mul_neg]; omega, by omega, hd⟩
      exact this.1.symm
    · rw [if_pos (by omega)]
      congr 1
      have := (Int.ediv_emod_unique (a := n) (q := -q - 1) (r := d - r) hd).2 ⟨by rw [Int.mul_sub, Int.mul_neg]; omega, by omega, by omega⟩
      exact this.1.symm
theorem f61_eq {n d : Int} (hd : 0 < d) (hd2 : d ≤ 9223372036854775807) (hn : -9223372036854775807 ≤ n) (hn2 : n ≤ 9223372036854775807) {k : Int → Option α} : f61_0 α n d k = k (n / d) := flr_core hd hd2 hn hn2
theorem f43_eq {n d : Int} (hd : 0 < d) (hd2 : d ≤ 9223372036854775807) (hn : -9223372036854775807 ≤ n) (hn2 : n ≤ 9223372036854775807) {k : Int → Option α} : f43_0 α n d k = k (n / d) := flr_core hd hd2 hn hn2
theorem div_bd {n d : Int} (hd : 0 < d) (hn : -9223372036854775807 ≤ n) (hn2 : n ≤ 9223372036854775807) : -9223372036854775807 ≤ n / d ∧ n / d ≤ 9223372036854775807 := by
  constructor
  · rw [Int.le_ediv_iff_mul_le hd]
    have : -9223372036854775807 * d ≤ -9223372036854775807 * 1 := Int.mul_le_mul_of_nonpos_left (by omega) (by omega)
    omega
  · have : n / d < 9223372036854775808 := by
      rw [Int.ediv_lt_iff_lt_mul hd]
      have : 9223372036854775808 * 1 ≤ 9223372036854775808 * d := Int.mul_le_mul_of_nonneg_left (by omega) (by omega)
      omega
    omega
theorem f62_eq {n d : Int} (hd : 0 < d) (hd2 : d ≤ 9223372036854775807) (hn : -9223372036854775807 ≤ n) (hn2 : n ≤ 9223372036854775807) {k : Int → Option α} : f62_0 α n d k = k (cdv n d) := by
  simp only [f62_0, f62_0g]
  rw [w64_in (by omega) (by omega), f61_eq hd hd2 (by omega) (by omega)]
  have hb := div_bd (n := 0 - n) hd (by omega) (by omega)
  rw [w64_in (by omega) (by omega)]
  unfold cdv
  rw [show 0 - n = -n by omega] at *
  congr 1; omega
theorem f44_eq {n d : Int} (hd : 0 < d) (hd2 : d ≤ 9223372036854775807) (hn : -9223372036854775807 ≤ n) (hn2 : n ≤ 9223372036854775807) {k : Int → Option α} : f44_0 α n d k = k (cdv n d) := by
  simp only [f44_0, f44_0g]
  rw [w64_in (by omega) (by omega), f43_eq hd hd2 (by omega) (by omega)]
  have hb := div_bd (n := 0 - n) hd (by omega) (by omega)
  rw [w64_in (by omega) (by omega)]
  unfold cdv
  rw [show 0 - n = -n by omega] at *
  congr 1; omega
theorem f39_eq {n d : Int} (hd : 0 < d) (hd2 : d ≤ 9223372036854775807) (hn : -9223372036854775807 ≤ n) (hn2 : n ≤ 9223372036854775807) {k : Int → Int → Option α} : f39_0 α n d k = k (n / d) (cdv n d) := by
  simp only [f39_0, f39_0g]
  rw [f61_eq hd hd2 hn hn2, f62_eq hd hd2 hn hn2]
def inB (n lo hi : Int) : Bool := decide (lo ≤ n) && decide (n ≤ hi)
theorem inB_iff {n lo hi : Int} : inB n lo hi = true ↔ lo ≤ n ∧ n ≤ hi := by simp [inB]
theorem f34_eq {n lo hi : Int} {k : Bool → Option α} : f34_0 α n lo hi k = k (inB n lo hi) := by
  simp only [f34_0, f34_0g, inB]
  cases decide (lo ≤ n) <;> rfl
theorem f16_eq {n lo hi : Int} {k : Bool → Option α} : f16_0 α n lo hi k = k (inB n lo hi) := by
  simp only [f16_0, f16_0g, inB]
  cases decide (lo ≤ n) <;> rfl
theorem f57_eq {n : Int} {k : Bool → Option α} : f57_0 α n k = k (inB n 5000 80000) := f34_eq
theorem f40_eq {n : Int} {k : Bool → Option α} : f40_0 α n k = k (inB n 5000 80000) := f16_eq
theorem R33_eq {l : List Int} (hl : l.length < 9223372036854775807) {y : Option α} {n0 : Int → Bool → Option α} {z : Option α} (hz : ∀ x b, n0 x b = z) : ∀ (m i n : Nat), i + m = l.length → m < n →
    R33_0_0 α (l.map rI1) ((l.length : Nat) : Int) y n0 n (i : Int) = if (l.drop i).all (fun x => inB x 5000 80000) then z else y := by
  intro m
  induction m with
  | zero =>
    intro i n hi hn
    obtain ⟨n, rfl⟩ : ∃ q, n = q + 1 := ⟨n - 1, by omega⟩
    simp only [R33_0_0, S33_0_0, S33_0_0g]
    rw [decide_eq_false (by omega), List.drop_of_length_le (by omega)]
    simp only [cK_false, hz, List.all_nil, if_true]
  | succ m ih =>
    intro i n hi hn
    obtain ⟨n, rfl⟩ : ∃ q, n = q + 1 := ⟨n - 1, by omega⟩
    simp only [R33_0_0, S33_0_0, S33_0_0g]
    rw [decide_eq_true (by omega), cK_true, rowK_I (by omega), f57_eq, w64_nat (by omega : i < l.length) hl, ih (i + 1) n (by omega) (by omega)]
    rw [List.drop_eq_getElem_cons (show i < l.length by omega), List.all_cons]
    cases inB l[i] 5000 80000 <;> rfl
theorem f33_eq {l : List Int} (hl : l.length < 9223372036854775807) {k : Int → Option α} : f33_0 α (l.map rI1) k = if l.all (fun x => inB x 5000 80000) then k 0 else k 2 := by
  simp only [f33_0, f33_0g]
  have := fuel_ge
  have h := R33_eq (α := α) hl (y := k 2) (n0 := fun _ _ => k 0) (z := k 0) (fun _ _ => rfl) l.length 0 fuel (by omega) (by omega)
  rw [List.drop_zero] at h
  rw [List.length_map]
  exact h
theorem wu64m {n : Int} : IntKind.wrap .u64 n = n % 18446744073709551616 := by
  simp [IntKind.wrap, IntKind.signed, IntKind.bits]
theorem wu64 {n : Int} (h1 : 0 ≤ n) (h2 : n < 18446744073709551616) : IntKind.wrap .u64 n = n := by
  rw [wu64m]; exact Int.emod_eq_of_lt h1 h2
theorem and32 {n : Int} (h1 : 0 ≤ n) (h2 : n < 18446744073709551616) : iAnd .u64 n 4294967295 = n % 4294967296 := by
  obtain ⟨m, rfl⟩ := Int.eq_ofNat_of_zero_le h1
  have hm : m < 18446744073709551616 := by omega
  have e : ((BitVec.ofInt 64 (m : Int)) &&& (BitVec.ofInt 64 4294967295)).toNat = m % 4294967296 := by
    rw [BitVec.toNat_and]
    have e1 : (BitVec.ofInt 64 (m : Int)).toNat = m := by
      rw [BitVec.ofInt_natCast, BitVec.toNat_ofNat]
      exact Nat.mod_eq_of_lt hm
    have e2 : (BitVec.ofInt 64 4294967295).toNat = 2 ^ 32 - 1 := by decide
    rw [e1, e2, Nat.and_two_pow_sub_one_eq_mod]
  unfold iAnd
  show IntKind.wrap .u64 (((BitVec.ofInt 64 (m : Int)) &&& (BitVec.ofInt 64 4294967295)).toNat : Int) = _
  rw [e, wu64 (by omega) (by omega)]
  omega
theorem fdiv32 {n : Int} : Int.fdiv n (2 ^ 32) = n / 4294967296 := by
  rw [Int.fdiv_eq_ediv_of_nonneg n (by decide)]
  rfl
theorem mulB {x y A B : Int} (h1 : 0 ≤ x) (h2 : x ≤ A) (h3 : 0 ≤ y) (h4 : y ≤ B) : 0 ≤ x * y ∧ x * y ≤ A * B :=
  ⟨Int.mul_nonneg h1 h3, Int.mul_le_mul h2 h4 h3 (by omega)⟩
theorem f58_eq {x y : Int} (hx : 0 ≤ x) (hx2 : x < 18446744073709551616) (hy : 0 ≤ y) (hy2 : y < 18446744073709551616) {k : Int → Int → Option α} :
    f58_0 α x y k = k (x * y / 18446744073709551616) (x * y % 18446744073709551616) := by
  simp only [f58_0, f58_0g, fdiv32]
  have ex := Int.emod_add_mul_ediv x 4294967296
  have ey := Int.emod_add_mul_ediv y 4294967296
  have x0 := Int.emod_nonneg x (b := 4294967296) (by decide)
  have x1 := Int.emod_lt_of_pos x (b := 4294967296) (by decide)
  have y0 := Int.emod_nonneg y (b := 4294967296) (by decide)
  have y1 := Int.emod_lt_of_pos y (b := 4294967296) (by decide)
  rw [and32 hx hx2, and32 hy hy2]
  have hxh : 0 ≤ x / 4294967296 ∧ x / 4294967296 ≤ 4294967295 := by omega
  have hyh : 0 ≤ y / 4294967296 ∧ y / 4294967296 ≤ 4294967295 := by omega
  have hxy : x * y = (x % 4294967296) * (y % 4294967296) + 4294967296 * ((x / 4294967296) * (y % 4294967296)) + 4294967296 * ((x % 4294967296) * (y / 4294967296)) + 18446744073709551616 * ((x / 4294967296) * (y / 4294967296)) := by
    conv => lhs; rw [← ex, ← ey]
    generalize x % 4294967296 = a
    generalize x / 4294967296 = b
    generalize y % 4294967296 = c
    generalize y / 4294967296 = d
    rw [Int.add_mul, Int.mul_add, Int.mul_add]
    have e1 : a * (4294967296 * d) = 4294967296 * (a * d) := by rw [Int.mul_left_comm]
    have e2 : 4294967296 * b * c = 4294967296 * (b * c) := by rw [Int.mul_assoc]
    have e3 : 4294967296 * b * (4294967296 * d) = 18446744073709551616 * (b * d) := by
      rw [Int.mul_assoc, Int.mul_left_comm b, ← Int.mul_assoc]
      rfl
    rw [e1, e2, e3]
    omega
  have p00 := mulB x0 (show x % 4294967296 ≤ 4294967295 by omega) y0 (show y % 4294967296 ≤ 4294967295 by omega)
  have p10 := mulB hxh.1 hxh.2 y0 (show y % 4294967296 ≤ 4294967295 by omega)
  have p01 := mulB x0 (show x % 4294967296 ≤ 4294967295 by omega) hyh.1 hyh.2
  have p11 := mulB hxh.1 hxh.2 hyh.1 hyh.2
  generalize hA : (x % 4294967296) * (y % 4294967296) = A at *
  generalize hB : (x / 4294967296) * (y % 4294967296) = B at *
  generalize hC : (x % 4294967296) * (y / 4294967296) = C at *
  generalize hD : (x / 4294967296) * (y / 4294967296) = D at *
  rw [wu64 (n := A) (by omega) (by omega), wu64 (n := B) (by omega) (by omega), wu64 (n := C) (by omega) (by omega), wu64 (n := D) (by omega) (by omega)]
  rw [wu64 (n := B + A / 4294967296) (by omega) (by omega)]
  rw [and32 (n := B + A / 4294967296) (by omega) (by omega)]
  rw [wu64 (n := (B + A / 4294967296) % 4294967296 + C) (by omega) (by omega)]
  have e3 := Int.emod_add_mul_ediv (B + A / 4294967296) 4294967296
  have e4 := Int.emod_add_mul_ediv ((B + A / 4294967296) % 4294967296 + C) 4294967296
  have e5 := Int.emod_add_mul_ediv A 4294967296
  have m1 := Int.emod_nonneg A (b := 4294967296) (by decide)
  have m2 := Int.emod_lt_of_pos A (b := 4294967296) (by decide)
  have m3 := Int.emod_nonneg ((B + A / 4294967296) % 4294967296 + C) (b := 4294967296) (by decide)
  have m4 := Int.emod_lt_of_pos ((B + A / 4294967296) % 4294967296 + C) (b := 4294967296) (by decide)
  rw [wu64 (n := D + (B + A / 4294967296) / 4294967296) (by omega) (by omega)]
  have hhi : x * y / 18446744073709551616 = D + (B + A / 4294967296) / 4294967296 + ((B + A / 4294967296) % 4294967296 + C) / 4294967296 := by
    rw [hxy]; omega
  have hle : x * y ≤ 18446744073709551615 * 18446744073709551615 := Int.mul_le_mul (by omega) (by omega) hy (by omega)
  rw [wu64 (n := D + (B + A / 4294967296) / 4294967296 + ((B + A / 4294967296) % 4294967296 + C) / 4294967296) (by omega) (by rw [← hhi]; omega), ← hhi, wu64m]
theorem f37_eq {a b c d : Int} (ha : 0 ≤ a) (ha2 : a ≤ 9223372036854775807) (hb : 0 ≤ b) (hb2 : b ≤ 9223372036854775807) (hc : 0 ≤ c) (hc2 : c ≤ 9223372036854775807) (hd : 0 ≤ d) (hd2 : d ≤ 9223372036854775807) {k : Int → Option α} :
    f37_0 α a b c d k = k (if a * b < c * d then -1 else if c * d < a * b then 1 else 0) := by
  simp only [f37_0, f37_0g]
  rw [wu64 ha (by omega), wu64 hb (by omega), wu64 hc (by omega), wu64 hd (by omega), f58_eq ha (by omega) hb (by omega), f58_eq hc (by omega) hd (by omega)]
  have h60 : ∀ {x y : Int} {k : Int → Option α}, f60_0 α x y k = k (if x < y then -1 else if y < x then 1 else 0) := by
    intro x y k
    simp only [f60_0, f60_0g, f68_0, f68_0g, bne_self_eq_false, cK_false, cK_dec]
    split
    · rfl
    · split <;> rfl
  rw [h60, h60]
  have h59 : ∀ {x y : Int} {k : Int → Option α}, f59_0 α [[DC.v (.int .i64 x)], [DC.v (.int .i64 y)]] k = k (if x ≠ 0 then x else y) := by
    intro x y k
    simp only [f59_0, f59_0g, L59_0_0]
    have hf := fuel_ge
    obtain ⟨m, hm⟩ : ∃ m, fuel = m + 3 := ⟨fuel - 3, by omega⟩
    rw [hm]
    show R59_0_0 α 0 [rI1 x, rI1 y] ((2 : Nat) : Int) (fun x8 => k x8) (fun _ _ => k 0) (m + 3) ((0 : Nat) : Int) = _
    have r0 : ∀ {f : Int → Option α}, rowK [rI1 x, rI1 y] ((0 : Nat) : Int) [.int .i64] f = f x := fun {f} => rowK_I (l := [x, y]) (i := 0) (by simp)
    have r1 : ∀ {f : Int → Option α}, rowK [rI1 x, rI1 y] ((1 : Nat) : Int) [.int .i64] f = f y := fun {f} => rowK_I (l := [x, y]) (i := 1) (by simp)
    simp only [R59_0_0, S59_0_0, S59_0_0g]
    rw [show w64 (((0 : Nat) : Int) + 1) = ((1 : Nat) : Int) by decide, show w64 (((1 : Nat) : Int) + 1) = ((2 : Nat) : Int) by decide]
    rw [r0, r1]
    rw [decide_eq_true (show ((0 : Nat) : Int) < ((2 : Nat) : Int) by decide), decide_eq_true (show ((1 : Nat) : Int) < ((2 : Nat) : Int) by decide), decide_eq_false (show ¬ ((2 : Nat) : Int) < ((2 : Nat) : Int) by decide)]
    simp only [cK_true, cK_false]
    by_cases hx : x = 0
    · subst hx
      simp only [bne_self_eq_false, cK_false, ne_eq, not_true_eq_false, if_false]
      by_cases hy : y = 0
      · subst hy; rfl
      · rw [show (y != 0) = true by simpa using hy]; rfl
    · rw [show (x != 0) = true by simpa using hx]
      simp only [cK_true, ne_eq, hx, not_false_eq_true, if_true]
  rw [h59]
  congr 1
  have e1 := Int.emod_add_mul_ediv (a * b) 18446744073709551616
  have e2 := Int.emod_add_mul_ediv (c * d) 18446744073709551616
  have m1 := Int.emod_nonneg (a * b) (b := 18446744073709551616) (by decide)
  have m2 := Int.emod_lt_of_pos (a * b) (b := 18446744073709551616) (by decide)
  have m3 := Int.emod_nonneg (c * d) (b := 18446744073709551616) (by decide)
  have m4 := Int.emod_lt_of_pos (c * d) (b := 18446744073709551616) (by decide)
  generalize a * b = X at *
  generalize c * d = Y at *
  generalize X / 18446744073709551616 = p at *
  generalize Y / 18446744073709551616 = q at *
  generalize X % 18446744073709551616 = r at *
  generalize Y % 18446744073709551616 = s at *
  by_cases h1 : p < q
  · rw [if_pos h1, if_pos (show X < Y by omega)]; simp
  · by_cases h2 : q < p
    · rw [if_neg h1, if_pos h2, if_neg (show ¬ X < Y by omega), if_pos (show Y < X by omega)]; simp
    · rw [if_neg h1, if_neg h2]
      simp only [ne_eq, not_true_eq_false, if_false]
      by_cases h3 : r < s
      · rw [if_pos h3, if_pos (show X < Y by omega)]
      · rw [if_neg h3, if_neg (show ¬ X < Y by omega)]
        by_cases h4 : s < r
        · rw [if_pos h4, if_pos (show Y < X by omega)]
        · rw [if_neg h4, if_neg (show ¬ Y < X by omega)]
end Go.AM.K
