/- Texts of one kind, put together. -/
import Derived.Test.YtnhkllkecbmchaaGreatDoorKMa
import Derived.IntWalk
namespace Go.AM
variable {α : Type}
set_option linter.unusedVariables false
set_option linter.unusedSimpArgs false
def orK {B : Type} (o : Option B) (y : B -> Option α) (n : Option α) : Option α := match o with | some b => y b | none => n
@[simp] theorem orK_some {B : Type} {b : B} {y : B -> Option α} {n : Option α} : orK (some b) y n = y b := rfl
@[simp] theorem orK_none {B : Type} {y : B -> Option α} {n : Option α} : orK (none : Option B) y n = n := rfl
abbrev Rule := Int × Bool × Int × Bool
theorem gD {A : Type} {l : List A} {i : Nat} {d : A} (h : i < l.length) : l.getD i d = l[i]'h := by
  simp [List.getD_eq_getElem?_getD, h]
def r0 : Rule := (0, false, 0, false)
end Go.AM

namespace Go.AM
variable {α : Type}
@[simp] theorem cK_true {x y : Option α} : cK true x y = x := rfl
@[simp] theorem cK_false {x y : Option α} : cK false x y = y := rfl
@[simp] theorem gK_true {x : Option α} : gK true x = x := rfl
theorem cK_dec {p : Prop} [Decidable p] {x y : Option α} : cK (decide p) x y = if p then x else y := by by_cases h : p <;> simp [h]
theorem cK_if {b : Bool} {x y : Option α} : cK b x y = if b = true then x else y := by cases b <;> rfl
theorem gK_of {b : Bool} {x : Option α} (h : b = true) : gK b x = x := by rw [h]; rfl
theorem w64_in {n : Int} (h1 : -9223372036854775808 <= n) (h2 : n <= 9223372036854775807) : w64 n = n := IntWalk.i64_in n (by omega)
def cdv (n d : Int) : Int := -((-n) / d)
end Go.AM
namespace Go.AM
variable {α : Type}
theorem rowK_get {rows : Rows} {i : Nat} {r : List DC} {sh : List Sh} {f : Cur sh (Option α)} (h : rows[i]? = some r) : rowK rows (i : Int) sh f = shC sh r f := by
  simp [rowK, h]
abbrev rI1 (a : Int) : List DC := [.v (.int .i64 a)]
theorem rowK_I {l : List Int} {i : Nat} {f : Int -> Option α} (h : i < l.length) : rowK (l.map rI1) (i : Int) [.int .i64] f = f (l[i]'h) :=
  (rowK_get (sh := [.int .i64]) (f := f) (r := rI1 (l[i]'h)) (by simp [h])).trans rfl
end Go.AM
namespace Go.AM
variable {α : Type}
theorem allLen_map {A : Type} {enc : A -> List DC} {n : Nat} (h : ∀ a, (enc a).length = n) (l : List A) : allLen n (l.map enc) = true := by
  simp [allLen, h]
theorem apOk_of {A : Type} {enc : A -> List DC} {n b : Nat} (h : ∀ a, (enc a).length = n) {rows : Rows} {l : List A} (h1 : (rows.length + l.length) * b <= 140737488355328) (h2 : rows.length + l.length <= 9223372036854775807) : apOk n b rows (l.map enc) = true := by
  simp only [apOk, allLen_map h, List.length_map]
  exact decide_eq_true ⟨trivial, h1, h2⟩
theorem flatK_map {A : Type} {enc : A -> List DC} (h : ∀ a, (enc a).all (fun d => !viewD d) = true) {l : List A} {x : Option α} : flatK [l.map enc] x = x := by
  have : flatRows (l.map enc) = true := by simp only [flatRows, List.all_map]; exact List.all_eq_true.2 fun a _ => h a
  simp [flatK, this]
end Go.AM

namespace Go.AM
open Ieee
set_option linter.unusedVariables false
set_option linter.unusedSimpArgs false
def vl : Datum -> Int
  | .number s m i => signed s m (i + 1074).toNat
  | _ => 0
theorem signed_mul (s : Bool) (m a b : Nat) : signed s m (a + b) = signed s m a * ((2 ^ b : Nat) : Int) := by
  have h : m <<< (a + b) = (m <<< a) * 2 ^ b := by simp only [Nat.shiftLeft_eq, Nat.pow_add, Nat.mul_assoc]
  unfold signed
  rw [h]
  cases s
  · simp
  · simp [Int.neg_mul]
theorem cmp_def (a b : Int) : compare a b = if a < b then .lt else if a = b then .eq else .gt := rfl
theorem cmp_mul (a b : Int) {c : Nat} (hc : 0 < c) : compare (a * (c : Int)) (b * (c : Int)) = compare a b := by
  have hc' : (0 : Int) < (c : Int) := by omega
  rw [cmp_def, cmp_def]
  have h1 : a * (c : Int) < b * (c : Int) ↔ a < b := ⟨fun h => Int.lt_of_mul_lt_mul_right h (by omega), fun h => Int.mul_lt_mul_of_pos_right h hc'⟩
  have h2 : a * (c : Int) = b * (c : Int) ↔ a = b := ⟨fun h => Int.eq_of_mul_eq_mul_right (by omega) h, fun h => by rw [h]⟩
  simp only [h1, h2]
theorem order_num {s t : Bool} {m n : Nat} {i j : Int} (hi : -1074 <= i) (hj : -1074 <= j) : (Datum.number s m i).order (.number t n j) = some (compare (vl (.number s m i)) (vl (.number t n j))) := by
  simp only [Datum.order, vl, Option.some.injEq]
  obtain ⟨c, hc⟩ : ∃ c : Nat, min i j + 1074 = (c : Int) := ⟨(min i j + 1074).toNat, by omega⟩
  have e1 : (i + 1074).toNat = (i - min i j).toNat + c := by omega
  have e2 : (j + 1074).toNat = (j - min i j).toNat + c := by omega
  rw [e1, e2, signed_mul, signed_mul, cmp_mul _ _ (Nat.two_pow_pos c)]
theorem read32 {n : Nat} : (∃ s m i, FloatKind.f32.decode n = .number s m i /\ -149 <= i /\ i <= 104 /\ m < 2 ^ 24) \/ (∃ s, FloatKind.f32.decode n = .infinity s) \/ isNaNb .f32 n = true := by
  have h1 : Ieee.single.signWeight = 2147483648 := by decide
  have h2 : Ieee.single.binade = 8388608 := by decide
  have h3 : Ieee.single.infRung = 2139095040 := by decide
  have h4 : Ieee.single.leastPlace = -149 := by decide
  rw [isNaNb_iff]
  simp only [FloatKind.decode, FloatKind.format, Ieee.Format.read, h1, h2, h3, h4]
  split
  · exact .inl ⟨_, _, _, rfl, by omega, by omega, by omega⟩
  · split
    · exact .inl ⟨_, _, _, rfl, by omega, by omega, by omega⟩
    · split
      · exact .inr (.inl ⟨_, rfl⟩)
      · exact .inr (.inr ⟨_, _, rfl⟩)
theorem log2_bd {m : Nat} (h : m ≠ 0) : 2 ^ m.log2 <= m /\ m < 2 ^ (m.log2 + 1) := ⟨Nat.log2_self_le h, Nat.lt_log2_self⟩
theorem cut0 (s : Bool) (n : Nat) : Toward.even.cut s n 0 = n := by
  simp [Toward.cut, Nat.mod_one]
end Go.AM

namespace Go.AM
open Ieee
set_option linter.unusedVariables false
set_option linter.unusedSimpArgs false
def eU : Nat := 1074
theorem eU_def : eU = 1074 := rfl
def UU : Nat := 2 ^ eU
theorem UU_pos : 0 < UU := Nat.two_pow_pos eU
def sgn (s : Bool) (a : Nat) : Int := if s then -(a : Int) else (a : Int)
theorem signed_eq (s : Bool) (m k : Nat) : signed s m k = sgn s (m * 2 ^ k) := by
  unfold signed sgn; rw [Nat.shiftLeft_eq]
theorem sgn_abs (s : Bool) (a : Nat) : (sgn s a).natAbs = a := by cases s <;> simp [sgn]
theorem sgn_mul (s : Bool) (a b : Nat) : sgn s (a * b) = sgn s a * (b : Int) := by cases s <;> simp [sgn, Int.neg_mul]
def qt (m : Nat) (i : Int) : Nat := Toward.zero.cut false (m <<< i.toNat) (-i).toNat
theorem cutZ (s : Bool) (n d : Nat) : Toward.zero.cut s n d = n / (1 <<< min d (n.log2 + 2)) := by simp [Toward.cut]
theorem qt_eq {m : Nat} {i : Int} (hi : -1074 <= i) : qt m i = m * 2 ^ (i + 1074).toNat / UU := by
  unfold qt UU
  rw [cutZ]
  by_cases h : 0 <= i
  · rw [show (-i).toNat = 0 by omega, Nat.min_eq_left (Nat.zero_le _), Nat.shiftLeft_zero, Nat.div_one, Nat.shiftLeft_eq, show (i + 1074).toNat = i.toNat + eU by (have := eU_def; omega), Nat.pow_add, <- Nat.mul_assoc, Nat.mul_div_cancel _ (Nat.two_pow_pos _)]
  · rw [show i.toNat = 0 by omega, Nat.shiftLeft_zero, Nat.shiftLeft_eq, Nat.one_mul]
    have e : m * 2 ^ (i + 1074).toNat / 2 ^ eU = m / 2 ^ (-i).toNat := by
      rw [show eU = (-i).toNat + (i + 1074).toNat by (have := eU_def; omega), Nat.pow_add, Nat.mul_div_mul_right _ _ (Nat.two_pow_pos _)]
    rw [e]
    by_cases h2 : (-i).toNat <= m.log2 + 2
    · rw [Nat.min_eq_left h2]
    · rw [Nat.min_eq_right (by omega)]
      have hm : m < 2 ^ (m.log2 + 1) := by
        by_cases h0 : m = 0
        · subst h0; exact Nat.two_pow_pos _
        · exact Nat.lt_log2_self
      rw [Nat.div_eq_of_lt (Nat.lt_of_lt_of_le hm (Nat.pow_le_pow_right (by decide) (by omega))), Nat.div_eq_of_lt (Nat.lt_of_lt_of_le hm (Nat.pow_le_pow_right (by decide) (by omega)))]
theorem cutZs (s : Bool) (n d : Nat) : Toward.zero.cut s n d = Toward.zero.cut false n d := by rw [cutZ, cutZ]
theorem vl_abs {s : Bool} {m : Nat} {i : Int} : vl (.number s m i) = sgn s (m * 2 ^ (i + 1074).toNat) := by simp only [vl, signed_eq]
theorem k0 : ∃ m i, FloatKind.f64.decode 0 = .number false m i /\ -1074 <= i /\ vl (.number false m i) = 0 := ⟨0, -1074, by decide, by omega, by decide⟩
end Go.AM

namespace Go.AM
open Ieee
set_option linter.unusedVariables false
set_option linter.unusedSimpArgs false
end Go.AM

namespace Go.AM
open Ieee
set_option linter.unusedVariables false
set_option linter.unusedSimpArgs false
theorem cut_bd (s : Bool) (n d : Nat) : n / (1 <<< min d (n.log2 + 2)) <= Toward.even.cut s n d /\ Toward.even.cut s n d <= n / (1 <<< min d (n.log2 + 2)) + 1 := by
  simp only [Toward.cut]
  constructor
  · exact Nat.le_add_right _ _
  · refine Nat.add_le_add_left ?_ _
    exact Bool.toNat_le _
end Go.AM

namespace Go.AM
open Ieee
end Go.AM

namespace Go.AM
open Ieee
set_option linter.unusedVariables false
set_option linter.unusedSimpArgs false
end Go.AM

namespace Go.AM
open Ieee
set_option linter.unusedVariables false
set_option linter.unusedSimpArgs false
theorem mulU_lt {a b : Int} : a * (UU : Int) < b * (UU : Int) ↔ a < b := by
  have hU : (0 : Int) < (UU : Int) := by have := UU_pos; omega
  exact ⟨fun h => Int.lt_of_mul_lt_mul_right h (by omega), fun h => Int.mul_lt_mul_of_pos_right h hU⟩
end Go.AM

namespace Go.AM
open Ieee
set_option linter.unusedVariables false
set_option linter.unusedSimpArgs false
theorem read_wordS (s : Bool) {q K : Nat} (hq : q <= 253) (h1 : 8388608 <= K) (h2 : K < 16777216) : Ieee.single.read (Ieee.single.word s (q * 8388608 + K)) = .number s K (-149 + (q : Int)) := by
  have e1 : Ieee.single.signWeight = 2147483648 := by decide
  have e2 : Ieee.single.binade = 8388608 := by decide
  have e3 : Ieee.single.infRung = 2139095040 := by decide
  have e4 : Ieee.single.leastPlace = -149 := by decide
  simp only [Ieee.Format.read, Ieee.Format.word, e1, e2, e3, e4]
  have hm : (if s = true then 2147483648 + (q * 8388608 + K) else q * 8388608 + K) % 2147483648 = q * 8388608 + K := by
    cases s <;> simp <;> omega
  have hs : ((if s = true then 2147483648 + (q * 8388608 + K) else q * 8388608 + K) / 2147483648 % 2 == 1) = s := by
    cases s
    · simp; omega
    · simp; omega
  rw [hm, hs, if_neg (by omega), if_pos (by omega)]
  have a1 : 8388608 + (q * 8388608 + K) % 8388608 = K := by omega
  have a2 : (q * 8388608 + K) / 8388608 - 1 = q := by omega
  rw [a1, a2]
theorem exactLoS {s : Bool} {m : Nat} {p : Int} (h0 : m ≠ 0) (hL : m.log2 <= 23) (h1 : -149 <= p + m.log2 - 23) (h2 : p + m.log2 <= 127) :
    FloatKind.f32.decode (FloatKind.f32.encode (.number s m p)) = .number s (m * 2 ^ (23 - m.log2)) (p + m.log2 - 23) := by
  obtain ⟨b1, b2⟩ := log2_bd h0
  have e1 : Ieee.single.fractionBits = 23 := rfl
  have e2 : Ieee.single.binade = 8388608 := by decide
  have e3 : Ieee.single.infRung = 2139095040 := by decide
  have e4 : Ieee.single.leastPlace = -149 := by decide
  obtain ⟨q, hq⟩ : ∃ q : Nat, p + m.log2 - 23 = -149 + (q : Int) := ⟨(p + m.log2 - 23 + 149).toNat, by omega⟩
  have hK1 : 8388608 <= m * 2 ^ (23 - m.log2) := by
    have : 2 ^ m.log2 * 2 ^ (23 - m.log2) <= m * 2 ^ (23 - m.log2) := Nat.mul_le_mul_right _ b1
    rw [<- Nat.pow_add, show m.log2 + (23 - m.log2) = 23 by omega] at this
    exact this
  have hK2 : m * 2 ^ (23 - m.log2) < 16777216 := by
    have : m * 2 ^ (23 - m.log2) < 2 ^ (m.log2 + 1) * 2 ^ (23 - m.log2) := Nat.mul_lt_mul_of_pos_right b2 (Nat.two_pow_pos _)
    rw [<- Nat.pow_add, show m.log2 + 1 + (23 - m.log2) = 24 by omega] at this
    exact this
  show Ieee.single.read (Ieee.single.nearest s m p) = _
  unfold Ieee.Format.nearest
  rw [if_neg h0]
  simp only [e1, e2, e3, e4]
  have hlast : max (p + (m.log2 : Int) - ((23 : Nat) : Int)) (-149) = -149 + (q : Int) := by omega
  rw [hlast, show (-149 + (q : Int) - p).toNat = 0 by omega, cut0, show (p - (-149 + (q : Int))).toNat = 23 - m.log2 by omega, Nat.shiftLeft_eq, show (-149 + (q : Int) - -149).toNat = q by omega, Nat.min_eq_left (by omega), read_wordS s (by omega) hK1 hK2, hq]
theorem exactHiS {s : Bool} {m : Nat} {p : Int} (hL : 23 < m.log2) (hd : m % 2 ^ (m.log2 - 23) = 0) (h1 : -149 <= p + m.log2 - 23) (h2 : p + m.log2 <= 127) :
    FloatKind.f32.decode (FloatKind.f32.encode (.number s m p)) = .number s (m / 2 ^ (m.log2 - 23)) (p + m.log2 - 23) := by
  have h0 : m ≠ 0 := by rintro rfl; simp at hL
  obtain ⟨b1, b2⟩ := log2_bd h0
  have e1 : Ieee.single.fractionBits = 23 := rfl
  have e2 : Ieee.single.binade = 8388608 := by decide
  have e3 : Ieee.single.infRung = 2139095040 := by decide
  have e4 : Ieee.single.leastPlace = -149 := by decide
  obtain ⟨q, hq⟩ : ∃ q : Nat, p + m.log2 - 23 = -149 + (q : Int) := ⟨(p + m.log2 - 23 + 149).toNat, by omega⟩
  have hpos := Nat.two_pow_pos (m.log2 - 23)
  have hmk : m = m / 2 ^ (m.log2 - 23) * 2 ^ (m.log2 - 23) := by have := Nat.div_add_mod m (2 ^ (m.log2 - 23)); rw [hd] at this; rw [Nat.mul_comm] at this; omega
  have hK1 : 8388608 <= m / 2 ^ (m.log2 - 23) := by
    rw [Nat.le_div_iff_mul_le hpos, show 8388608 = 2 ^ 23 by decide, <- Nat.pow_add, show 23 + (m.log2 - 23) = m.log2 by omega]; exact b1
  have hK2 : m / 2 ^ (m.log2 - 23) < 16777216 := by
    rw [Nat.div_lt_iff_lt_mul hpos, show 16777216 = 2 ^ 24 by decide, <- Nat.pow_add, show 24 + (m.log2 - 23) = m.log2 + 1 by omega]; exact b2
  show Ieee.single.read (Ieee.single.nearest s m p) = _
  unfold Ieee.Format.nearest
  rw [if_neg h0]
  simp only [e1, e2, e3, e4]
  have hlast : max (p + (m.log2 : Int) - ((23 : Nat) : Int)) (-149) = -149 + (q : Int) := by omega
  have hcut : Toward.even.cut s m (m.log2 - 23) = m / 2 ^ (m.log2 - 23) := by
    unfold Toward.cut
    have hg : 1 <<< min (m.log2 - 23) (m.log2 + 2) = 2 ^ (m.log2 - 23) := by rw [Nat.min_eq_left (by omega), Nat.shiftLeft_eq, Nat.one_mul]
    simp only [hg, hd, Nat.mul_zero, Nat.not_lt_zero, decide_false, Bool.false_or]
    have : (2 ^ (m.log2 - 23) == 0) = false := by rw [beq_eq_false_iff_ne]; omega
    rw [this]; rfl
  rw [hlast, show (-149 + (q : Int) - p).toNat = m.log2 - 23 by omega, show (p - (-149 + (q : Int))).toNat = 0 by omega, Nat.shiftLeft_zero, hcut, show (-149 + (q : Int) - -149).toNat = q by omega, Nat.min_eq_left (by omega), read_wordS s (by omega) hK1 hK2, hq]
theorem encode0S {s : Bool} {p : Int} : FloatKind.f32.decode (FloatKind.f32.encode (.number s 0 p)) = .number s 0 (-149) := by
  have e : FloatKind.f32.encode (.number s 0 p) = Ieee.single.word s 0 := by
    show Ieee.single.nearest s 0 p = _
    unfold Ieee.Format.nearest
    rw [if_pos rfl]
  rw [e]
  cases s <;> decide
theorem whole_encS (s : Bool) (q : Nat) (h : q.log2 <= 23 \/ q % 2 ^ (q.log2 - 23) = 0) (h2 : q.log2 <= 127) : ∃ t m i, FloatKind.f32.decode (FloatKind.f32.encode (.number s q 0)) = .number t m i /\ -149 <= i /\ vl (.number t m i) = sgn s q * (UU : Int) := by
  by_cases h0 : q = 0
  · subst h0
    refine ⟨s, 0, -149, encode0S, by omega, ?_⟩
    simp only [vl, signed_eq, Nat.zero_mul]
    cases s <;> simp [sgn]
  · by_cases hL : q.log2 <= 23
    · refine ⟨_, _, _, exactLoS h0 hL (by omega) (by omega), by omega, ?_⟩
      simp only [vl, signed_eq]
      rw [Nat.mul_assoc, <- Nat.pow_add, show 23 - q.log2 + ((0 : Int) + q.log2 - 23 + 1074).toNat = eU by (have := eU_def; omega), <- sgn_mul]
      rfl
    · have hd : q % 2 ^ (q.log2 - 23) = 0 := by rcases h with h | h; omega; exact h
      have hpos := Nat.two_pow_pos (q.log2 - 23)
      refine ⟨_, _, _, exactHiS (by omega) hd (by omega) (by omega), by omega, ?_⟩
      simp only [vl, signed_eq]
      have e : ((0 : Int) + q.log2 - 23 + 1074).toNat = (q.log2 - 23) + eU := by have := eU_def; omega
      rw [e, Nat.pow_add, <- Nat.mul_assoc, Nat.div_mul_cancel (Nat.dvd_of_mod_eq_zero hd), <- sgn_mul]
      rfl
theorem qt_exactS {m : Nat} {i : Int} (hi : -149 <= i) (hi2 : i <= 104) (hm : m < 2 ^ 24) : ((qt m i).log2 <= 23 \/ qt m i % 2 ^ ((qt m i).log2 - 23) = 0) /\ (qt m i).log2 <= 127 := by
  by_cases h0 : qt m i = 0
  · rw [h0]; simp
  by_cases h : 0 <= i
  · have e : qt m i = m * 2 ^ i.toNat := by
      unfold qt
      rw [cutZ, show (-i).toNat = 0 by omega, Nat.min_eq_left (Nat.zero_le _), Nat.shiftLeft_zero, Nat.div_one, Nat.shiftLeft_eq]
    have hlt : qt m i < 2 ^ (24 + i.toNat) := by
      rw [e, Nat.pow_add]; exact Nat.mul_lt_mul_of_pos_right hm (Nat.two_pow_pos _)
    have hl : (qt m i).log2 < 24 + i.toNat := (Nat.log2_lt h0).2 hlt
    refine ⟨?_, by omega⟩
    by_cases hL : (qt m i).log2 <= 23
    · exact .inl hL
    · refine .inr (Nat.mod_eq_zero_of_dvd ?_)
      have hd : 2 ^ ((qt m i).log2 - 23) ∣ 2 ^ i.toNat := Nat.pow_dvd_pow 2 (by omega)
      have : 2 ^ i.toNat ∣ qt m i := by rw [e]; exact Nat.dvd_mul_left _ _
      exact Nat.dvd_trans hd this
  · have hle : qt m i <= m := by
      unfold qt
      rw [cutZ, show i.toNat = 0 by omega, Nat.shiftLeft_zero]
      exact Nat.div_le_self _ _
    have hl : (qt m i).log2 < 24 := (Nat.log2_lt h0).2 (by omega)
    exact ⟨.inl (by omega), by omega⟩
theorem toInt_numS {y : Nat} {s : Bool} {m : Nat} {i : Int} (hy : FloatKind.f32.decode y = .number s m i) : (FloatKind.f32.decode y).toInt .zero = some (sgn s (qt m i)) := by
  unfold qt
  rw [hy]
  simp only [Datum.toInt, Datum.integral, signed_eq, Nat.pow_zero, Nat.mul_one]
  rw [cutZs]
theorem nearest_numS {s : Bool} {m : Nat} {i : Int} (hi : -149 <= i) (hi2 : i <= 104) (hm : m < 2 ^ 24) :
    ∃ t m' i', FloatKind.f32.decode (FloatKind.nearest .f32 (sgn s (qt m i))) = .number t m' i' /\ -149 <= i' /\ vl (.number t m' i') = sgn s (qt m i) * (UU : Int) := by
  obtain ⟨h1, h2⟩ := qt_exactS hi hi2 hm
  unfold FloatKind.nearest
  rw [sgn_abs]
  obtain ⟨t, m', i', h3, h4, h5⟩ := whole_encS (decide (sgn s (qt m i) < 0)) (qt m i) h1 h2
  refine ⟨t, m', i', h3, h4, ?_⟩
  rw [h5]
  congr 1
  cases s with
  | false => simp [sgn]; omega
  | true =>
    by_cases h0 : qt m i = 0
    · rw [h0]; rfl
    · have : -(qt m i : Int) < 0 := by omega
      simp [sgn, this]
      intro h; exact absurd h h0
theorem sub_self_numS {y : Nat} {s : Bool} {m : Nat} {i : Int} (hy : FloatKind.f32.decode y = .number s m i) : (FloatKind.format .f32).sub y y = some 0 := by
  show ((FloatKind.f32.decode y).sum (FloatKind.f32.decode y).opposite).map Ieee.single.write = some 0
  rw [hy]
  simp only [Datum.opposite, Datum.sum]
  have e : signed s m (i - min i i).toNat + signed (!s) m (i - min i i).toNat = 0 := by
    cases s <;> simp only [signed, Bool.not_true, Bool.not_false, Bool.false_eq_true, if_false, if_true] <;> omega
  rw [e]
  simp only [if_true, Option.map_some, Option.some.injEq]
  have : (s && !s) = false := by cases s <;> rfl
  rw [this]
  show Ieee.single.nearest false (Int.natAbs 0) _ = 0
  unfold Ieee.Format.nearest
  rw [if_pos (by rfl)]
  decide
theorem sub_self_infS {y : Nat} {s : Bool} (hy : FloatKind.f32.decode y = .infinity s) : (FloatKind.format .f32).sub y y = none := by
  show ((FloatKind.f32.decode y).sum (FloatKind.f32.decode y).opposite).map Ieee.single.write = none
  rw [hy]
  cases s <;> rfl
theorem ord_self_infS {y z : Nat} {s : Bool} (hy : FloatKind.f32.decode y = .infinity s) (hz : FloatKind.f32.decode z = .infinity s) : ((FloatKind.format .f32).order z y == some Ordering.eq) = true := by
  show ((FloatKind.f32.decode z).order (FloatKind.f32.decode y) == some Ordering.eq) = true
  rw [hy, hz]
  cases s <;> decide
section
variable {a b : Nat} {s t : Bool} {m n : Nat} {i j : Int} (ha : FloatKind.f32.decode a = .number s m i) (hb : FloatKind.f32.decode b = .number t n j) (hi : -149 <= i) (hj : -149 <= j)
include ha hb hi hj
theorem ord_numS : (FloatKind.format .f32).order a b = some (compare (vl (.number s m i)) (vl (.number t n j))) := by
  show (FloatKind.f32.decode a).order (FloatKind.f32.decode b) = _
  rw [ha, hb, order_num (by omega) (by omega)]
theorem ord_ltS : ((FloatKind.format .f32).order a b == some Ordering.lt) = decide (vl (.number s m i) < vl (.number t n j)) := by
  rw [ord_numS ha hb hi hj, cmp_def]
  by_cases h : vl (.number s m i) < vl (.number t n j)
  · simp [h]
  · by_cases h2 : vl (.number s m i) = vl (.number t n j)
    · simp [h2]
    · simp [h, h2]
theorem ord_eqS : ((FloatKind.format .f32).order a b == some Ordering.eq) = decide (vl (.number s m i) = vl (.number t n j)) := by
  rw [ord_numS ha hb hi hj, cmp_def]
  by_cases h : vl (.number s m i) < vl (.number t n j)
  · have : ¬ vl (.number s m i) = vl (.number t n j) := by omega
    simp [h, this]
  · by_cases h2 : vl (.number s m i) = vl (.number t n j)
    · simp [h2]
    · simp [h, h2]
theorem ord_gtS : ((FloatKind.format .f32).order a b == some Ordering.gt) = decide (vl (.number t n j) < vl (.number s m i)) := by
  rw [ord_numS ha hb hi hj, cmp_def]
  by_cases h : vl (.number s m i) < vl (.number t n j)
  · have : ¬ vl (.number t n j) < vl (.number s m i) := by omega
    simp [h, this]
  · by_cases h2 : vl (.number s m i) = vl (.number t n j)
    · simp [h2]
    · have : vl (.number t n j) < vl (.number s m i) := by omega
      simp [h, h2, this]
end
theorem whole_smallS {n : Int} (h : n.natAbs < 16777216) : ∃ s m i, FloatKind.f32.decode (FloatKind.nearest .f32 n) = .number s m i /\ -149 <= i /\ vl (.number s m i) = n * (UU : Int) := by
  have hl : n.natAbs.log2 <= 23 := by
    by_cases h0 : n.natAbs = 0
    · rw [h0]; decide
    · have := (Nat.log2_lt h0 (k := 24)).2 (by omega)
      omega
  obtain ⟨t, m, i, h1, h2, h3⟩ := whole_encS (decide (n < 0)) n.natAbs (.inl hl) (by omega)
  have h1' : FloatKind.f32.decode (FloatKind.nearest .f32 n) = .number t m i := h1
  have hs : sgn (decide (n < 0)) n.natAbs = n := by
    by_cases hn : n < 0
    · rw [decide_eq_true hn]; simp only [sgn, if_true]; omega
    · rw [decide_eq_false hn]; simp only [sgn, Bool.false_eq_true, if_false]; omega
  rw [hs] at h3
  exact ⟨t, m, i, h1', h2, h3⟩
theorem whole_qtS {n : Int} {s : Bool} {m : Nat} {i : Int} (hi : -149 <= i) (hv : vl (.number s m i) = n * (UU : Int)) : sgn s (qt m i) = n := by
  have hU := UU_pos
  rw [vl_abs] at hv
  have h1 : m * 2 ^ (i + 1074).toNat = n.natAbs * UU := by
    have := congrArg Int.natAbs hv
    rwa [sgn_abs, Int.natAbs_mul, Int.natAbs_natCast] at this
  rw [qt_eq (by omega), h1, Nat.mul_div_cancel _ hU]
  rw [h1, sgn_mul] at hv
  exact Int.eq_of_mul_eq_mul_right (by omega) hv
def whl (v : Int) : Bool := decide (v.natAbs % UU = 0)
theorem whl_qt {s : Bool} {m : Nat} {i : Int} (hi : -1074 <= i) : decide (sgn s (qt m i) * (UU : Int) = vl (.number s m i)) = whl (vl (.number s m i)) := by
  unfold whl
  rw [vl_abs, sgn_abs, qt_eq hi]
  congr 1
  apply propext
  generalize m * 2 ^ (i + 1074).toNat = A
  rw [<- sgn_mul]
  have h1 := Nat.div_add_mod A UU
  rw [Nat.mul_comm] at h1
  constructor
  · intro h
    have : A / UU * UU = A := by have := congrArg Int.natAbs h; rwa [sgn_abs, sgn_abs] at this
    omega
  · intro h
    rw [show A / UU * UU = A by omega]
end Go.AM
