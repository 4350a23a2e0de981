/- Chapter 2: names; floats of a table as numbers. -/
import Derived.Test.YtehamglokkjipaaGreatQGP1
import Derived.Test.YtehamglokkjipaaGreatKN8
namespace Go.AM.K
open Ieee
set_option linter.unusedVariables false
set_option linter.unusedSimpArgs false
variable {α : Type}
theorem tl_loop (bs : ByteArray) : ∀ (m i : Nat) (r : List UInt8), i + m = bs.size → ByteArray.toList.loop bs i r = r.reverse ++ bs.data.toList.drop i := by
  intro m
  induction m with
  | zero =>
    intro i r h
    unfold ByteArray.toList.loop
    rw [if_neg (by omega), List.drop_eq_nil_of_le (by simp; show bs.size ≤ i; omega), List.append_nil]
  | succ m ih =>
    intro i r h
    unfold ByteArray.toList.loop
    have hi : i < bs.data.toList.length := by simp; show i < bs.size; omega
    rw [if_pos (by omega), ih (i + 1) _ (by omega), List.drop_eq_getElem_cons hi]
    have : bs.get! i = bs.data.toList[i] := by
      show bs.data[i]! = _
      have h2 : i < bs.data.size := by show i < bs.size; omega
      rw [getElem!_pos bs.data i h2]; simp
    rw [this]
    simp
theorem toList_data (bs : ByteArray) : bs.toList = bs.data.toList := by
  unfold ByteArray.toList
  rw [tl_loop bs bs.size 0 [] (by omega)]; simp
theorem cK_bad {b c : Bool} {x y : Option α} : cK b x (if c = true then y else x) = if (!b && c) = true then y else x := by cases b <;> cases c <;> rfl
theorem bytesR_len (s : ByteArray) : (bytesR s).length = s.size := by simp [bytesR]
theorem bytesR_get {s : ByteArray} {i : Nat} (h : i < s.data.toList.length) : (bytesR s)[i]? = some [.v (.int .u8 (s.data.toList[i]'h).toNat)] := by
  simp only [bytesR, List.getElem?_map, List.getElem?_eq_getElem h]; rfl
theorem ix_byte {s : ByteArray} {i : Nat} (h : i < s.data.toList.length) {x : Option α} : ixK (bytesR s) (i : Int) 1 x = x := by
  have h1 := bytesR_get h
  have h2 : i < (bytesR s).length := by rw [bytesR_len]; simpa using h
  unfold ixK
  have : rowAt (bytesR s) (i : Int).toNat = [.v (.int .u8 (s.data.toList[i]'h).toNat)] := by
    simp [rowAt, List.getD_eq_getElem?_getD, h1]
  rw [decide_eq_true (by rw [this]; exact ⟨by omega, by omega, rfl⟩)]
theorem ld_byte {s : ByteArray} {i : Nat} (h : i < s.data.toList.length) {f : Int → Option α} : ldK (bytesR s) (Int.toNat (i : Int)) 0 [.int .u8] f = f ((s.data.toList[i]'h).toNat : Int) := by
  have h1 := bytesR_get h
  have h2 : i < (bytesR s).length := by rw [bytesR_len]; simpa using h
  unfold ldK
  have : rowAt (bytesR s) (i : Int).toNat = [.v (.int .u8 (s.data.toList[i]'h).toNat)] := by
    simp [rowAt, List.getD_eq_getElem?_getD, h1]
  rw [decide_eq_true (show Int.toNat (i : Int) < (bytesR s).length by simpa using h2), this]
  rfl
theorem six_byte {s : ByteArray} {i : Nat} (h : i < s.data.toList.length) {f : UInt8 → Option α} : sixK s (i : Int) f = f (s.data.toList[i]'h) := by
  unfold sixK
  have h2 : i < s.size := by simpa using h
  have : s[(i : Int).toNat]? = some (s.data.toList[i]'h) := by
    rw [show (i : Int).toNat = i by omega, getElem?_pos s i h2]
    simp [ByteArray.getElem_eq_getElem_data]
  rw [if_pos (by omega), this]
def ltrB (c : Int) : Bool := (decide (97 ≤ c) && decide (c ≤ 122)) || (decide (65 ≤ c) && decide (c ≤ 90))
def badB (i c : Int) (l : Bool) : Bool := !l && ((i == 0) || ((c != 45) && (decide (c < 48) || decide (57 < c))))
theorem J141_0_eq {c : Int} {k : Bool → Option α} : J141_0_0 α c k = k (ltrB c) := by
  simp only [J141_0_0, J141_0_0g]
  unfold ltrB
  by_cases a : 97 ≤ c <;> by_cases b : c ≤ 122 <;> by_cases d : 65 ≤ c <;> simp [a, b, d]
theorem J141_1_eq {i c : Int} {l : Bool} {k : Bool → Option α} : J141_0_1 α i c l k = k (badB i c l) := by
  simp only [J141_0_1, J141_0_1g]
  unfold badB
  cases l
  · by_cases a : i = 0
    · rw [a]; rfl
    · have a' : (i == 0) = false := beq_eq_false_iff_ne.2 a
      rw [a']
      by_cases b : c = 45
      · rw [b]; rfl
      · have b' : (c != 45) = true := bne_iff_ne.2 b
        rw [b']
        by_cases d : c < 48 <;> simp [d]
  · rfl
def nmAll : List UInt8 → Nat → Bool
  | [], _ => true
  | b :: r, i => !badB (i : Int) (b.toNat : Int) (ltrB (b.toNat : Int)) && nmAll r (i + 1)
def nmB (s : ByteArray) : Bool := nmAll s.data.toList 0 && (decide (1 ≤ s.size) && decide (s.size ≤ 12))
theorem R141_eq {s : ByteArray} (hs : s.size ≤ 9223372036854775807) {k1 : Option α} {k2 : Int → Bool → Option α} : ∀ (m i n : Nat), i + m = s.size → m < n →
    R141_0_2 α (s.size : Int) (bytesR s) k1 k2 n (i : Int) = if nmAll (s.data.toList.drop i) i = true then k2 (s.size : Int) false else k1 := by
  have hl : s.data.toList.length = s.size := by simp
  intro m
  induction m with
  | zero =>
    intro i n h1 h2
    obtain ⟨n, rfl⟩ : ∃ z, n = z + 1 := ⟨n - 1, by omega⟩
    rw [List.drop_eq_nil_of_le (by omega)]
    have hi : i = s.size := by omega
    simp only [R141_0_2, S141_0_2, S141_0_2g, nmAll, if_true]
    rw [hi, decide_eq_false (by omega)]; rfl
  | succ m ih =>
    intro i n h1 h2
    obtain ⟨n, rfl⟩ : ∃ z, n = z + 1 := ⟨n - 1, by omega⟩
    have hi : i < s.data.toList.length := by omega
    rw [List.drop_eq_getElem_cons hi]
    simp only [R141_0_2, S141_0_2, S141_0_2g, nmAll]
    rw [decide_eq_true (by omega), cK_true, ix_byte hi, ld_byte hi, J141_0_eq, J141_1_eq, w64_in (by omega) (by omega), show (i : Int) + 1 = ((i + 1 : Nat) : Int) by omega, ih (i + 1) n (by omega) (by omega)]
    exact cK_bad
theorem f141_eq {s : ByteArray} (hs : s.size ≤ 9223372036854775807) {k : Bool → Option α} : f141_0 α s k = k (nmB s) := by
  have hf := fuel_ge
  simp only [f141_0, f141_0g, L141_0_2, bytesR_len]
  rw [decide_eq_true hs, gK_true, show ((0 : Int)) = ((0 : Nat) : Int) from rfl, R141_eq hs s.size 0 fuel (by omega) (by omega), List.drop_zero]
  unfold nmB
  cases nmAll s.data.toList 0
  · rfl
  · rw [if_pos rfl]
    have e : (s.toList == (⟨#[]⟩ : ByteArray).toList) = decide (s.size = 0) := by
      have : (s.toList == (⟨#[]⟩ : ByteArray).toList) = (s.data.toList == []) := by rw [toList_data, toList_data]
      rw [this]
      by_cases h0 : s.size = 0
      · have : s.data.toList = [] := List.eq_nil_of_length_eq_zero (by rw [Array.length_toList]; exact h0)
        rw [this, decide_eq_true h0]; rfl
      · rw [decide_eq_false h0]
        have : s.data.toList ≠ [] := fun h => h0 (by have := congrArg List.length h; simpa using this)
        exact beq_eq_false_iff_ne.2 this
    rw [e]
    by_cases h0 : s.size = 0
    · simp [h0]
    · rw [decide_eq_false h0, Bool.not_false, cK_true, decide_eq_true (show 1 ≤ s.size by omega), Bool.true_and, Bool.true_and]
      congr 1
      exact decide_eq_decide.2 (by omega)
theorem J66_0_eq {c : Int} {k : Bool → Option α} : J66_0_0 α c k = k (ltrB c) := J141_0_eq
theorem J66_1_eq {i c : Int} {l : Bool} {k : Bool → Option α} : J66_0_1 α i c l k = k (badB i c l) := J141_1_eq
theorem R66_eq {s : ByteArray} (hs : s.size ≤ 12) {k1 : Option α} {k2 : Int → Bool → Option α} : ∀ (m i n : Nat), i + m = s.size → m < n →
    R66_0_2 α s k1 k2 n (i : Int) = if nmAll (s.data.toList.drop i) i = true then k2 (s.size : Int) false else k1 := by
  have hl : s.data.toList.length = s.size := by simp
  intro m
  induction m with
  | zero =>
    intro i n h1 h2
    obtain ⟨n, rfl⟩ : ∃ z, n = z + 1 := ⟨n - 1, by omega⟩
    rw [List.drop_eq_nil_of_le (by omega)]
    have hi : i = s.size := by omega
    simp only [R66_0_2, S66_0_2, S66_0_2g, nmAll, if_true]
    rw [hi, decide_eq_false (by omega)]; rfl
  | succ m ih =>
    intro i n h1 h2
    obtain ⟨n, rfl⟩ : ∃ z, n = z + 1 := ⟨n - 1, by omega⟩
    have hi : i < s.data.toList.length := by omega
    rw [List.drop_eq_getElem_cons hi]
    simp only [R66_0_2, S66_0_2, S66_0_2g, nmAll]
    rw [decide_eq_true (by omega), cK_true, six_byte hi, J66_0_eq, J66_1_eq, w64_in (by omega) (by omega), show (i : Int) + 1 = ((i + 1 : Nat) : Int) by omega, ih (i + 1) n (by omega) (by omega)]
    exact cK_bad
theorem f66_eq {s : ByteArray} {k : Bool → Option α} : f66_0 α s k = k (nmB s) := by
  have hf := fuel_ge
  simp only [f66_0, f66_0g, L66_0_2]
  unfold nmB
  by_cases h1 : s.size < 1
  · rw [decide_eq_true (by omega), cK_true, decide_eq_false (show ¬ 1 ≤ s.size by omega), Bool.false_and, Bool.and_false]
  · rw [decide_eq_false (by omega), cK_false, decide_eq_true (show 1 ≤ s.size by omega), Bool.true_and]
    by_cases h2 : 12 < s.size
    · rw [decide_eq_true (by omega), cK_true, decide_eq_false (show ¬ s.size ≤ 12 by omega), Bool.and_false]
    · rw [decide_eq_false (by omega), cK_false, decide_eq_true (show s.size ≤ 12 by omega), Bool.and_true, show ((0 : Int)) = ((0 : Nat) : Int) from rfl, R66_eq (by omega) s.size 0 fuel (by omega) (by omega), List.drop_zero]
      cases nmAll s.data.toList 0 <;> rfl
section
variable {y : Nat} {s : Bool} {m : Nat} {i : Int} (hy : FloatKind.f64.decode y = .number s m i) (hi : -1074 ≤ i) (hi2 : i ≤ 971) (hm : m < 2 ^ 53)
include hy hi hi2 hm
theorem f69_num (hbig : 10000000000000000 * (UU : Int) < (vl (.number s m i)).natAbs → whl (vl (.number s m i)) = true) {k : Bool → Option α} : f69_1 α y k = k (whl (vl (.number s m i))) := by
  obtain ⟨m1, i1, a1, a2, a3⟩ := k16
  obtain ⟨m2, i2, b1, b2, b3⟩ := kn16
  obtain ⟨m0, i0, c1, c2, c3⟩ := k0
  have hU := UU_pos
  have e0 : ((FloatKind.format .f64).order y y != some Ordering.eq) = false := by
    show (!((FloatKind.format .f64).order y y == some Ordering.eq)) = false
    rw [ord_eq hy hy hi hi]; simp
  have e1 : ((FloatKind.format .f64).order 0 0 != some Ordering.eq) = false := by
    show (!((FloatKind.format .f64).order 0 0 == some Ordering.eq)) = false
    rw [ord_eq c1 c1 c2 c2]; simp
  simp only [f69_1, f69_1g, e0, cK_false, sub_self_num hy, flN, e1]
  rw [ord_gt hy b1 hi b2, ord_eq hy b1 hi b2, ord_lt hy a1 hi a2, ord_eq hy a1 hi a2, a3, b3]
  generalize hv : vl (.number s m i) = v at *
  by_cases h1 : -10000000000000000 * (UU : Int) ≤ v
  · have d1 : (decide (-10000000000000000 * (UU : Int) < v) || decide (v = -10000000000000000 * (UU : Int))) = true := by
      by_cases h : -10000000000000000 * (UU : Int) < v
      · simp [h]
      · have : v = -10000000000000000 * (UU : Int) := by omega
        simp [this]
    rw [d1, cK_true]
    by_cases h2 : v ≤ 10000000000000000 * (UU : Int)
    · have d2 : (decide (v < 10000000000000000 * (UU : Int)) || decide (v = 10000000000000000 * (UU : Int))) = true := by
        by_cases h : v < 10000000000000000 * (UU : Int)
        · simp [h]
        · have : v = 10000000000000000 * (UU : Int) := by omega
          simp [this]
      rw [d2, Bool.not_true, cK_false]
      have hq : qt m i ≤ 10000000000000000 := by
        rw [qt_eq hi]
        have hA : m * 2 ^ (i + 1074).toNat ≤ 10000000000000000 * UU := by
          have e : v.natAbs = m * 2 ^ (i + 1074).toNat := by rw [← hv, vl_abs, sgn_abs]
          rw [← e]; omega
        calc m * 2 ^ (i + 1074).toNat / UU ≤ 10000000000000000 * UU / UU := Nat.div_le_div_right hA
          _ = 10000000000000000 := Nat.mul_div_cancel _ hU
      have hf : f2i .f64 y .i64 = some (sgn s (qt m i)) := by
        unfold f2i
        rw [toInt_num hy]
        simp only
        rw [if_pos]
        have : IntKind.min .i64 = -9223372036854775808 := by decide
        have : IntKind.max .i64 = 9223372036854775807 := by decide
        cases s <;> simp only [sgn, Bool.false_eq_true, if_false, if_true] <;> omega
      rw [hf]
      show k ((FloatKind.format .f64).order (FloatKind.nearest .f64 (sgn s (qt m i))) y == some Ordering.eq) = _
      obtain ⟨t, m', i', n1, n2, n3⟩ := nearest_num (s := s) hi hi2 hm
      rw [ord_eq n1 hy n2 hi, n3, ← hv, whl_qt hi]
    · have d2 : (decide (v < 10000000000000000 * (UU : Int)) || decide (v = 10000000000000000 * (UU : Int))) = false := by
        have g1 : ¬ v < 10000000000000000 * (UU : Int) := by omega
        have g2 : ¬ v = 10000000000000000 * (UU : Int) := by omega
        simp [g1, g2]
      rw [d2, Bool.not_false, cK_true, hbig (by omega)]
  · have d1 : (decide (-10000000000000000 * (UU : Int) < v) || decide (v = -10000000000000000 * (UU : Int))) = false := by
      have g1 : ¬ -10000000000000000 * (UU : Int) < v := by omega
      have g2 : ¬ v = -10000000000000000 * (UU : Int) := by omega
      simp only [g1, g2, decide_false, Bool.or_self]
    rw [d1, cK_false, hbig (by omega)]
end
section
variable {y : Nat} {s : Bool} (hy : FloatKind.f64.decode y = .infinity s)
include hy
theorem f69_inf {k : Bool → Option α} : f69_1 α y k = k false := by
  have e0 : ((FloatKind.format .f64).order y y != some Ordering.eq) = false := by
    show (!((FloatKind.format .f64).order y y == some Ordering.eq)) = false
    rw [ord_self_inf hy hy]; rfl
  simp only [f69_1, f69_1g, e0, cK_false, sub_self_inf hy, flN]
end
theorem big32 {s : Bool} {m : Nat} {p : Int} (hp : -149 ≤ p) (hm : m < 2 ^ 24) (h : 10000000000000000 * (UU : Int) < (vl (.number s m p)).natAbs) : whl (vl (.number s m p)) = true := by
  rw [vl_abs, sgn_abs] at h
  unfold whl
  rw [vl_abs, sgn_abs]
  have h1 : 10000000000000000 * UU < m * 2 ^ (p + 1074).toNat := by omega
  by_cases hp0 : 0 ≤ p
  · rw [show (p + 1074).toNat = p.toNat + eU by (have := eU_def; omega), Nat.pow_add, ← Nat.mul_assoc]
    exact decide_eq_true (Nat.mul_mod_left _ _)
  · exfalso
    have h2 : 2 ^ (p + 1074).toNat ≤ UU := Nat.pow_le_pow_right (by decide) (by have := eU_def; omega)
    have h3 : m * 2 ^ (p + 1074).toNat ≤ 2 ^ 24 * UU := Nat.mul_le_mul (by omega) h2
    have := UU_pos
    omega
def wv (x : Nat) : Option Int := match FloatKind.f32.decode x with
  | .number s m i => if whl (vl (.number s m i)) then some (sgn s (qt m i)) else none
  | _ => none
theorem wv_num {x : Nat} {n : Int} (h : wv x = some n) : ∃ s m p, FloatKind.f32.decode x = .number s m p ∧ -149 ≤ p ∧ p ≤ 104 ∧ m < 2 ^ 24 ∧ vl (.number s m p) = n * (UU : Int) ∧ n = sgn s (qt m p) := by
  unfold wv at h
  rcases read32 (n := x) with ⟨s, m, p, hx, h1, h2, h3⟩ | ⟨s, hx⟩ | hn
  · rw [hx] at h
    simp only at h
    split at h
    · rename_i hw
      simp only [Option.some.injEq] at h
      refine ⟨s, m, p, hx, h1, h2, h3, ?_, h.symm⟩
      have := whl_qt (s := s) (m := m) (i := p) (by omega)
      rw [hw] at this
      have := of_decide_eq_true this
      rw [← h]; exact this.symm
    · cases h
  · rw [hx] at h; cases h
  · obtain ⟨s, t, hd⟩ := isNaNb_iff.1 hn
    rw [show FloatKind.f32.decode x = _ from hd] at h; cases h
theorem c9 : ∃ m i, FloatKind.f64.decode 4741671816366391296 = .number false m i ∧ -1074 ≤ i ∧ vl (.number false m i) = 1000000000 * (UU : Int) := ⟨8388608000000000, -23, by decide +kernel, by omega, by decide +kernel⟩
theorem cn9 : ∃ m i, FloatKind.f64.decode 13965043853221167104 = .number true m i ∧ -1074 ≤ i ∧ vl (.number true m i) = -1000000000 * (UU : Int) := ⟨8388608000000000, -23, by decide +kernel, by omega, by decide +kernel⟩
def clip (n : Int) : Int := if n < -1000000000 then -1000000000 else if 1000000000 < n then 1000000000 else n
theorem cmp3 {a b : Int} : compare a b = if a < b then .lt else if b < a then .gt else .eq := by
  rw [cmp_def]
  by_cases h : a < b
  · rw [if_pos h, if_pos h]
  · rw [if_neg h, if_neg h]
    by_cases h2 : b < a
    · rw [if_pos h2, if_neg (by omega)]
    · rw [if_neg h2, if_pos (by omega)]
theorem f168_eq {x : Nat} {k : Int → Bool → Option α} : f168_0 α x k = match wv x with | some n => k (clip n) true | none => k 0 false := by
  simp only [f168_0, f168_0g, J168_0_0, J168_0_0g, f174_0, f174_0g, f174_1, f174_1g, f151_0, f151_0g, f129_0, f129_0g, f150_0, f150_0g, beq_self_eq_true, cK_true]
  rcases read32 (n := x) with ⟨s, m, p, hx, h1, h2, h3⟩ | ⟨s, hx⟩ | hn
  · have hnn : isNaNb .f32 x = false := by unfold isNaNb; rw [hx]
    obtain ⟨y, m', i, e1, e2, e3, e4, e5, e6⟩ := f2f_num hx h1 h2 h3
    rw [hnn, e1]
    simp only [cK_false, flK]
    have q1 : ((FloatKind.format .f64).order y y != some Ordering.eq) = false := by
      show (!((FloatKind.format .f64).order y y == some Ordering.eq)) = false
      rw [ord_eq e2 e2 e3 e3]; simp
    rw [q1, cK_false]
    obtain ⟨mM, iM, k1, k2, k3⟩ := kMax
    have hab : FloatKind.f64.decode (absF y) = .number false m' i := by rw [abs_read, e2]
    have q2 : ((FloatKind.format .f64).order (Int.toNat (iAndNot .u64 ((y : Nat) : Int) 9223372036854775808)) 9218868437227405311 == some Ordering.gt) = false := by
      show ((FloatKind.format .f64).order (absF y) 9218868437227405311 == some Ordering.gt) = false
      rw [ord_gt hab k1 e3 k2, k3]
      have := le_max (m := m') (i := i) e4 e5
      exact decide_eq_false (by omega)
    rw [q2, cK_false]
    have hny : isNaNb .f64 y = false := notNaN (.inl ⟨s, m', i, e2⟩)
    rw [hny, cK_false]
    obtain ⟨t, mt, it, t1, t2, t3⟩ := truncF_num e2 e3 e4 e5
    have q9993 : ((FloatKind.format .f64).order (truncF y) y != some Ordering.eq) = !(whl (vl (.number s m p))) := by
      show (!((FloatKind.format .f64).order (truncF y) y == some Ordering.eq)) = _
      rw [ord_eq t1 e2 t2 e3, t3, whl_qt e3, e6]
    rw [q9993]
    have hq : qt m' i = qt m p := by
      rw [qt_eq e3, qt_eq (show -1074 ≤ p by omega)]
      have := e6
      rw [vl_abs, vl_abs] at this
      have h4 := congrArg Int.natAbs this
      rw [sgn_abs, sgn_abs] at h4
      rw [h4]
    unfold wv
    rw [hx]
    simp only
    cases hw : whl (vl (.number s m p)) with
    | false => simp
    | true =>
      simp only [Bool.not_true, cK_false, if_true]
      have hv : vl (.number s m' i) = sgn s (qt m p) * (UU : Int) := by
        have := whl_qt (s := s) (m := m') (i := i) e3
        rw [e6, hw] at this
        have := of_decide_eq_true this
        rw [e6, ← this, hq]
      obtain ⟨m9, i9, a1, a2, a3⟩ := c9
      obtain ⟨n9, j9, b1, b2, b3⟩ := cn9
      generalize hN : sgn s (qt m p) = N at *
      have hU := UU_pos
      have mlt : ∀ c : Int, (c * (UU : Int) < N * (UU : Int)) ↔ c < N := fun c => ⟨fun h => Int.lt_of_mul_lt_mul_right h (by omega), fun h => Int.mul_lt_mul_of_pos_right h (by omega)⟩
      have mlt2 : ∀ c : Int, (N * (UU : Int) < c * (UU : Int)) ↔ N < c := fun c => ⟨fun h => Int.lt_of_mul_lt_mul_right h (by omega), fun h => Int.mul_lt_mul_of_pos_right h (by omega)⟩
      have f113 : f2i .f64 4741671816366391296 .i64 = some 1000000000 := by decide +kernel
      have fn9 : f2i .f64 13965043853221167104 .i64 = some (-1000000000) := by decide +kernel
      have o9 : mxNat true .f64 13965043853221167104 4741671816366391296 = some 4741671816366391296 := by decide +kernel
      have fy : -1000000000 ≤ N → N ≤ 1000000000 → f2i .f64 y .i64 = some N := fun g1 g2 => by
        unfold f2i
        rw [toInt_num e2, hq, hN]
        simp only
        rw [if_pos]
        have : IntKind.min .i64 = -9223372036854775808 := by decide
        have : IntKind.max .i64 = 9223372036854775807 := by decide
        omega
      have neg9 : (FloatKind.f64.decode 4741671816366391296).neg = false := by rw [a1]; rfl
      have neg9n : (FloatKind.f64.decode 13965043853221167104).neg = true := by rw [b1]; rfl
      have hmin : mxNat false .f64 4741671816366391296 y = some (if 1000000000 < N then 4741671816366391296 else y) := by
        unfold mxNat
        rw [show (FloatKind.format .f64).order 4741671816366391296 y = _ from ord_num a1 e2 a2 e3, a3, hv, cmp3]
        by_cases g1 : 1000000000 < N
        · rw [if_pos ((mlt _).2 g1), if_pos g1]; rfl
        · rw [if_neg (fun h => g1 ((mlt _).1 h)), if_neg g1]
          by_cases g2 : N < 1000000000
          · rw [if_pos ((mlt2 _).2 g2)]; rfl
          · rw [if_neg (fun h => g2 ((mlt2 _).1 h))]
            simp only [neg9, Bool.false_eq_true, if_false]
      rw [hmin]
      simp only []
      by_cases g1 : 1000000000 < N
      · rw [if_pos g1, o9]
        simp only []
        rw [f113]
        show k 1000000000 true = k (clip N) true
        unfold clip
        rw [if_neg (by omega), if_pos g1]
      · rw [if_neg g1]
        have hmax : mxNat true .f64 13965043853221167104 y = some (if N < -1000000000 then 13965043853221167104 else y) := by
          unfold mxNat
          rw [show (FloatKind.format .f64).order 13965043853221167104 y = _ from ord_num b1 e2 b2 e3, b3, hv, cmp3]
          by_cases g2 : -1000000000 < N
          · rw [if_pos ((mlt _).2 g2), if_neg (show ¬ N < -1000000000 by omega)]; rfl
          · rw [if_neg (fun h => g2 ((mlt _).1 h))]
            by_cases g3 : N < -1000000000
            · rw [if_pos ((mlt2 _).2 g3), if_pos g3]; rfl
            · rw [if_neg (fun h => g3 ((mlt2 _).1 h)), if_neg g3]
              simp only [neg9n, if_true]
        rw [hmax]
        simp only []
        by_cases g3 : N < -1000000000
        · rw [if_pos g3, fn9]
          show k (-1000000000) true = k (clip N) true
          unfold clip
          rw [if_pos g3]
        · rw [if_neg g3, fy (by omega) (by omega)]
          show k N true = k (clip N) true
          unfold clip
          rw [if_neg g3, if_neg g1]
  · have hnn : isNaNb .f32 x = false := by unfold isNaNb; rw [hx]
    obtain ⟨y, e1, e2⟩ := f2f_inf hx
    rw [hnn, e1]
    simp only [cK_false, flK]
    have q1 : ((FloatKind.format .f64).order y y != some Ordering.eq) = false := by
      show (!((FloatKind.format .f64).order y y == some Ordering.eq)) = false
      rw [ord_self_inf e2 e2]; rfl
    rw [q1, cK_false]
    have hab : FloatKind.f64.decode (absF y) = .infinity false := by rw [abs_read, e2]
    have q2 : ((FloatKind.format .f64).order (Int.toNat (iAndNot .u64 ((y : Nat) : Int) 9223372036854775808)) 9218868437227405311 == some Ordering.gt) = true := by
      show ((FloatKind.f64.decode (absF y)).order (FloatKind.f64.decode 9218868437227405311) == some Ordering.gt) = true
      obtain ⟨mM, iM, k1, k2, k3⟩ := kMax
      rw [hab, k1]; rfl
    rw [q2, cK_true]
    unfold wv
    rw [hx]
  · rw [hn, cK_true]
    obtain ⟨s, t, hd⟩ := isNaNb_iff.1 hn
    unfold wv
    rw [show FloatKind.f32.decode x = _ from hd]
theorem ref_wv {x : Nat} {bad ok : Option α} : (cK (isNaNb .f32 x) (f69_0 α bad) (flK (f2f .f32 x .f64) fun y => f69_1 α y fun b => cK (!b) bad ok)) = if (wv x).isSome then ok else bad := by
  unfold wv
  simp only [f69_0, f69_0g]
  rcases read32 (n := x) with ⟨s, m, p, hx, h1, h2, h3⟩ | ⟨s, hx⟩ | hn
  · have hnn : isNaNb .f32 x = false := by unfold isNaNb; rw [hx]
    obtain ⟨y, m', i, e1, e2, e3, e4, e5, e6⟩ := f2f_num hx h1 h2 h3
    rw [hnn, e1, hx]
    simp only [cK_false, flK]
    rw [f69_num e2 e3 e4 e5 (fun h => by rw [e6] at h ⊢; exact big32 h1 h3 h), e6]
    by_cases hw : whl (vl (.number s m p)) = true
    · simp [hw]
    · simp [hw]
  · have hnn : isNaNb .f32 x = false := by unfold isNaNb; rw [hx]
    obtain ⟨y, e1, e2⟩ := f2f_inf hx
    rw [hnn, e1, hx]
    simp only [cK_false, flK]
    rw [f69_inf e2]; rfl
  · obtain ⟨s, t, hd⟩ := isNaNb_iff.1 hn
    rw [hn, show FloatKind.f32.decode x = _ from hd]; rfl
theorem k5000 : ∃ s m i, FloatKind.f32.decode 1167867904 = .number s m i ∧ -149 ≤ i ∧ vl (.number s m i) = 5000 * (UU : Int) := constS (by decide) (by decide +kernel)
theorem k80000 : ∃ s m i, FloatKind.f32.decode 1201422336 = .number s m i ∧ -149 ≤ i ∧ vl (.number s m i) = 80000 * (UU : Int) := constS (by decide) (by decide +kernel)
theorem k0S : ∃ s m i, FloatKind.f32.decode 0 = .number s m i ∧ -149 ≤ i ∧ vl (.number s m i) = 0 := ⟨false, 0, -149, by decide, by omega, by decide⟩
theorem ord_w {x : Nat} {n : Int} (h : wv x = some n) : ((FloatKind.format .f32).order x 1167867904 == some Ordering.lt) = decide (n < 5000) ∧ ((FloatKind.format .f32).order x 1201422336 == some Ordering.gt) = decide (80000 < n) ∧ ((FloatKind.format .f32).order x 0 == some Ordering.lt) = decide (n < 0) := by
  obtain ⟨s, m, p, hx, h1, h2, h3, hv, _⟩ := wv_num h
  obtain ⟨s1, m1, i1, a1, a2, a3⟩ := k5000
  obtain ⟨s2, m2, i2, b1, b2, b3⟩ := k80000
  obtain ⟨s0, m0, i0, c1, c2, c3⟩ := k0S
  have hU := UU_pos
  have mlt : ∀ a b : Int, (a * (UU : Int) < b * (UU : Int)) ↔ a < b := fun a b => ⟨fun h => Int.lt_of_mul_lt_mul_right h (by omega), fun h => Int.mul_lt_mul_of_pos_right h (by omega)⟩
  rw [ord_ltS hx a1 h1 a2, ord_gtS hx b1 h1 b2, ord_ltS hx c1 h1 c2, hv, a3, b3, c3]
  refine ⟨decide_eq_decide.2 (mlt _ _), decide_eq_decide.2 (mlt _ _), decide_eq_decide.2 ?_⟩
  have := mlt n 0
  rw [Int.zero_mul] at this
  exact this
end Go.AM.K
