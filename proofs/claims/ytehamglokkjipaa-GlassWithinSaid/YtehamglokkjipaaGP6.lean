/- Chapter 2: names; floats of a table as numbers. -/
import Derived.Test.YtehamglokkjipaaGP1
import Derived.Test.YtehamglokkjipaaKN8
namespace Go.AM.K
open Ieee
set_option linter.unusedVariables false
set_option linter.unusedSimpArgs false
variable {α : Type}
theorem tl_loop (bs : ByteArray) : ∀ (m i : Nat) (r : List UInt8), i + m = bs.size → ByteArray.toList.loop bs i r = r.reverse ++ bs.data.toList.drop i := by
  intro m
  induction m with
  | zero =>
    intro i r h
    unfold ByteArray.toList.loop
    rw [if_neg (by omega), List.drop_eq_nil_of_le (by simp; show bs.size ≤ i; omega), List.append_nil]
  | succ m ih =>
    intro i r h
    unfold ByteArray.toList.loop
    have hi : i < bs.data.toList.length := by simp; show i < bs.size; omega
    rw [if_pos (by omega), ih (i + 1) _ (by omega), List.drop_eq_getElem_cons hi]
    have : bs.get! i = bs.data.toList[i] := by
      show bs.data[i]! = _
      have h2 : i < bs.data.size := by show i < bs.size; omega
      rw [getElem!_pos bs.data i h2]; simp
    rw [this]
    simp
theorem toList_data (bs : ByteArray) : bs.toList = bs.data.toList := by
  unfold ByteArray.toList
  rw [tl_loop bs bs.size 0 [] (by omega)]; simp
theorem cK_bad {b c : Bool} {x y : Option α} : cK b x (if c = true then y else x) = if (!b && c) = true then y else x := by cases b <;> cases c <;> rfl
theorem bytesR_len (s : ByteArray) : (bytesR s).length = s.size := by simp [bytesR]
theorem bytesR_get {s : ByteArray} {i : Nat} (h : i < s.data.toList.length) : (bytesR s)[i]? = some [.v (.int .u8 (s.data.toList[i]'h).toNat)] := by
  simp only [bytesR, List.getElem?_map, List.getElem?_eq_getElem h]; rfl
theorem ix_byte {s : ByteArray} {i : Nat} (h : i < s.data.toList.length) {x : Option α} : ixK (bytesR s) (i : Int) 1 x = x := by
  have h1 := bytesR_get h
  have h2 : i < (bytesR s).length := by rw [bytesR_len]; simpa using h
  unfold ixK
  have : rowAt (bytesR s) (i : Int).toNat = [.v (.int .u8 (s.data.toList[i]'h).toNat)] := by
    simp [rowAt, List.getD_eq_getElem?_getD, h1]
  rw [decide_eq_true (by rw [this]; exact ⟨by omega, by omega, rfl⟩)]
theorem ld_byte {s : ByteArray} {i : Nat} (h : i < s.data.toList.length) {f : Int → Option α} : ldK (bytesR s) (Int.toNat (i : Int)) 0 [.int .u8] f = f ((s.data.toList[i]'h).toNat : Int) := by
  have h1 := bytesR_get h
  have h2 : i < (bytesR s).length := by rw [bytesR_len]; simpa using h
  unfold ldK
  have : rowAt (bytesR s) (i : Int).toNat = [.v (.int .u8 (s.data.toList[i]'h).toNat)] := by
    simp [rowAt, List.getD_eq_getElem?_getD, h1]
  rw [decide_eq_true (show Int.toNat (i : Int) < (bytesR s).length by simpa using h2), this]
  rfl
def ltrB (c : Int) : Bool := (decide (97 ≤ c) && decide (c ≤ 122)) || (decide (65 ≤ c) && decide (c ≤ 90))
def badB (i c : Int) (l : Bool) : Bool := !l && ((i == 0) || ((c != 45) && (decide (c < 48) || decide (57 < c))))
theorem J25_0_eq {c : Int} {k : Bool → Option α} : J25_0_0 α c k = k (ltrB c) := by
  simp only [J25_0_0, J25_0_0g]
  unfold ltrB
  by_cases a : 97 ≤ c <;> by_cases b : c ≤ 122 <;> by_cases d : 65 ≤ c <;> simp [a, b, d]
theorem J25_1_eq {i c : Int} {l : Bool} {k : Bool → Option α} : J25_0_1 α i c l k = k (badB i c l) := by
  simp only [J25_0_1, J25_0_1g]
  unfold badB
  cases l
  · by_cases a : i = 0
    · rw [a]; rfl
    · have a' : (i == 0) = false := beq_eq_false_iff_ne.2 a
      rw [a']
      by_cases b : c = 45
      · rw [b]; rfl
      · have b' : (c != 45) = true := bne_iff_ne.2 b
        rw [b']
        by_cases d : c < 48 <;> simp [d]
  · rfl
def nmAll : List UInt8 → Nat → Bool
  | [], _ => true
  | b :: r, i => !badB (i : Int) (b.toNat : Int) (ltrB (b.toNat : Int)) && nmAll r (i + 1)
def nmB (s : ByteArray) : Bool := nmAll s.data.toList 0 && (decide (1 ≤ s.size) && decide (s.size ≤ 12))
theorem R25_eq {s : ByteArray} (hs : s.size ≤ 9223372036854775807) {k1 : Option α} {k2 : Int → Bool → Option α} : ∀ (m i n : Nat), i + m = s.size → m < n →
    R25_0_2 α (s.size : Int) (bytesR s) k1 k2 n (i : Int) = if nmAll (s.data.toList.drop i) i = true then k2 (s.size : Int) false else k1 := by
  have hl : s.data.toList.length = s.size := by simp
  intro m
  induction m with
  | zero =>
    intro i n h1 h2
    obtain ⟨n, rfl⟩ : ∃ z, n = z + 1 := ⟨n - 1, by omega⟩
    rw [List.drop_eq_nil_of_le (by omega)]
    have hi : i = s.size := by omega
    simp only [R25_0_2, S25_0_2, S25_0_2g, nmAll, if_true]
    rw [hi, decide_eq_false (by omega)]; rfl
  | succ m ih =>
    intro i n h1 h2
    obtain ⟨n, rfl⟩ : ∃ z, n = z + 1 := ⟨n - 1, by omega⟩
    have hi : i < s.data.toList.length := by omega
    rw [List.drop_eq_getElem_cons hi]
    simp only [R25_0_2, S25_0_2, S25_0_2g, nmAll]
    rw [decide_eq_true (by omega), cK_true, ix_byte hi, ld_byte hi, J25_0_eq, J25_1_eq, w64_in (by omega) (by omega), show (i : Int) + 1 = ((i + 1 : Nat) : Int) by omega, ih (i + 1) n (by omega) (by omega)]
    exact cK_bad
theorem f25_eq {s : ByteArray} (hs : s.size ≤ 9223372036854775807) {k : Bool → Option α} : f25_0 α s k = k (nmB s) := by
  have hf := fuel_ge
  simp only [f25_0, f25_0g, L25_0_2, bytesR_len]
  rw [decide_eq_true hs, gK_true, show ((0 : Int)) = ((0 : Nat) : Int) from rfl, R25_eq hs s.size 0 fuel (by omega) (by omega), List.drop_zero]
  unfold nmB
  cases nmAll s.data.toList 0
  · rfl
  · rw [if_pos rfl]
    have e : (s.toList == (⟨#[]⟩ : ByteArray).toList) = decide (s.size = 0) := by
      have : (s.toList == (⟨#[]⟩ : ByteArray).toList) = (s.data.toList == []) := by rw [toList_data, toList_data]
      rw [this]
      by_cases h0 : s.size = 0
      · have : s.data.toList = [] := List.eq_nil_of_length_eq_zero (by rw [Array.length_toList]; exact h0)
        rw [this, decide_eq_true h0]; rfl
      · rw [decide_eq_false h0]
        have : s.data.toList ≠ [] := fun h => h0 (by have := congrArg List.length h; simpa using this)
        exact beq_eq_false_iff_ne.2 this
    rw [e]
    by_cases h0 : s.size = 0
    · simp [h0]
    · rw [decide_eq_false h0, Bool.not_false, cK_true, decide_eq_true (show 1 ≤ s.size by omega), Bool.true_and, Bool.true_and]
      congr 1
      exact decide_eq_decide.2 (by omega)
def wv (x : Nat) : Option Int := match FloatKind.f32.decode x with
  | .number s m i => if whl (vl (.number s m i)) then some (sgn s (qt m i)) else none
  | _ => none
theorem wv_num {x : Nat} {n : Int} (h : wv x = some n) : ∃ s m p, FloatKind.f32.decode x = .number s m p ∧ -149 ≤ p ∧ p ≤ 104 ∧ m < 2 ^ 24 ∧ vl (.number s m p) = n * (UU : Int) ∧ n = sgn s (qt m p) := by
  unfold wv at h
  rcases read32 (n := x) with ⟨s, m, p, hx, h1, h2, h3⟩ | ⟨s, hx⟩ | hn
  · rw [hx] at h
    simp only at h
    split at h
    · rename_i hw
      simp only [Option.some.injEq] at h
      refine ⟨s, m, p, hx, h1, h2, h3, ?_, h.symm⟩
      have := whl_qt (s := s) (m := m) (i := p) (by omega)
      rw [hw] at this
      have := of_decide_eq_true this
      rw [← h]; exact this.symm
    · cases h
  · rw [hx] at h; cases h
  · obtain ⟨s, t, hd⟩ := isNaNb_iff.1 hn
    rw [show FloatKind.f32.decode x = _ from hd] at h; cases h
theorem c9 : ∃ m i, FloatKind.f64.decode 4741671816366391296 = .number false m i ∧ -1074 ≤ i ∧ vl (.number false m i) = 1000000000 * (UU : Int) := ⟨8388608000000000, -23, by decide +kernel, by omega, by decide +kernel⟩
theorem cn9 : ∃ m i, FloatKind.f64.decode 13965043853221167104 = .number true m i ∧ -1074 ≤ i ∧ vl (.number true m i) = -1000000000 * (UU : Int) := ⟨8388608000000000, -23, by decide +kernel, by omega, by decide +kernel⟩
def clip (n : Int) : Int := if n < -1000000000 then -1000000000 else if 1000000000 < n then 1000000000 else n
theorem cmp3 {a b : Int} : compare a b = if a < b then .lt else if b < a then .gt else .eq := by
  rw [cmp_def]
  by_cases h : a < b
  · rw [if_pos h, if_pos h]
  · rw [if_neg h, if_neg h]
    by_cases h2 : b < a
    · rw [if_pos h2, if_neg (by omega)]
    · rw [if_neg h2, if_pos (by omega)]
theorem f66_eq {x : Nat} {k : Int → Bool → Option α} : f66_0 α x k = match wv x with | some n => k (clip n) true | none => k 0 false := by
  simp only [f66_0, f66_0g, J66_0_0, J66_0_0g, f76_0, f76_0g, f76_1, f76_1g, f77_0, f77_0g, f85_0, f85_0g, f78_0, f78_0g, beq_self_eq_true, cK_true]
  rcases read32 (n := x) with ⟨s, m, p, hx, h1, h2, h3⟩ | ⟨s, hx⟩ | hn
  · have hnn : isNaNb .f32 x = false := by unfold isNaNb; rw [hx]
    obtain ⟨y, m', i, e1, e2, e3, e4, e5, e6⟩ := f2f_num hx h1 h2 h3
    rw [hnn, e1]
    simp only [cK_false, flK]
    have q1 : ((FloatKind.format .f64).order y y != some Ordering.eq) = false := by
      show (!((FloatKind.format .f64).order y y == some Ordering.eq)) = false
      rw [ord_eq e2 e2 e3 e3]; simp
    rw [q1, cK_false]
    obtain ⟨mM, iM, k1, k2, k3⟩ := kMax
    have hab : FloatKind.f64.decode (absF y) = .number false m' i := by rw [abs_read, e2]
    have q2 : ((FloatKind.format .f64).order (Int.toNat (iAndNot .u64 ((y : Nat) : Int) 9223372036854775808)) 9218868437227405311 == some Ordering.gt) = false := by
      show ((FloatKind.format .f64).order (absF y) 9218868437227405311 == some Ordering.gt) = false
      rw [ord_gt hab k1 e3 k2, k3]
      have := le_max (m := m') (i := i) e4 e5
      exact decide_eq_false (by omega)
    rw [q2, cK_false]
    have hny : isNaNb .f64 y = false := notNaN (.inl ⟨s, m', i, e2⟩)
    rw [hny, cK_false]
    obtain ⟨t, mt, it, t1, t2, t3⟩ := truncF_num e2 e3 e4 e5
    have q3 : ((FloatKind.format .f64).order (truncF y) y != some Ordering.eq) = !(whl (vl (.number s m p))) := by
      show (!((FloatKind.format .f64).order (truncF y) y == some Ordering.eq)) = _
      rw [ord_eq t1 e2 t2 e3, t3, whl_qt e3, e6]
    rw [q3]
    have hq : qt m' i = qt m p := by
      rw [qt_eq e3, qt_eq (show -1074 ≤ p by omega)]
      have := e6
      rw [vl_abs, vl_abs] at this
      have h4 := congrArg Int.natAbs this
      rw [sgn_abs, sgn_abs] at h4
      rw [h4]
    unfold wv
    rw [hx]
    simp only
    cases hw : whl (vl (.number s m p)) with
    | false => simp
    | true =>
      simp only [Bool.not_true, cK_false, if_true]
      have hv : vl (.number s m' i) = sgn s (qt m p) * (UU : Int) := by
        have := whl_qt (s := s) (m := m') (i := i) e3
        rw [e6, hw] at this
        have := of_decide_eq_true this
        rw [e6, ← this, hq]
      obtain ⟨m9, i9, a1, a2, a3⟩ := c9
      obtain ⟨n9, j9, b1, b2, b3⟩ := cn9
      generalize hN : sgn s (qt m p) = N at *
      have hU := UU_pos
      have mlt : ∀ c : Int, (c * (UU : Int) < N * (UU : Int)) ↔ c < N := fun c => ⟨fun h => Int.lt_of_mul_lt_mul_right h (by omega), fun h => Int.mul_lt_mul_of_pos_right h (by omega)⟩
      have mlt2 : ∀ c : Int, (N * (UU : Int) < c * (UU : Int)) ↔ N < c := fun c => ⟨fun h => Int.lt_of_mul_lt_mul_right h (by omega), fun h => Int.mul_lt_mul_of_pos_right h (by omega)⟩
      have f9 : f2i .f64 4741671816366391296 .i64 = some 1000000000 := by decide +kernel
      have fn9 : f2i .f64 13965043853221167104 .i64 = some (-1000000000) := by decide +kernel
      have o9 : mxNat true .f64 13965043853221167104 4741671816366391296 = some 4741671816366391296 := by decide +kernel
      have fy : -1000000000 ≤ N → N ≤ 1000000000 → f2i .f64 y .i64 = some N := fun g1 g2 => by
        unfold f2i
        rw [toInt_num e2, hq, hN]
        simp only
        rw [if_pos]
        have : IntKind.min .i64 = -9223372036854775808 := by decide
        have : IntKind.max .i64 = 9223372036854775807 := by decide
        omega
      have neg9 : (FloatKind.f64.decode 4741671816366391296).neg = false := by rw [a1]; rfl
      have neg9n : (FloatKind.f64.decode 13965043853221167104).neg = true := by rw [b1]; rfl
      have hmin : mxNat false .f64 4741671816366391296 y = some (if 1000000000 < N then 4741671816366391296 else y) := by
        unfold mxNat
        rw [show (FloatKind.format .f64).order 4741671816366391296 y = _ from ord_num a1 e2 a2 e3, a3, hv, cmp3]
        by_cases g1 : 1000000000 < N
        · rw [if_pos ((mlt _).2 g1), if_pos g1]; rfl
        · rw [if_neg (fun h => g1 ((mlt _).1 h)), if_neg g1]
          by_cases g2 : N < 1000000000
          · rw [if_pos ((mlt2 _).2 g2)]; rfl
          · rw [if_neg (fun h => g2 ((mlt2 _).1 h))]
            simp only [neg9, Bool.false_eq_true, if_false]
      rw [hmin]
      simp only []
      by_cases g1 : 1000000000 < N
      · rw [if_pos g1, o9]
        simp only []
        rw [f9]
        show k 1000000000 true = k (clip N) true
        unfold clip
        rw [if_neg (by omega), if_pos g1]
      · rw [if_neg g1]
        have hmax : mxNat true .f64 13965043853221167104 y = some (if N < -1000000000 then 13965043853221167104 else y) := by
          unfold mxNat
          rw [show (FloatKind.format .f64).order 13965043853221167104 y = _ from ord_num b1 e2 b2 e3, b3, hv, cmp3]
          by_cases g2 : -1000000000 < N
          · rw [if_pos ((mlt _).2 g2), if_neg (show ¬ N < -1000000000 by omega)]; rfl
          · rw [if_neg (fun h => g2 ((mlt _).1 h))]
            by_cases g3 : N < -1000000000
            · rw [if_pos ((mlt2 _).2 g3), if_pos g3]; rfl
            · rw [if_neg (fun h => g3 ((mlt2 _).1 h)), if_neg g3]
              simp only [neg9n, if_true]
        rw [hmax]
        simp only []
        by_cases g3 : N < -1000000000
        · rw [if_pos g3, fn9]
          show k (-1000000000) true = k (clip N) true
          unfold clip
          rw [if_pos g3]
        · rw [if_neg g3, fy (by omega) (by omega)]
          show k N true = k (clip N) true
          unfold clip
          rw [if_neg g3, if_neg g1]
  · have hnn : isNaNb .f32 x = false := by unfold isNaNb; rw [hx]
    obtain ⟨y, e1, e2⟩ := f2f_inf hx
    rw [hnn, e1]
    simp only [cK_false, flK]
    have q1 : ((FloatKind.format .f64).order y y != some Ordering.eq) = false := by
      show (!((FloatKind.format .f64).order y y == some Ordering.eq)) = false
      rw [ord_self_inf e2 e2]; rfl
    rw [q1, cK_false]
    have hab : FloatKind.f64.decode (absF y) = .infinity false := by rw [abs_read, e2]
    have q2 : ((FloatKind.format .f64).order (Int.toNat (iAndNot .u64 ((y : Nat) : Int) 9223372036854775808)) 9218868437227405311 == some Ordering.gt) = true := by
      show ((FloatKind.f64.decode (absF y)).order (FloatKind.f64.decode 9218868437227405311) == some Ordering.gt) = true
      obtain ⟨mM, iM, k1, k2, k3⟩ := kMax
      rw [hab, k1]; rfl
    rw [q2, cK_true]
    unfold wv
    rw [hx]
  · rw [hn, cK_true]
    obtain ⟨s, t, hd⟩ := isNaNb_iff.1 hn
    unfold wv
    rw [show FloatKind.f32.decode x = _ from hd]
end Go.AM.K
