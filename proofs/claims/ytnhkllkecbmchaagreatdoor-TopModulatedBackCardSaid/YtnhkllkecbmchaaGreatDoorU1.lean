/- Plain laws of the meter. -/
import Derived.Test.YtnhkllkecbmchaaGreatDoorTM1
import Derived.Test.YtnhkllkecbmchaaGreatDoorKNa
-- MR1
namespace Go.AM.K
set_option linter.unusedSectionVars false
set_option linter.unusedVariables false
set_option linter.unusedSimpArgs false
variable {α : Type}
end Go.AM.K
-- MB1
namespace Go.AM.K
set_option linter.unusedVariables false
set_option linter.unusedSimpArgs false
variable {α : Type}
theorem f216_eq {n d : Int} (hd : 0 < d) (hd2 : d <= 9223372036854775807) (hn : -9223372036854775807 <= n) (hn2 : n <= 9223372036854775807) {k : Int -> Option α} : f216_0 α n d k = k (n / d) := by
  have h0 : (d != 0) = true := by simp; omega
  simp only [f216_0, f216_0g, gK_of h0, cK_dec]
  have hm := Int.emod_add_mul_ediv n d
  have e1 := Int.emod_nonneg n (Int.ne_of_gt hd)
  have e2 := Int.emod_lt_of_pos n hd
  have e3 := Int.tmod_add_mul_tdiv n d
  by_cases hp : 0 <= n
  · have q1 : Int.tdiv n d = n / d := Int.tdiv_eq_ediv_of_nonneg hp
    have q2 : 0 <= n / d := Int.ediv_nonneg hp (by omega)
    have q9993 : n / d <= n := Int.ediv_le_self _ hp
    rw [if_neg (by rw [Int.tmod_eq_emod_of_nonneg hp]; omega), q1, w64_in (by omega) (by omega)]
  · have t1 : Int.tdiv n d = -((-n) / d) := by
      rw [show n = -(-n) by omega, Int.neg_tdiv, Int.tdiv_eq_ediv_of_nonneg (by omega), Int.neg_neg]
    have t2 : Int.tmod n d = -((-n) % d) := by
      rw [show n = -(-n) by omega, Int.neg_tmod, Int.tmod_eq_emod_of_nonneg (by omega), Int.neg_neg]
    have q2 : 0 <= (-n) / d := Int.ediv_nonneg (by omega) (by omega)
    have q9993 : (-n) / d <= -n := Int.ediv_le_self _ (by omega)
    have m1 := Int.emod_nonneg (-n) (Int.ne_of_gt hd)
    have m2 := Int.emod_lt_of_pos (-n) hd
    have m3 := Int.emod_add_mul_ediv (-n) d
    rw [t1, t2]
    generalize (-n) / d = q at *
    generalize (-n) % d = r at *
    rw [w64_in (n := -q) (by omega) (by omega), w64_in (n := -q - 1) (by omega) (by omega)]
    by_cases hr : r = 0
    · rw [if_neg (by omega)]
      congr 1
      have := (Int.ediv_emod_unique (a := n) (q := -q) (r := 0) hd).2 ⟨by rw [Int.mul_neg]; omega, by omega, hd⟩
      exact this.1.symm
    · rw [if_pos (by omega)]
      congr 1
      have := (Int.ediv_emod_unique (a := n) (q := -q - 1) (r := d - r) hd).2 ⟨by rw [Int.mul_sub, Int.mul_neg]; omega, by omega, by omega⟩
      exact this.1.symm
theorem f121_eq {n d : Int} (hd : 0 < d) (hd2 : d <= 9223372036854775807) (hn : -9223372036854775807 <= n) (hn2 : n <= 9223372036854775807) {k : Int -> Option α} : f121_0 α n d k = k (cdv n d) := by
  simp only [f121_0, f121_0g]
  rw [w64_in (by omega) (by omega), f216_eq hd hd2 (by omega) (by omega)]
  have hb : -9223372036854775807 <= (0 - n) / d /\ (0 - n) / d <= 9223372036854775807 := by
    constructor
    · rw [Int.le_ediv_iff_mul_le hd]
      have : -9223372036854775807 * d <= -9223372036854775807 * 1 := Int.mul_le_mul_of_nonpos_left (by omega) (by omega)
      omega
    · have : (0 - n) / d < 9223372036854775808 := by
        rw [Int.ediv_lt_iff_lt_mul hd]
        have : 9223372036854775808 * 1 <= 9223372036854775808 * d := Int.mul_le_mul_of_nonneg_left (by omega) (by omega)
        omega
      omega
  rw [w64_in (by omega) (by omega)]
  unfold cdv
  rw [show 0 - n = -n by omega] at *
  congr 1; omega
theorem tdiv_nat (a b : Nat) : Int.tdiv (a : Int) (b : Int) = ((a / b : Nat) : Int) := rfl
end Go.AM.K
-- MB2
namespace Go.AM.K
open Ieee
set_option linter.unusedVariables false
set_option linter.unusedSimpArgs false
variable {α : Type}
theorem f215_eq {n lo hi : Int} {k : Bool -> Option α} : f215_0 α n lo hi k = k (decide (lo <= n /\ n <= hi)) := by
  simp only [f215_0, f215_0g]
  by_cases h : lo <= n <;> simp [h]
theorem f276_eq {n most : Int} (h1 : -1000000000000 <= most) (h2 : most <= 1000000000000) {k : Bool -> Option α} : f276_0 α n most k = k (decide (-most <= n /\ n <= most)) := by
  simp only [f276_0, f276_0g, f215_eq]
  rw [w64_in (by omega) (by omega), show 0 - most = -most by omega]
end Go.AM.K
-- ML1
namespace Go.AM.K
set_option linter.unusedVariables false
set_option linter.unusedSimpArgs false
variable {α : Type}
theorem f44_eq {n lo hi : Int} {k : Bool -> Option α} : f44_0 α n lo hi k = k (decide (lo <= n /\ n <= hi)) := f215_eq
theorem f131_pos {n d : Int} (hd : 0 < d) (hd2 : d <= 9223372036854775807) (hn : -9223372036854775807 <= n) (hn2 : n <= 9223372036854775807) {k : Int -> Option α} : f131_0 α n d k = k (n / d) := by
  rw [<- f216_eq hd hd2 hn hn2 (k := k)]
  simp only [f131_0, f131_0g, f216_0, f216_0g]
  congr 2
  have e0 : decide (d < 0) = false := decide_eq_false (by omega)
  rw [e0]
  by_cases h : n.tmod d = 0
  · rw [h, bne_self_eq_false, cK_false]; rfl
  · rw [bne_iff_ne.2 h, cK_true]
    by_cases hn0 : n < 0
    · have : n.tmod d < 0 := by
        have h2 : Int.tmod n d = -((-n) % d) := by
          rw [show n = -(-n) by omega, Int.neg_tmod, Int.tmod_eq_emod_of_nonneg (by omega), Int.neg_neg]
        have m1 := Int.emod_nonneg (-n) (Int.ne_of_gt hd)
        omega
      rw [decide_eq_true hn0, decide_eq_true this]; rfl
    · have : ¬ n.tmod d < 0 := by
        have m1 := Int.emod_nonneg n (Int.ne_of_gt hd)
        rw [Int.tmod_eq_emod_of_nonneg (by omega)]; omega
      rw [decide_eq_false hn0, decide_eq_false this]; rfl
theorem f131_neg {n d : Int} (hd : d < 0) (hd2 : -9223372036854775807 <= d) (hn : -9223372036854775807 <= n) (hn2 : n <= 9223372036854775807) {k : Int -> Option α} : f131_0 α n d k = k ((-n) / (-d)) := by
  rw [<- f131_pos (n := -n) (d := -d) (by omega) (by omega) (by omega) (by omega) (k := k)]
  simp only [f131_0, f131_0g, Int.tdiv_neg, Int.neg_tdiv, Int.tmod_neg, Int.neg_tmod, Int.neg_neg]
  have e0 : (d != 0) = true := bne_iff_ne.2 (by omega)
  have e1 : (-d != 0) = true := bne_iff_ne.2 (by omega)
  rw [gK_of e0, gK_of e0, gK_of e1, gK_of e1]
  by_cases h : n.tmod d = 0
  · rw [h]; rfl
  · have h' : ¬ -(n.tmod d) = 0 := by omega
    rw [bne_iff_ne.2 h, bne_iff_ne.2 h', cK_true, cK_true, decide_eq_true (show d < 0 from hd), decide_eq_false (show ¬ -d < 0 by omega)]
    have hn0 : n ≠ 0 := by rintro rfl; simp at h
    by_cases hn0' : n < 0
    · rw [decide_eq_true hn0', decide_eq_false (show ¬ -n < 0 by omega)]; rfl
    · rw [decide_eq_false hn0', decide_eq_true (show -n < 0 by omega)]; rfl
theorem div_neg_bd {n d : Int} (hd : 0 < d) (hn : -9223372036854775807 <= n) (hn2 : n <= 9223372036854775807) : -9223372036854775807 <= n / d /\ n / d <= 9223372036854775807 := by
  constructor
  · rw [Int.le_ediv_iff_mul_le hd]
    have : -9223372036854775807 * d <= -9223372036854775807 * 1 := Int.mul_le_mul_of_nonpos_left (by omega) (by omega)
    omega
  · have : n / d < 9223372036854775808 := by
      rw [Int.ediv_lt_iff_lt_mul hd]
      have : 9223372036854775808 * 1 <= 9223372036854775808 * d := Int.mul_le_mul_of_nonneg_left (by omega) (by omega)
      omega
    omega
theorem f132_pos {n d : Int} (hd : 0 < d) (hd2 : d <= 9223372036854775807) (hn : -9223372036854775807 <= n) (hn2 : n <= 9223372036854775807) {k : Int -> Option α} : f132_0 α n d k = k (cdv n d) := by
  simp only [f132_0, f132_0g]
  rw [w64_in (by omega) (by omega), f131_pos hd hd2 (by omega) (by omega)]
  have := div_neg_bd (n := 0 - n) hd (by omega) (by omega)
  rw [w64_in (by omega) (by omega)]
  unfold cdv
  rw [show 0 - n = -n by omega]
  congr 1; omega
theorem f132_neg {n d : Int} (hd : d < 0) (hd2 : -9223372036854775807 <= d) (hn : -9223372036854775807 <= n) (hn2 : n <= 9223372036854775807) {k : Int -> Option α} : f132_0 α n d k = k (cdv (-n) (-d)) := by
  simp only [f132_0, f132_0g]
  rw [w64_in (by omega) (by omega), f131_neg hd hd2 (by omega) (by omega)]
  have := div_neg_bd (n := -(0 - n)) (d := -d) (by omega) (by omega) (by omega)
  rw [w64_in (by omega) (by omega)]
  unfold cdv
  rw [show 0 - n = -n by omega]
  congr 1; omega
def rgE (most lo hi : Int) : Int := if (-most <= lo /\ lo <= most) /\ -most <= hi /\ hi <= most then (if hi < lo then 10 else 0) else 2
def fst3 (a b c : Int) : Int := if a ≠ 0 then a else if b ≠ 0 then b else c
theorem rgE_cases (most lo hi : Int) : (rgE most lo hi = 0 /\ (-most <= lo /\ lo <= most) /\ (-most <= hi /\ hi <= most) /\ lo <= hi) \/ rgE most lo hi = 10 \/ rgE most lo hi = 2 := by
  unfold rgE
  split
  · split
    · exact .inr (.inl rfl)
    · exact .inl ⟨rfl, by omega⟩
  · exact .inr (.inr rfl)
theorem f245_eq {lo hi most : Int} (h1 : -1000000000000 <= most) (h2 : most <= 1000000000000) {k : Int -> Option α} : f245_0 α lo hi most k = k (rgE most lo hi) := by
  simp only [f245_0, f245_0g, J245_0_0, J245_0_0g, f276_eq h1 h2]
  unfold rgE
  by_cases a : -most <= lo /\ lo <= most
  · by_cases b : -most <= hi /\ hi <= most
    · rw [decide_eq_true a, decide_eq_true b, if_pos ⟨a, b⟩]
      by_cases c : hi < lo
      · rw [decide_eq_true c, if_pos c]; rfl
      · rw [decide_eq_false c, if_neg c]; rfl
    · rw [decide_eq_true a, decide_eq_false b, if_neg (fun h => b h.2)]; rfl
  · rw [decide_eq_false a, if_neg (fun h => a h.1)]; rfl
theorem f174_3 {a b c d e f most : Int} (h1 : -1000000000000 <= most) (h2 : most <= 1000000000000) {k : Int -> Option α} :
    f174_0 α most [[.v (.int .i64 a), .v (.int .i64 b)], [.v (.int .i64 c), .v (.int .i64 d)], [.v (.int .i64 e), .v (.int .i64 f)]] k = k (fst3 (rgE most a b) (rgE most c d) (rgE most e f)) := by
  obtain ⟨z, hz⟩ : ∃ z, fuel = z + 4 := ⟨fuel - 4, by have := fuel_ge; omega⟩
  simp only [f174_0, f174_0g, L174_0_0, hz, R174_0_0, S174_0_0, S174_0_0g]
  have r0 : ∀ g : Int -> Int -> Option α, rowK [[.v (.int .i64 a), .v (.int .i64 b)], [.v (.int .i64 c), .v (.int .i64 d)], [.v (.int .i64 e), .v (.int .i64 f)]] 0 [.int .i64, .int .i64] g = g a b := fun g => rfl
  have r1 : ∀ g : Int -> Int -> Option α, rowK [[.v (.int .i64 a), .v (.int .i64 b)], [.v (.int .i64 c), .v (.int .i64 d)], [.v (.int .i64 e), .v (.int .i64 f)]] 1 [.int .i64, .int .i64] g = g c d := fun g => rfl
  have r2 : ∀ g : Int -> Int -> Option α, rowK [[.v (.int .i64 a), .v (.int .i64 b)], [.v (.int .i64 c), .v (.int .i64 d)], [.v (.int .i64 e), .v (.int .i64 f)]] 2 [.int .i64, .int .i64] g = g e f := fun g => rfl
  have l3 : ((List.length [[DC.v (.int .i64 a), .v (.int .i64 b)], [.v (.int .i64 c), .v (.int .i64 d)], [.v (.int .i64 e), .v (.int .i64 f)]] : Nat) : Int) = 3 := rfl
  rw [l3, show decide ((0 : Int) < 3) = true by decide, show w64 (0 + 1) = 1 by decide, show decide ((1 : Int) < 3) = true by decide, show w64 (1 + 1) = 2 by decide, show decide ((2 : Int) < 3) = true by decide, show w64 (2 + 1) = 3 by decide, show decide ((3 : Int) < 3) = false by decide]
  simp only [cK_true, cK_false, r0, r1, r2, f245_eq h1 h2]
  unfold fst3
  by_cases h : rgE most a b = 0
  · rw [h, bne_self_eq_false, cK_false, if_neg (by simp)]
    by_cases h' : rgE most c d = 0
    · rw [h', bne_self_eq_false, cK_false, if_neg (by simp)]
      by_cases h'' : rgE most e f = 0
      · rw [h'', bne_self_eq_false, cK_false]
      · rw [bne_iff_ne.2 h'', cK_true]
    · rw [bne_iff_ne.2 h', cK_true, if_pos h']
  · rw [bne_iff_ne.2 h, cK_true, if_pos h]
theorem cK_ne {n : Int} {x y : Option α} : cK (n != 0) x y = if n ≠ 0 then x else y := by
  by_cases h : n = 0
  · rw [h]; rfl
  · rw [bne_iff_ne.2 h, if_pos h]; rfl
end Go.AM.K
-- ML2
namespace Go.AM.K
set_option linter.unusedVariables false
set_option linter.unusedSimpArgs false
variable {α : Type}
theorem tl_loop (bs : ByteArray) : ∀ (m i : Nat) (r : List UInt8), i + m = bs.size -> ByteArray.toList.loop bs i r = r.reverse ++ bs.data.toList.drop i := by
  intro m
  induction m with
  | zero =>
    intro i r h
    unfold ByteArray.toList.loop
    rw [if_neg (by omega), List.drop_eq_nil_of_le (by simp; show bs.size <= i; omega), List.append_nil]
  | succ m ih =>
    intro i r h
    unfold ByteArray.toList.loop
    have hi : i < bs.data.toList.length := by simp; show i < bs.size; omega
    rw [if_pos (by omega), ih (i + 1) _ (by omega), List.drop_eq_getElem_cons hi]
    have : bs.get! i = bs.data.toList[i] := by
      show bs.data[i]! = _
      have h2 : i < bs.data.size := by show i < bs.size; omega
      rw [getElem!_pos bs.data i h2]; simp
    rw [this]
    simp
theorem toList_data (bs : ByteArray) : bs.toList = bs.data.toList := by
  unfold ByteArray.toList
  rw [tl_loop bs bs.size 0 [] (by omega)]; simp
theorem cK_bad {b c : Bool} {x y : Option α} : cK b x (if c = true then y else x) = if (!b && c) = true then y else x := by cases b <;> cases c <;> rfl
theorem bytesR_len (s : ByteArray) : (bytesR s).length = s.size := by simp [bytesR]
theorem bytesR_get {s : ByteArray} {i : Nat} (h : i < s.data.toList.length) : (bytesR s)[i]? = some [.v (.int .u8 (s.data.toList[i]'h).toNat)] := by
  simp only [bytesR, List.getElem?_map, List.getElem?_eq_getElem h]; rfl
theorem ix_byte {s : ByteArray} {i : Nat} (h : i < s.data.toList.length) {x : Option α} : ixK (bytesR s) (i : Int) 1 x = x := by
  have h1 := bytesR_get h
  have h2 : i < (bytesR s).length := by rw [bytesR_len]; simpa using h
  unfold ixK
  have : rowAt (bytesR s) (i : Int).toNat = [.v (.int .u8 (s.data.toList[i]'h).toNat)] := by
    simp [rowAt, List.getD_eq_getElem?_getD, h1]
  rw [decide_eq_true (by rw [this]; exact ⟨by omega, by omega, rfl⟩)]
theorem ld_byte {s : ByteArray} {i : Nat} (h : i < s.data.toList.length) {f : Int -> Option α} : ldK (bytesR s) (Int.toNat (i : Int)) 0 [.int .u8] f = f ((s.data.toList[i]'h).toNat : Int) := by
  have h1 := bytesR_get h
  have h2 : i < (bytesR s).length := by rw [bytesR_len]; simpa using h
  unfold ldK
  have : rowAt (bytesR s) (i : Int).toNat = [.v (.int .u8 (s.data.toList[i]'h).toNat)] := by
    simp [rowAt, List.getD_eq_getElem?_getD, h1]
  rw [decide_eq_true (show Int.toNat (i : Int) < (bytesR s).length by simpa using h2), this]
  rfl
def ltrB (c : Int) : Bool := (decide (97 <= c) && decide (c <= 122)) || (decide (65 <= c) && decide (c <= 90))
def badB (i c : Int) (l : Bool) : Bool := !l && ((i == 0) || ((c != 45) && (decide (c < 48) || decide (57 < c))))
theorem J219_0_eq {c : Int} {k : Bool -> Option α} : J219_0_0 α c k = k (ltrB c) := by
  simp only [J219_0_0, J219_0_0g]
  unfold ltrB
  by_cases a : 97 <= c <;> by_cases b : c <= 122 <;> by_cases d : 65 <= c <;> simp [a, b, d]
theorem J219_1_eq {i c : Int} {l : Bool} {k : Bool -> Option α} : J219_0_1 α i c l k = k (badB i c l) := by
  simp only [J219_0_1, J219_0_1g]
  unfold badB
  cases l
  · by_cases a : i = 0
    · rw [a]; rfl
    · have a' : (i == 0) = false := beq_eq_false_iff_ne.2 a
      rw [a']
      by_cases b : c = 45
      · rw [b]; rfl
      · have b' : (c != 45) = true := bne_iff_ne.2 b
        rw [b']
        by_cases d : c < 48 <;> simp [d]
  · rfl
def nmAll : List UInt8 -> Nat -> Bool
  | [], _ => true
  | b :: r, i => !badB (i : Int) (b.toNat : Int) (ltrB (b.toNat : Int)) && nmAll r (i + 1)
def nmB (s : ByteArray) : Bool := nmAll s.data.toList 0 && (decide (1 <= s.size) && decide (s.size <= 12))
theorem R219_eq {s : ByteArray} (hs : s.size <= 9223372036854775807) {k1 : Option α} {k2 : Int -> Bool -> Option α} : ∀ (m i n : Nat), i + m = s.size -> m < n ->
    R219_0_2 α (s.size : Int) (bytesR s) k1 k2 n (i : Int) = if nmAll (s.data.toList.drop i) i = true then k2 (s.size : Int) false else k1 := by
  have hl : s.data.toList.length = s.size := by simp
  intro m
  induction m with
  | zero =>
    intro i n h1 h2
    obtain ⟨n, rfl⟩ : ∃ z, n = z + 1 := ⟨n - 1, by omega⟩
    rw [List.drop_eq_nil_of_le (by omega)]
    have hi : i = s.size := by omega
    simp only [R219_0_2, S219_0_2, S219_0_2g, nmAll, if_true]
    rw [hi, decide_eq_false (by omega)]; rfl
  | succ m ih =>
    intro i n h1 h2
    obtain ⟨n, rfl⟩ : ∃ z, n = z + 1 := ⟨n - 1, by omega⟩
    have hi : i < s.data.toList.length := by omega
    rw [List.drop_eq_getElem_cons hi]
    simp only [R219_0_2, S219_0_2, S219_0_2g, nmAll]
    rw [decide_eq_true (by omega), cK_true, ix_byte hi, ld_byte hi, J219_0_eq, J219_1_eq, w64_in (by omega) (by omega), show (i : Int) + 1 = ((i + 1 : Nat) : Int) by omega, ih (i + 1) n (by omega) (by omega)]
    exact cK_bad
theorem f219_eq {s : ByteArray} (hs : s.size <= 9223372036854775807) {k : Bool -> Option α} : f219_0 α s k = k (nmB s) := by
  have hf := fuel_ge
  simp only [f219_0, f219_0g, L219_0_2, bytesR_len]
  rw [decide_eq_true hs, gK_true, show ((0 : Int)) = ((0 : Nat) : Int) from rfl, R219_eq hs s.size 0 fuel (by omega) (by omega), List.drop_zero]
  unfold nmB
  cases nmAll s.data.toList 0
  · rfl
  · rw [if_pos rfl]
    have e : (s.toList == (⟨#[]⟩ : ByteArray).toList) = decide (s.size = 0) := by
      have : (s.toList == (⟨#[]⟩ : ByteArray).toList) = (s.data.toList == []) := by rw [toList_data, toList_data]
      rw [this]
      by_cases h0 : s.size = 0
      · have : s.data.toList = [] := List.eq_nil_of_length_eq_zero (by rw [Array.length_toList]; exact h0)
        rw [this, decide_eq_true h0]; rfl
      · rw [decide_eq_false h0]
        have : s.data.toList ≠ [] := fun h => h0 (by have := congrArg List.length h; simpa using this)
        exact beq_eq_false_iff_ne.2 this
    rw [e]
    by_cases h0 : s.size = 0
    · simp [h0]
    · rw [decide_eq_false h0, Bool.not_false, cK_true, decide_eq_true (show 1 <= s.size by omega), Bool.true_and, Bool.true_and]
      congr 1
      exact decide_eq_decide.2 (by omega)
def plE (s : ByteArray) (w i n : Int) : Int := if nmB s = true then (if (1000 <= w /\ w <= 200000) /\ (5000 <= i /\ i <= 80000) /\ 0 <= n /\ n <= 9999 then 0 else 2) else 3
theorem plK {w i n : Int} {b : Bool} {k : Int -> Option α} : cK (!b) (k 3) (cK (!decide (1000 <= w /\ w <= 200000)) (k 2) (cK (!decide (5000 <= i /\ i <= 80000)) (k 2) (cK (!decide (0 <= n /\ n <= 9999)) (k 2) (k 0)))) = k (if b = true then (if (1000 <= w /\ w <= 200000) /\ (5000 <= i /\ i <= 80000) /\ 0 <= n /\ n <= 9999 then 0 else 2) else 3) := by
  cases b
  · rfl
  · rw [Bool.not_true, cK_false, if_pos rfl]
    by_cases a : 1000 <= w /\ w <= 200000
    · by_cases b : 5000 <= i /\ i <= 80000
      · by_cases c : 0 <= n /\ n <= 9999
        · rw [decide_eq_true a, decide_eq_true b, decide_eq_true c, if_pos ⟨a, b, c⟩]; rfl
        · rw [decide_eq_true a, decide_eq_true b, decide_eq_false c, if_neg (fun h => c h.2.2)]; rfl
      · rw [decide_eq_true a, decide_eq_false b, if_neg (fun h => b h.2.1)]; rfl
    · rw [decide_eq_false a, if_neg (fun h => a h.1)]; rfl
theorem f124_eq {s : ByteArray} (hs : s.size <= 9223372036854775807) {w i n : Int} {k : Int -> Option α} : f124_0 α s w i n k = k (plE s w i n) := by
  simp only [f124_0, f124_0g, f219_eq hs, f215_eq]
  exact plK
def rdE (s : ByteArray) (w i n a b c d e f : Int) : Int := if plE s w i n ≠ 0 then plE s w i n else fst3 (rgE 1048576 a b) (rgE 1048576 c d) (rgE 1048576 e f)
theorem f82_eq {s : ByteArray} (hs : s.size <= 9223372036854775807) {w i n a b c d e f : Int} {k : Int -> Option α} : f82_0 α s w i n a b c d e f k = k (rdE s w i n a b c d e f) := by
  simp only [f82_0, f82_0g, f124_eq hs, cK_ne]
  unfold rdE
  split
  · rfl
  · exact f174_3 (by decide) (by decide)
end Go.AM.K
-- ML3
namespace Go.AM.K
set_option linter.unusedVariables false
set_option linter.unusedSimpArgs false
variable {α : Type}
def smE (a b c d e f : Int) : Int := fst3 (rgE 10000000 a b) (rgE 10000000 c d) (rgE 10000000 e f)
theorem f125_eq {a b c d e f : Int} {k : Int -> Option α} : f125_0 α a b c d e f k = k (smE a b c d e f) := by
  simp only [f125_0, f125_0g]
  exact f174_3 (by decide) (by decide)
theorem smE_ok {a b c d e f : Int} (h : smE a b c d e f = 0) : ((-10000000 <= a /\ a <= 10000000) /\ (-10000000 <= b /\ b <= 10000000) /\ a <= b) /\ ((-10000000 <= c /\ c <= 10000000) /\ (-10000000 <= d /\ d <= 10000000) /\ c <= d) /\ (-10000000 <= e /\ e <= 10000000) /\ (-10000000 <= f /\ f <= 10000000) /\ e <= f := by
  unfold smE fst3 at h
  rcases rgE_cases 10000000 a b with ⟨h1, h2⟩ | h1 | h1 <;> rcases rgE_cases 10000000 c d with ⟨h3, h4⟩ | h3 | h3 <;> rcases rgE_cases 10000000 e f with ⟨h5, h6⟩ | h5 | h5 <;> rw [h1, h3, h5] at h <;> simp at h
  exact ⟨h2, h4, h6⟩
def ratLo (r0 a0 a1 : Int) : Int := 2 * r0 * 1048576 / (if r0 < 0 then a0 else a1)
def ratHi (r1 a0 a1 : Int) : Int := cdv (2 * r1 * 1048576) (if r1 < 0 then a1 else a0)
def cutE (x y : Int) : Int := if 1048576 < x \/ y < -1048576 then 24 else 0
def cut1 (x y : Int) : Int := if 1048576 < x \/ y < -1048576 then 0 else if -1048576 > x then -1048576 else x
def cut2 (x y : Int) : Int := if 1048576 < x \/ y < -1048576 then 0 else if 1048576 < y then 1048576 else y
theorem f134_eq {x y : Int} {k : Int -> Int -> Int -> Option α} : f134_0 α x y k = k (cut1 x y) (cut2 x y) (cutE x y) := by
  simp only [f134_0, f134_0g]
  unfold cut1 cut2 cutE
  by_cases a : 1048576 < x
  · rw [decide_eq_true a, cK_true, if_pos (.inl a), if_pos (.inl a), if_pos (.inl a)]
  · rw [decide_eq_false a, cK_false]
    by_cases b : y < -1048576
    · rw [decide_eq_true b, cK_true, if_pos (.inr b), if_pos (.inr b), if_pos (.inr b)]
    · have : ¬ (1048576 < x \/ y < -1048576) := by rintro (h | h); exact a h; exact b h
      rw [decide_eq_false b, cK_false, if_neg this, if_neg this, if_neg this]
def ratK (a b c d e f : Int) (k : Int -> Int -> Int -> Int -> Int -> Option α) : Option α :=
  if a <= 0 then k 0 0 0 0 9
  else if cutE (ratLo c a b) (ratHi d a b) ≠ 0 then k 0 0 0 0 (cutE (ratLo c a b) (ratHi d a b))
  else if cutE (ratLo e a b) (ratHi f a b) ≠ 0 then k 0 0 0 0 (cutE (ratLo e a b) (ratHi f a b))
  else k (cut1 (ratLo c a b) (ratHi d a b)) (cut2 (ratLo c a b) (ratHi d a b)) (cut1 (ratLo e a b) (ratHi f a b)) (cut2 (ratLo e a b) (ratHi f a b)) 0
theorem J127_3_eq {i r0 r1 p q x y z w : Int} (h0 : -10000000 <= r0 /\ r0 <= 10000000) (h1 : -10000000 <= r1 /\ r1 <= 10000000) (ha : 0 < p) (ha1 : 0 < q) (hb : p <= 10000000) (hb1 : q <= 10000000) {k : Int -> Int -> Int -> Int -> Int -> Option α} :
    J127_0_3 α i p q x y z w r0 r1 k = (if i = 1 then k (cutE (2 * r0 * 1048576 / p) (cdv (2 * r1 * 1048576) q)) x y (cut1 (2 * r0 * 1048576 / p) (cdv (2 * r1 * 1048576) q)) (cut2 (2 * r0 * 1048576 / p) (cdv (2 * r1 * 1048576) q))
      else if i = 0 then k (cutE (2 * r0 * 1048576 / p) (cdv (2 * r1 * 1048576) q)) (cut1 (2 * r0 * 1048576 / p) (cdv (2 * r1 * 1048576) q)) (cut2 (2 * r0 * 1048576 / p) (cdv (2 * r1 * 1048576) q)) z w else none) := by
  simp only [J127_0_3, J127_0_3g]
  rw [w64_in (n := 2 * r0) (by omega) (by omega), w64_in (n := 2 * r1) (by omega) (by omega), w64_in (n := 2 * r0 * 1048576) (by omega) (by omega), w64_in (n := 2 * r1 * 1048576) (by omega) (by omega),
    f131_pos ha (by omega) (by omega) (by omega), f132_pos ha1 (by omega) (by omega) (by omega), f134_eq]
  by_cases hi : i = 1
  · rw [if_pos hi, hi]; rfl
  · rw [if_neg hi, beq_eq_false_iff_ne.2 hi, cK_false]
    by_cases hi0 : i = 0
    · rw [if_pos hi0, hi0]; rfl
    · rw [if_neg hi0, beq_eq_false_iff_ne.2 hi0, cK_false]
theorem S127_eq {a b c d e f i : Int} (ha : 0 < a) (hb : 0 < b) (ha2 : a <= 10000000) (hb2 : b <= 10000000) {x y z w : Int} {kn : Int -> Int -> Int -> Int -> Int -> Option α} {k1 : Int -> Option α} {k2 : Int -> Bool -> Int -> Int -> Int -> Int -> Option α} {r0 r1 : Int} (hi : i = 0 /\ r0 = c /\ r1 = d \/ i = 1 /\ r0 = e /\ r1 = f)
    (h0 : -10000000 <= r0 /\ r0 <= 10000000) (h1 : -10000000 <= r1 /\ r1 <= 10000000) : S127_0_5 α c d e f a b i x y z w kn k1 k2 =
    (if cutE (ratLo r0 a b) (ratHi r1 a b) ≠ 0 then k1 (cutE (ratLo r0 a b) (ratHi r1 a b)) else
      if i = 1 then kn 2 x y (cut1 (ratLo r0 a b) (ratHi r1 a b)) (cut2 (ratLo r0 a b) (ratHi r1 a b)) else kn 1 (cut1 (ratLo r0 a b) (ratHi r1 a b)) (cut2 (ratLo r0 a b) (ratHi r1 a b)) z w) := by
  have hJ : ∀ K : Int -> Int -> Option α, J127_0_0 α c d e f i K = K r0 r1 := by
    intro K
    rcases hi with ⟨rfl, rfl, rfl⟩ | ⟨rfl, rfl, rfl⟩ <;> rfl
  have hlt : decide (i < 2) = true := decide_eq_true (by omega)
  simp only [S127_0_5, S127_0_5g, hlt, cK_true, hJ, J127_0_1, J127_0_1g, J127_0_2, J127_0_2g, J127_0_4, J127_0_4g, J127_3_eq h0 h1 ha ha ha2 ha2, J127_3_eq h0 h1 ha hb ha2 hb2, J127_3_eq h0 h1 hb ha hb2 ha2, J127_3_eq h0 h1 hb hb hb2 hb2]
  unfold ratLo ratHi
  have w1 : w64 (i + 1) = i + 1 := w64_in (by omega) (by omega)
  rw [w1]
  by_cases p : r0 < 0
  · rw [decide_eq_true p, cK_true, if_pos p]
    by_cases q : r1 < 0
    · rw [decide_eq_true q, cK_true, if_pos q]
      rcases hi with ⟨rfl, _⟩ | ⟨rfl, _⟩
      · simp [cK_ne]
      · simp [cK_ne]
    · rw [decide_eq_false q, cK_false, if_neg q]
      rcases hi with ⟨rfl, _⟩ | ⟨rfl, _⟩
      · simp [cK_ne]
      · simp [cK_ne]
  · rw [decide_eq_false p, cK_false, if_neg p]
    by_cases q : r1 < 0
    · rw [decide_eq_true q, cK_true, if_pos q]
      rcases hi with ⟨rfl, _⟩ | ⟨rfl, _⟩
      · simp [cK_ne]
      · simp [cK_ne]
    · rw [decide_eq_false q, cK_false, if_neg q]
      rcases hi with ⟨rfl, _⟩ | ⟨rfl, _⟩
      · simp [cK_ne]
      · simp [cK_ne]
theorem f127_eq {a b c d e f : Int} {k : Int -> Int -> Int -> Int -> Int -> Option α} : f127_0 α a b c d e f k = if smE a b c d e f ≠ 0 then k 0 0 0 0 (smE a b c d e f) else ratK a b c d e f k := by
  obtain ⟨z, hz⟩ : ∃ z, fuel = z + 3 := ⟨fuel - 3, by have := fuel_ge; omega⟩
  simp only [f127_0, f127_0g, f125_eq, cK_ne, cK_dec]
  by_cases h : smE a b c d e f = 0
  · obtain ⟨h1, h2, h3⟩ := smE_ok h
    have hE : ¬ (smE a b c d e f ≠ 0) := fun hh => hh h
    simp only [if_neg hE]
    unfold ratK
    by_cases ha : a <= 0
    · rw [if_pos ha, if_pos ha]
    · rw [if_neg ha, if_neg ha]
      simp only [L127_0_5, hz, R127_0_5]
      rw [S127_eq (by omega) (by omega) (by omega) (by omega) (.inl ⟨rfl, rfl, rfl⟩) h2.1 h2.2.1]
      by_cases e1 : cutE (ratLo c a b) (ratHi d a b) = 0
      · have e1' : ¬ (cutE (ratLo c a b) (ratHi d a b) ≠ 0) := fun hh => hh e1
        simp only [if_neg e1', if_neg (show ¬ (0 : Int) = 1 by decide)]
        rw [S127_eq (by omega) (by omega) (by omega) (by omega) (.inr ⟨rfl, rfl, rfl⟩) h3.1 h3.2.1]
        by_cases e2 : cutE (ratLo e a b) (ratHi f a b) = 0
        · have e2' : ¬ (cutE (ratLo e a b) (ratHi f a b) ≠ 0) := fun hh => hh e2
          simp only [if_neg e2', if_pos]
          rfl
        · simp only [if_pos e2]
      · simp only [if_pos e1]
  · rw [if_pos h, if_pos h]
end Go.AM.K
-- MTN
namespace Go.AM.K
set_option linter.unusedVariables false
set_option linter.unusedSimpArgs false
variable {α : Type}
theorem cK_bne {a b : Int} {x y : Option α} : cK (a != b) x y = if a ≠ b then x else y := by
  by_cases h : a = b
  · rw [h, bne_self_eq_false]; simp
  · rw [bne_iff_ne.2 h, if_pos h]; rfl
theorem cK_beq {a b : Int} {x y : Option α} : cK (a == b) x y = if a = b then x else y := by
  by_cases h : a = b
  · rw [h, beq_self_eq_true]; simp
  · rw [beq_eq_false_iff_ne.2 h, if_neg h]; rfl
theorem mul_bd2 {x y A B : Int} (hx : -A <= x /\ x <= A) (hy : -B <= y /\ y <= B) : -(A * B) <= x * y /\ x * y <= A * B := by
  have hA : 0 <= A := by omega
  have hB : 0 <= B := by omega
  have key : ∀ u v : Int, 0 <= u -> u <= A -> 0 <= v -> v <= B -> u * v <= A * B := fun u v h1 h2 h3 h4 => Int.mul_le_mul h2 h4 h3 hA
  have nn : ∀ u v : Int, 0 <= u -> 0 <= v -> 0 <= u * v := fun u v h1 h2 => Int.mul_nonneg h1 h2
  by_cases h1 : 0 <= x <;> by_cases h2 : 0 <= y
  · have := key x y h1 hx.2 h2 hy.2; have := nn x y h1 h2; have := nn A B hA hB; omega
  · have := key x (-y) h1 hx.2 (by omega) (by omega); have := nn x (-y) h1 (by omega); rw [Int.mul_neg] at *; have := nn A B hA hB; omega
  · have := key (-x) y (by omega) (by omega) h2 hy.2; have := nn (-x) y (by omega) h2; rw [Int.neg_mul] at *; have := nn A B hA hB; omega
  · have := key (-x) (-y) (by omega) (by omega) (by omega) (by omega); have := nn (-x) (-y) (by omega) (by omega); rw [Int.neg_mul_neg] at *; have := nn A B hA hB; omega
def tnE (p q r : Int) : Int := if 1 <= r /\ r <= 1000 then (if ((-r <= p /\ p <= r) /\ -r <= q /\ q <= r) /\ p * p + q * q = r * r then 0 else 12) else 2
theorem f220_eq {n most : Int} (h1 : -1000000000000 <= most) (h2 : most <= 1000000000000) {k : Bool -> Option α} : f220_0 α n most k = k (decide (-most <= n /\ n <= most)) := by
  simp only [f220_0, f220_0g]
  rw [w64_in (by omega) (by omega), show 0 - most = -most by omega]
  by_cases h : -most <= n <;> simp [h]
theorem tnK {p q r : Int} (hr : 1 <= r /\ r <= 1000) {k : Int -> Option α} : cK (!decide (-r <= p /\ p <= r)) (k 12) (cK (!decide (-r <= q /\ q <= r)) (k 12) (cK ((w64 ((w64 (p * p)) + (w64 (q * q)))) != (w64 (r * r))) (k 12) (k 0))) = k (tnE p q r) := by
  unfold tnE
  rw [if_pos hr]
  by_cases a : -r <= p /\ p <= r
  · by_cases b : -r <= q /\ q <= r
    · have h1 := mul_bd2 (x := p) (y := p) (A := 1000) (B := 1000) (by omega) (by omega)
      have h2 := mul_bd2 (x := q) (y := q) (A := 1000) (B := 1000) (by omega) (by omega)
      have h3 := mul_bd2 (x := r) (y := r) (A := 1000) (B := 1000) (by omega) (by omega)
      rw [decide_eq_true a, decide_eq_true b, Bool.not_true, cK_false, cK_false, w64_in (n := p * p) (by omega) (by omega), w64_in (n := q * q) (by omega) (by omega), w64_in (n := r * r) (by omega) (by omega), w64_in (by omega) (by omega), cK_bne]
      by_cases c : p * p + q * q = r * r
      · rw [if_neg (fun h => h c), if_pos ⟨⟨a, b⟩, c⟩]
      · rw [if_pos c, if_neg (fun h => c h.2)]
    · rw [decide_eq_true a, decide_eq_false b, if_neg (fun h => b h.1.2)]; rfl
  · rw [decide_eq_false a, if_neg (fun h => a h.1.1)]; rfl
theorem f126_eq {p q r : Int} {k : Int -> Option α} : f126_0 α p q r k = k (tnE p q r) := by
  simp only [f126_0, f126_0g, J126_0_0, J126_0_0g]
  by_cases a : r < 1
  · rw [decide_eq_true a, cK_true, cK_true]
    unfold tnE; rw [if_neg (by omega)]
  · rw [decide_eq_false a, cK_false]
    by_cases b : 1000 < r
    · rw [decide_eq_true b, cK_true]
      unfold tnE; rw [if_neg (by omega)]
    · rw [decide_eq_false b, cK_false, f220_eq (by omega) (by omega)]
      simp only [f220_eq (show (-1000000000000 : Int) <= r by omega) (show r <= 1000000000000 by omega)]
      exact tnK (by omega)
theorem tnE_ok {p q r : Int} (h : tnE p q r = 0) : (1 <= r /\ r <= 1000) /\ (-r <= p /\ p <= r) /\ (-r <= q /\ q <= r) /\ p * p + q * q = r * r := by
  unfold tnE at h
  by_cases a : 1 <= r /\ r <= 1000
  · rw [if_pos a] at h
    by_cases b : ((-r <= p /\ p <= r) /\ -r <= q /\ q <= r) /\ p * p + q * q = r * r
    · exact ⟨a, b.1.1, b.1.2, b.2⟩
    · rw [if_neg b] at h; cases h
  · rw [if_neg a] at h; cases h
theorem tn_lt {p q r : Int} (h : tnE p q r = 0) (hq : q ≠ 0) : -r < p /\ p < r := by
  obtain ⟨h1, h2, h3, h4⟩ := tnE_ok h
  have hqq : 0 < q * q := by
    rcases Int.lt_or_gt_of_ne hq with h5 | h5
    · have := Int.mul_pos (a := -q) (b := -q) (by omega) (by omega); rwa [Int.neg_mul_neg] at this
    · exact Int.mul_pos h5 h5
  constructor
  · by_cases hc : -r < p
    · exact hc
    · have : p = -r := by omega
      subst this
      rw [Int.neg_mul_neg] at h4; omega
  · by_cases hc : p < r
    · exact hc
    · have : p = r := by omega
      subst this; omega
end Go.AM.K
