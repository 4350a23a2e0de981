/- States as numbers, and bits. Plain. -/
import Derived.Test.YtcidonjhifjpaaaKC1
namespace Go.AM
set_option linter.unusedVariables false
set_option linter.unusedSimpArgs false

def num : List Bool → Nat
  | [] => 0
  | b :: r => b.toNat + 2 * num r
def lst (d n : Nat) : List Bool := (List.range d).map n.testBit
def flp (s : List Bool) (i : Nat) : List Bool := s.set i (!s.getD i false)

theorem num_lt : ∀ s : List Bool, num s < 2 ^ s.length
  | [] => by simp [num]
  | b :: r => by have := num_lt r; cases b <;> simp only [num, List.length_cons, Nat.pow_succ, Bool.toNat_true, Bool.toNat_false] <;> omega
theorem num_bit : ∀ (s : List Bool) (j : Nat), (num s).testBit j = s.getD j false
  | [], j => by simp [num]
  | b :: r, 0 => by cases b <;> simp [num, Nat.testBit_zero] <;> omega
  | b :: r, j + 1 => by
    rw [Nat.testBit_succ]
    have : (num (b :: r)) / 2 = num r := by cases b <;> simp only [num, Bool.toNat_true, Bool.toNat_false] <;> omega
    rw [this, num_bit r j]; rfl
@[simp] theorem lst_len {d n : Nat} : (lst d n).length = d := by simp [lst]
theorem lst_get {d n j : Nat} (h : j < d) : (lst d n).getD j false = n.testBit j := by
  simp [lst, List.getD_eq_getElem?_getD, h]
theorem num_lst {d n : Nat} (h : n < 2 ^ d) : num (lst d n) = n := by
  refine Nat.eq_of_testBit_eq fun j => ?_
  rw [num_bit]
  by_cases hj : j < d
  · exact lst_get hj
  · have h1 : n < 2 ^ j := Nat.lt_of_lt_of_le h (Nat.pow_le_pow_right (by decide) (by omega))
    rw [Nat.testBit_lt_two_pow h1]
    simp [lst, List.getD_eq_getElem?_getD, hj]
theorem lst_num {s : List Bool} : lst s.length (num s) = s := by
  refine List.ext_getElem (by simp) fun j h1 h2 => ?_
  have := lst_get (d := s.length) (n := num s) h2
  rw [num_bit, gD h2, gD h1] at this
  exact this
theorem lst_inj {s t : List Bool} (hl : s.length = t.length) (h : num s = num t) : s = t := by
  rw [← lst_num (s := s), ← lst_num (s := t), hl, h]
@[simp] theorem flp_len {s : List Bool} {i : Nat} : (flp s i).length = s.length := by simp [flp]
theorem flp_get {s : List Bool} {i j : Nat} (hi : i < s.length) : (flp s i).getD j false = if j = i then !s.getD i false else s.getD j false := by
  simp only [flp, List.getD_eq_getElem?_getD, List.getElem?_set]
  by_cases h : i = j
  · subst h; simp [hi]
  · have : ¬ j = i := fun h' => h h'.symm
    simp [h, this]
theorem num_flp {s : List Bool} {i : Nat} (hi : i < s.length) : num (flp s i) = num s ^^^ 2 ^ i := by
  refine Nat.eq_of_testBit_eq fun j => ?_
  rw [num_bit, flp_get hi, Nat.testBit_xor, num_bit, Nat.testBit_two_pow]
  by_cases h : j = i
  · subst h; simp
  · have : ¬ i = j := fun h' => h h'.symm
    simp [h, this]
theorem xor_lt {n d i : Nat} (h : n < 2 ^ d) (hi : i < d) : n ^^^ 2 ^ i < 2 ^ d := Nat.xor_lt_two_pow h (Nat.pow_lt_pow_right (by decide) hi)
theorem lst_flp {d n i : Nat} (h : n < 2 ^ d) (hi : i < d) : flp (lst d n) i = lst d (n ^^^ 2 ^ i) := by
  refine lst_inj (by simp) ?_
  rw [num_flp (by simpa using hi), num_lst h, num_lst (xor_lt h hi)]
theorem flp_flp {s : List Bool} {i : Nat} (hi : i < s.length) : flp (flp s i) i = s := by
  refine lst_inj (by simp) ?_
  rw [num_flp (by simpa using hi), num_flp hi, Nat.xor_assoc, Nat.xor_self, Nat.xor_zero]
theorem num_take {s : List Bool} : ∀ {i : Nat}, i < s.length → num (s.take (i + 1)) = num (s.take i) + (s.getD i false).toNat * 2 ^ i := by
  induction s with
  | nil => intro i h; simp at h
  | cons b r ih =>
    intro i h
    cases i with
    | zero => simp [num]
    | succ i =>
      have := ih (i := i) (by simpa using h)
      simp only [List.take_succ_cons, num, List.getD_cons_succ]
      rw [this, Nat.pow_succ, Nat.mul_add]
      have : 2 * ((r.getD i false).toNat * 2 ^ i) = (r.getD i false).toNat * (2 ^ i * 2) := by rw [Nat.mul_comm 2, Nat.mul_assoc]
      omega
theorem lst_succ {i n : Nat} : lst (i + 1) n = lst i n ++ [n.testBit i] := by simp [lst, List.range_succ]

/-! ### The program's bits -/

def bitN (n : Int) (j : Nat) : Bool := (iAnd .i64 (Int.fdiv n (2 ^ (min j 64))) 1) == 1
def bitC : Bool := (List.range 256).all fun n => (List.range 8).all fun i => (bitN n i == n.testBit i) && (iXor .i64 (n : Int) (w64 (1 * 2 ^ (min i 64))) == ((n ^^^ 2 ^ i : Nat) : Int)) && (decide (2 ^ i ≤ n) || (iOr .i64 (n : Int) (w64 (1 * 2 ^ (min i 64))) == ((n + 2 ^ i : Nat) : Int)))
theorem bitC_ok : bitC = true := by decide +kernel
theorem bit_all {n i : Nat} (hn : n < 256) (hi : i < 8) : bitN n i = n.testBit i ∧ iXor .i64 (n : Int) (w64 (1 * 2 ^ (min i 64))) = ((n ^^^ 2 ^ i : Nat) : Int) ∧ (n < 2 ^ i → iOr .i64 (n : Int) (w64 (1 * 2 ^ (min i 64))) = ((n + 2 ^ i : Nat) : Int)) := by
  have h := List.all_eq_true.1 (List.all_eq_true.1 bitC_ok n (List.mem_range.2 hn)) i (List.mem_range.2 hi)
  simp only [Bool.and_eq_true, Bool.or_eq_true, beq_iff_eq, decide_eq_true_eq] at h
  exact ⟨h.1.1, h.1.2, fun h' => by rcases h.2 with h2 | h2 <;> first | exact h2 | omega⟩
theorem pow8 {d : Nat} (h : d ≤ 8) : 2 ^ d ≤ 256 := Nat.pow_le_pow_right (n := 2) (by decide) h

end Go.AM
