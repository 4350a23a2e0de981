/- Chapter 8: names. -/
import Derived.Test.YtcidonjhifjpaaaKTwc
import Derived.Test.YtcidonjhifjpaaaKP1
namespace Go.AM.K
variable {α : Type}
set_option linter.unusedVariables false
set_option linter.unusedSimpArgs false

def letB (c : Int) : Bool := (decide (97 ≤ c) && decide (c ≤ 122)) || (decide (65 ≤ c) && decide (c ≤ 90))
def badB (i c : Int) (lt : Bool) : Bool := !lt && (i == 0 || (c != 45 && (decide (c < 48) || decide (57 < c))))
theorem J107_0 {c : Int} {k : Bool → Option α} : J107_0_0 α c k = k (letB c) := by
  simp only [J107_0_0, J107_0_0g, letB]
  by_cases h1 : 97 ≤ c <;> by_cases h2 : c ≤ 122 <;> by_cases h3 : 65 ≤ c <;> by_cases h4 : c ≤ 90 <;> simp [h1, h2, h3, h4]
theorem J100_0 {c : Int} {k : Bool → Option α} : J100_0_0 α c k = k (letB c) := J107_0
theorem J107_1 {i c : Int} {b : Bool} {k : Bool → Option α} : J107_0_1 α i c b k = k (badB i c b) := by
  simp only [J107_0_1, J107_0_1g, badB]
  cases b <;> cases hi : (i == 0) <;> cases hc : (c != 45) <;> by_cases h3 : c < 48 <;> simp [h3]
theorem J100_1 {i c : Int} {b : Bool} {k : Bool → Option α} : J100_0_1 α i c b k = k (badB i c b) := J107_1

def gtU (bs : List UInt8) (i : Nat) : Int := ((bs.getD i 0).toNat : Int)
def nmL (bs : List UInt8) : Nat → Nat → Bool
  | 0, _ => true
  | m + 1, i => !(badB (i : Int) (gtU bs i) (letB (gtU bs i))) && nmL bs m (i + 1)

theorem R107 {s : ByteArray} (hl : s.data.toList.length < 9223372036854775807) {k1 fin : Option α} {k2 : Int → Bool → Option α} (hk : ∀ a b, k2 a b = fin) : ∀ (m i n : Nat), i + m = s.data.toList.length → m < n →
    R107_0_2 α s k1 k2 n (i : Int) = if nmL s.data.toList m i = true then fin else k1 := by
  intro m
  induction m with
  | zero =>
    intro i n h1 h2
    obtain ⟨n, rfl⟩ : ∃ k, n = k + 1 := ⟨n - 1, by omega⟩
    have : ¬ ((i : Int) < ((ByteArray.size s : Nat) : Int)) := by show ¬ ((i : Int) < ((s.data.size : Nat) : Int)); have e : s.data.toList.length = s.data.size := Array.length_toList; omega
    simp only [R107_0_2, S107_0_2, S107_0_2g, this, decide_false, cK_false, hk, nmL, if_true]
  | succ m ih =>
    intro i n h1 h2
    obtain ⟨n, rfl⟩ : ∃ k, n = k + 1 := ⟨n - 1, by omega⟩
    have hii : i < s.data.size := by have e : s.data.toList.length = s.data.size := Array.length_toList; omega
    have : ((i : Int) < ((ByteArray.size s : Nat) : Int)) := by show ((i : Int) < ((s.data.size : Nat) : Int)); omega
    have hs : ∀ f : UInt8 → Option α, sixK s (i : Int) f = f (s.data.toList.getD i 0) := fun f => by
      have h0 : (0 : Int) ≤ (i : Int) := by omega
      have hii' : i < s.size := hii
      simp [sixK, h0, hii, hii']
      rfl
    simp only [R107_0_2, S107_0_2, S107_0_2g, this, decide_true, cK_true, hs, J107_0, J107_1]
    rw [w64_nat (N := s.data.toList.length) (by simp; omega) hl, ih (i + 1) n (by omega) (by omega)]
    have e : nmL s.data.toList (m + 1) i = (!(badB (i : Int) (gtU s.data.toList i) (letB (gtU s.data.toList i))) && nmL s.data.toList m (i + 1)) := rfl
    rw [e]
    show cK (badB (i : Int) (gtU s.data.toList i) (letB (gtU s.data.toList i))) _ _ = _
    cases badB (i : Int) (gtU s.data.toList i) (letB (gtU s.data.toList i)) <;> simp

theorem BR_len {s : ByteArray} : (bytesR s).length = s.data.toList.length := by simp [bytesR]
theorem BR_at {s : ByteArray} {i : Nat} (h : i < s.data.toList.length) : rowAt (bytesR s) i = [.v (.int .u8 (gtU s.data.toList i))] := by
  simp only [rowAt, List.getD_eq_getElem?_getD, bytesR, List.getElem?_map, List.getElem?_eq_getElem h, gtU]; rfl
theorem BR_ix {s : ByteArray} {i : Nat} (h : i < s.data.toList.length) {x : Option α} : ixK (bytesR s) (i : Int) 1 x = x := by
  have : decide ((0 : Int) ≤ (i : Int) ∧ (i : Int) < (((bytesR s).length : Nat) : Int) ∧ (rowAt (bytesR s) (i : Int).toNat).length = 1) = true := by
    rw [Int.toNat_natCast, BR_at h, BR_len]; exact decide_eq_true ⟨by omega, by omega, rfl⟩
  unfold ixK; rw [this]
theorem BR_ld {s : ByteArray} {i : Nat} (h : i < s.data.toList.length) {f : Int → Option α} : ldK (bytesR s) (Int.toNat (i : Int)) 0 [.int .u8] f = f (gtU s.data.toList i) := by
  have : decide ((i : Int).toNat < (bytesR s).length) = true := by rw [Int.toNat_natCast, BR_len]; exact decide_eq_true h
  unfold ldK; rw [this, Int.toNat_natCast, BR_at h]; rfl

theorem w64_le {i N : Nat} (h : i < N) (hN : N ≤ 9223372036854775807) : w64 ((i : Int) + 1) = ((i + 1 : Nat) : Int) := by
  rw [w64_in (by omega) (by omega)]; rfl
theorem R100 {s : ByteArray} (hl : s.data.toList.length ≤ 9223372036854775807) {k1 fin : Option α} {k2 : Int → Bool → Option α} (hk : ∀ a b, k2 a b = fin) : ∀ (m i n : Nat), i + m = s.data.toList.length → m < n →
    R100_0_2 α ((s.data.toList.length : Nat) : Int) (bytesR s) k1 k2 n (i : Int) = if nmL s.data.toList m i = true then fin else k1 := by
  intro m
  induction m with
  | zero =>
    intro i n h1 h2
    obtain ⟨n, rfl⟩ : ∃ k, n = k + 1 := ⟨n - 1, by omega⟩
    have : ¬ ((i : Int) < ((s.data.toList.length : Nat) : Int)) := by omega
    simp only [R100_0_2, S100_0_2, S100_0_2g, this, decide_false, cK_false, hk, nmL, if_true]
  | succ m ih =>
    intro i n h1 h2
    obtain ⟨n, rfl⟩ : ∃ k, n = k + 1 := ⟨n - 1, by omega⟩
    have hii : i < s.data.toList.length := by omega
    have : ((i : Int) < ((s.data.toList.length : Nat) : Int)) := by omega
    simp only [R100_0_2, S100_0_2, S100_0_2g, this, decide_true, cK_true, J100_0, J100_1]
    rw [BR_ix hii, BR_ld hii, w64_le (N := s.data.toList.length) hii hl, ih (i + 1) n (by omega) (by omega)]
    have e : nmL s.data.toList (m + 1) i = (!(badB (i : Int) (gtU s.data.toList i) (letB (gtU s.data.toList i))) && nmL s.data.toList m (i + 1)) := rfl
    rw [e]
    cases badB (i : Int) (gtU s.data.toList i) (letB (gtU s.data.toList i)) <;> simp

def isNm (s : ByteArray) : Bool := (decide (1 ≤ s.size) && decide (s.size ≤ 12)) && nmL s.data.toList s.data.toList.length 0
theorem f107_eq {s : ByteArray} {k : Bool → Option α} : f107_0 α s k = k (isNm s) := by
  have e : s.data.toList.length = s.size := Array.length_toList
  have := fuel_ge
  simp only [f107_0, f107_0g, isNm, L107_0_2]
  by_cases h1 : s.size < 1
  · have h1' : ((s.size : Nat) : Int) < 1 := by omega
    have h2 : ¬ 1 ≤ s.size := by omega
    simp [h1', h2]
  · have h1' : ¬ ((s.size : Nat) : Int) < 1 := by omega
    have h2 : 1 ≤ s.size := by omega
    simp only [h1', h2, decide_false, decide_true, cK_false, Bool.true_and]
    by_cases h3 : s.size ≤ 12
    · have h3' : ¬ (12 : Int) < ((s.size : Nat) : Int) := by omega
      simp only [h3, h3', decide_false, decide_true, cK_false, Bool.true_and]
      refine (R107 (s := s) (by omega) (fin := k true) (fun _ _ => rfl) s.data.toList.length 0 fuel (by omega) (by omega)).trans ?_
      cases nmL s.data.toList s.data.toList.length 0 <;> simp
    · have h3' : (12 : Int) < ((s.size : Nat) : Int) := by omega
      simp [h3, h3']

theorem emp_eq {s : ByteArray} : (s.toList == (⟨#[]⟩ : ByteArray).toList) = decide (s.size = 0) := by
  have h : s.toList = s.data.toList := by first | exact ByteArray.toList_eq .. | exact ByteArray.toList_toByteArray .. | (rw [ByteArray.toList, ByteArray.toList.loop]; simp) | simp
  have h2 : (⟨#[]⟩ : ByteArray).toList = [] := by first | exact ByteArray.toList_eq .. | exact ByteArray.toList_toByteArray .. | (rw [ByteArray.toList, ByteArray.toList.loop]; simp) | simp
  have e : s.data.toList.length = s.size := Array.length_toList
  rw [h, h2, ← e]
  cases s.data.toList <;> simp
theorem f100_eq {s : ByteArray} (hs : s.size ≤ 9223372036854775807) {k : Bool → Option α} : f100_0 α s k = k (isNm s) := by
  have e : s.data.toList.length = s.size := Array.length_toList
  have hf := fuel_ge
  have hg : decide (s.size ≤ 9223372036854775807) = true := decide_eq_true (by omega)
  simp only [f100_0, f100_0g, isNm, L100_0_2, hg, gK_true, BR_len, emp_eq]
  by_cases h9 : s.size ≤ 9223372036854775807
  · refine (R100 (s := s) (by omega) (fin := cK (!decide (s.size = 0)) (k (decide (((s.size : Nat) : Int) ≤ 12))) (k false)) (fun _ _ => rfl) s.data.toList.length 0 fuel (by omega) (by omega)).trans ?_
    cases nmL s.data.toList s.data.toList.length 0
    · simp
    · by_cases h1 : s.size = 0
      · simp [h1]
      · have h2 : 1 ≤ s.size := by omega
        have h3 : ((s.size : Nat) : Int) ≤ 12 ↔ s.size ≤ 12 := by omega
        simp [h1, h2, h3]
  · exact absurd hs h9

end Go.AM.K
