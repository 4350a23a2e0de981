/- A reading's text, and back. -/
import Derived.Test.YtnhkllkecbmchaaGreatDoorLT3
import Derived.Test.YtnhkllkecbmchaaGreatDoorU1
import Derived.Test.YtnhkllkecbmchaaGreatDoorTM2
namespace Go.AM.K
open Go.LT
set_option linter.unusedVariables false
set_option linter.unusedSimpArgs false
variable {α : Type}
abbrev bI (n : Int) : ByteArray := mkB (Lib.itoa n)
abbrev sm7 (n : Int) : Prop := -10000000 < n /\ n < 10000000
theorem itoa_len {n : Int} (h : sm7 n) : (Lib.itoa n).length <= 21 := Lib.itoa_length_le n (by omega) (by omega)
theorem word_ok {n : Int} (h : sm7 n) {k1 : Option α} {f : Int -> Option α} :
    f63_0 α (bI n) (fun v => f61_0 α v fun t => cK (!(t.toList == (bI n).toList)) k1 (f64_0 α (bI n) (⟨#[45]⟩ : ByteArray) fun u => cK (decide (7 < ((ByteArray.size u : Nat) : Int))) k1 (f v))) (fun _ => k1) = f n := by
  have hs : (bI n).size <= 281474976710656 := by have := itoa_len h; rw [size_mkB]; omega
  refine (word_law hs (k1 := k1) (f := f)).trans ?_
  rw [data_mkB, num_itoa h.1 h.2]
theorem f61_ok {n : Int} (h : sm7 n) {k : ByteArray -> Option α} : f61_0 α n k = k (bI n) := by
  show fItoa α n k = _
  unfold fItoa
  rw [if_pos ⟨by omega, by omega⟩]
theorem cut_join (c : UInt8) : ∀ (x : List UInt8) (r : List (List UInt8)), (∀ l ∈ x :: r, ∀ b ∈ l, b ≠ c) -> cutL c (Lib.join (x :: r) [c]) = x :: r
  | x, [], h => by rw [Lib.join_one]; exact cutL_none c x (h x (by simp))
  | x, y :: r, h => by
    have e : Lib.join (x :: y :: r) [c] = x ++ c :: Lib.join (y :: r) [c] := by
      rw [Lib.join_cons, Lib.join_cons]
      simp [Lib.joinTail]
    rw [e, cutL_append c x _ (h x (by simp)), cut_join c y r fun l hl => h l (List.mem_cons_of_mem _ hl)]
theorem join_len (x : List UInt8) (r : List (List UInt8)) {B : Nat} (hx : x.length <= B) (h : ∀ l ∈ r, l.length <= B) : (Lib.join (x :: r) [32]).length <= B + (B + 1) * r.length := by
  rw [Lib.join_cons]
  have : ∀ (r : List (List UInt8)), (∀ l ∈ r, l.length <= B) -> (Lib.joinTail [32] r).length <= (B + 1) * r.length := by
    intro r
    induction r with
    | nil => intro _; simp [Lib.joinTail]
    | cons y r ih =>
      intro h
      have h1 := ih fun l hl => h l (List.mem_cons_of_mem _ hl)
      have h2 := h y (by simp)
      simp only [Lib.joinTail, List.map_cons, List.flatten_cons, List.length_append, List.length_cons, List.length_nil] at h1 ⊢
      rw [Nat.mul_add, Nat.mul_one]
      omega
  have := this r h
  rw [List.length_append]
  omega
def rdW (s : List UInt8) (a b c d e f g h i : Int) : List (List UInt8) := [s, Lib.itoa a, Lib.itoa b, Lib.itoa c, Lib.itoa d, Lib.itoa e, Lib.itoa f, Lib.itoa g, Lib.itoa h, Lib.itoa i]
def rdT (s : List UInt8) (a b c d e f g h i : Int) : List UInt8 := Lib.join (rdW s a b c d e f g h i) [32]
section
variable {s : List UInt8} {a b c d e f g h i : Int} (hs : s.length <= 30) (ha : sm7 a) (hb : sm7 b) (hc : sm7 c) (hd : sm7 d) (he : sm7 e) (hf : sm7 f) (hg : sm7 g) (hh : sm7 h) (hi : sm7 i)
include hs ha hb hc hd he hf hg hh hi
theorem rdT_len : (rdT s a b c d e f g h i).length <= 400 := by
  have := join_len s [Lib.itoa a, Lib.itoa b, Lib.itoa c, Lib.itoa d, Lib.itoa e, Lib.itoa f, Lib.itoa g, Lib.itoa h, Lib.itoa i] (B := 30) hs (fun l hl => by
    simp only [List.mem_cons, List.not_mem_nil, or_false] at hl
    rcases hl with rfl | rfl | rfl | rfl | rfl | rfl | rfl | rfl | rfl
    · have := itoa_len ha; omega
    · have := itoa_len hb; omega
    · have := itoa_len hc; omega
    · have := itoa_len hd; omega
    · have := itoa_len he; omega
    · have := itoa_len hf; omega
    · have := itoa_len hg; omega
    · have := itoa_len hh; omega
    · have := itoa_len hi; omega)
  exact Nat.le_trans this (by simp)
theorem f16_ok {k : ByteArray -> Option α} : f16_0 α (mkB s) a b c d e f g h i k = k (mkB (rdT s a b c d e f g h i)) := by
  simp only [f16_0, f16_0g, f61_ok ha, f61_ok hb, f61_ok hc, f61_ok hd, f61_ok he, f61_ok hf, f61_ok hg, f61_ok hh, f61_ok hi]
  have hl := rdT_len hs ha hb hc hd he hf hg hh hi
  have e1 : [mkB s, bI a, bI b, bI c, bI d, bI e, bI f, bI g, bI h, bI i].map (fun x : ByteArray => x.data.toList) = rdW s a b c d e f g h i := by simp [rdW]
  show fJoin α (strRows [mkB s, bI a, bI b, bI c, bI d, bI e, bI f, bI g, bI h, bI i]) (⟨#[32]⟩ : ByteArray) _ = _
  unfold fJoin
  have e2 : (⟨#[32]⟩ : ByteArray).data.toList = [32] := rfl
  rw [strsOf_rows]
  simp only []
  rw [e1, if_pos (show jnOk [mkB s, bI a, bI b, bI c, bI d, bI e, bI f, bI g, bI h, bI i] ⟨#[32]⟩ = true from decide_eq_true ⟨by simp, by rw [e1, e2]; exact Nat.le_trans hl (by decide)⟩)]
  rfl
omit hs in
theorem f81_ok (hn : decide (0 <= Lib.indexByte s 10) = false) {k : ByteArray -> Int -> Int -> Int -> Int -> Int -> Int -> Int -> Int -> Int -> Bool -> Option α} :
    f81_0 α (strRows [mkB s, bI a, bI b, bI c, bI d, bI e, bI f, bI g, bI h, bI i]) k = k (mkB s) a b c d e f g h i true := by
  have r : ∀ (x0 x1 x2 x3 x4 x5 x6 x7 x8 x9 : ByteArray) (ff : ByteArray -> Option α), rowK (strRows [x0, x1, x2, x3, x4, x5, x6, x7, x8, x9]) 0 [.str] ff = ff x0 /\ rowK (strRows [x0, x1, x2, x3, x4, x5, x6, x7, x8, x9]) 1 [.str] ff = ff x1 /\
      rowK (strRows [x0, x1, x2, x3, x4, x5, x6, x7, x8, x9]) 2 [.str] ff = ff x2 /\ rowK (strRows [x0, x1, x2, x3, x4, x5, x6, x7, x8, x9]) 3 [.str] ff = ff x3 /\ rowK (strRows [x0, x1, x2, x3, x4, x5, x6, x7, x8, x9]) 4 [.str] ff = ff x4 /\ rowK (strRows [x0, x1, x2, x3, x4, x5, x6, x7, x8, x9]) 5 [.str] ff = ff x5 /\
      rowK (strRows [x0, x1, x2, x3, x4, x5, x6, x7, x8, x9]) 6 [.str] ff = ff x6 /\ rowK (strRows [x0, x1, x2, x3, x4, x5, x6, x7, x8, x9]) 7 [.str] ff = ff x7 /\ rowK (strRows [x0, x1, x2, x3, x4, x5, x6, x7, x8, x9]) 8 [.str] ff = ff x8 /\ rowK (strRows [x0, x1, x2, x3, x4, x5, x6, x7, x8, x9]) 9 [.str] ff = ff x9 :=
    fun _ _ _ _ _ _ _ _ _ _ _ => ⟨rfl, rfl, rfl, rfl, rfl, rfl, rfl, rfl, rfl, rfl⟩
  have hlen : (((List.length (strRows [mkB s, bI a, bI b, bI c, bI d, bI e, bI f, bI g, bI h, bI i]) : Nat) : Int) != 10) = false := rfl
  have hcon : ∀ kk : Bool -> Option α, f173_0 α (mkB s) (⟨#[10]⟩ : ByteArray) kk = kk false := fun kk => by
    show kk (decide (0 <= Lib.indexByte (mkB s).data.toList 10)) = _
    rw [data_mkB, hn]
  simp only [f81_0, f81_0g]
  generalize hR : strRows [mkB s, bI a, bI b, bI c, bI d, bI e, bI f, bI g, bI h, bI i] = R at *
  have r' := fun ff => r (mkB s) (bI a) (bI b) (bI c) (bI d) (bI e) (bI f) (bI g) (bI h) (bI i) ff
  rw [hR] at r'
  rw [(r' _).1, hlen, cK_false, hcon, cK_false, (r' _).2.1]
  simp only [J81_0_0, J81_0_0g]
  rw [word_ok ha, (r' _).2.2.1]
  simp only [J81_0_1, J81_0_1g]
  rw [word_ok hb, (r' _).2.2.2.1]
  simp only [J81_0_2, J81_0_2g]
  rw [word_ok hc, (r' _).2.2.2.2.1]
  simp only [J81_0_3, J81_0_3g]
  rw [word_ok hd, (r' _).2.2.2.2.2.1]
  simp only [J81_0_4, J81_0_4g]
  rw [word_ok he, (r' _).2.2.2.2.2.2.1]
  simp only [J81_0_5, J81_0_5g]
  rw [word_ok hf, (r' _).2.2.2.2.2.2.2.1]
  simp only [J81_0_6, J81_0_6g]
  rw [word_ok hg, (r' _).2.2.2.2.2.2.2.2.1]
  simp only [J81_0_7, J81_0_7g]
  rw [word_ok hh, (r' _).2.2.2.2.2.2.2.2.2]
  simp only [J81_0_8, J81_0_8g]
  rw [word_ok hi]
theorem f19_ok (hsp : ∀ x ∈ s, x ≠ 32) (hn : decide (0 <= Lib.indexByte s 10) = false) (hrd : rdE (mkB s) a b c d e f g h i = 0) {k : ByteArray -> Int -> Int -> Int -> Int -> Int -> Int -> Int -> Int -> Int -> Int -> Option α} :
    f19_0 α (mkB (rdT s a b c d e f g h i)) k = k (mkB s) a b c d e f g h i 0 := by
  have hl := rdT_len hs ha hb hc hd he hf hg hh hi
  have no : ∀ n, ∀ x ∈ Lib.itoa n, x ≠ 32 := fun n => itoa_noc n 32 (by decide) (by decide)
  have hcut : cutL 32 (rdT s a b c d e f g h i) = rdW s a b c d e f g h i := cut_join 32 s _ fun l hl => by
    simp only [List.mem_cons, List.not_mem_nil, or_false] at hl
    rcases hl with rfl | rfl | rfl | rfl | rfl | rfl | rfl | rfl | rfl | rfl
    · exact hsp
    all_goals exact no _
  have h62 : ∀ kk : Rows -> Option α, f62_0 α (mkB (rdT s a b c d e f g h i)) (⟨#[32]⟩ : ByteArray) kk = kk (strRows [mkB s, bI a, bI b, bI c, bI d, bI e, bI f, bI g, bI h, bI i]) := fun kk => by
    show fSplit α _ _ kk = _
    unfold fSplit
    rw [if_pos ⟨by rw [size_mkB]; omega, by decide⟩, split_cut]
    unfold cutBA
    rw [data_mkB, hcut]
    rfl
  simp only [f19_0, f19_0g, h62, f81_ok ha hb hc hd he hf hg hh hi hn, Bool.not_true, cK_false]
  rw [f82_eq (by rw [size_mkB]; omega), hrd, bne_self_eq_false, cK_false]
end
end Go.AM.K
