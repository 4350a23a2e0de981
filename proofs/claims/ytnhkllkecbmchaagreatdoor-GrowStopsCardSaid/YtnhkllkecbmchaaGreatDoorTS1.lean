/- Plain laws of the texts of stops: numerals, words, the text of a stop. -/
import Derived.Test.YtnhkllkecbmchaaGreatDoorLT3
import Derived.Test.YtnhkllkecbmchaaGreatDoorTK0
namespace Go.AM.K
open Go.LT
variable {α : Type}
theorem f61_eq {n : Int} (h1 : -9223372036854775808 ≤ n) (h2 : n ≤ 9223372036854775807) {k : ByteArray → Option α} : f61_0 α n k = k (mkB (Lib.itoa n)) := by
  show fItoa α n k = _
  unfold fItoa; rw [if_pos ⟨h1, h2⟩]
theorem f164_eq {d : Int} (h1 : -10 < d) (h2 : d < 10) {k : Int → Option α} : f164_0 α d k = k (d.natAbs : Int) := by
  show k (if (w64 (0 - d)) > d then (w64 (0 - d)) else d) = _
  rw [w64_in (by omega) (by omega)]
  congr 1
  split <;> omega
theorem tdiv_abs (n : Int) : (Int.tdiv n 10).natAbs = n.natAbs / 10 := by
  rw [Int.natAbs_tdiv]; rfl
theorem tmod_abs (n : Int) : (Int.tmod n 10).natAbs = n.natAbs % 10 := by
  rw [Int.natAbs_tmod]; rfl
theorem dig_int {d : Nat} (h : d < 10) : strOf [IntKind.wrap .u8 (w64 (48 + (d : Int)))] = mkB [UInt8.ofNat (48 + d)] := by
  rw [w64_in (by omega) (by omega), strOf_one]
  have : IntKind.wrap .u8 (48 + (d : Int)) = 48 + (d : Int) := by
    have : d = 0 ∨ d = 1 ∨ d = 2 ∨ d = 3 ∨ d = 4 ∨ d = 5 ∨ d = 6 ∨ d = 7 ∨ d = 8 ∨ d = 9 := by omega
    rcases this with rfl | rfl | rfl | rfl | rfl | rfl | rfl | rfl | rfl | rfl <;> rfl
  rw [this, show (48 + (d : Int)).toNat = 48 + d by omega]
theorem R69_eq {k1 : Int → ByteArray → Bool → Option α} : ∀ (m : Nat) (n : Nat) (x : Int) (l : List UInt8), x.natAbs < 10 ^ m → m < n → -9223372036854775808 ≤ x → x ≤ 9223372036854775807 → l.length + m ≤ 100 →
    R69_0_1 α k1 n x (mkB l) = if x = 0 then k1 0 (mkB l) false else k1 0 (mkB (Lib.decDigits x.natAbs ++ l)) false
  | m, 0, _, _, _, hn, _, _, _ => absurd hn (Nat.not_lt_zero _)
  | 0, n + 1, x, l, hx, _, _, _, _ => by
    have : x = 0 := by simp at hx; omega
    subst this
    rfl
  | m + 1, n + 1, x, l, hx, hn, h1, h2, hl => by
    show S69_0_1 α x (mkB l) (R69_0_1 α k1 n) k1 = _
    show cK (x != 0) (f164_0 α (Int.tmod x 10) _) _ = _
    by_cases h0 : x = 0
    · subst h0; rfl
    · rw [show (x != 0) = true by simp [h0], cK_true, if_neg h0]
      have hm := tmod_abs x
      rw [f164_eq (by omega) (by omega), hm]
      have hd : x.natAbs % 10 < 10 := Nat.mod_lt _ (by decide)
      rw [dig_int hd, mkB_app]
      rw [gK_of (by rw [size_mkB, size_mkB]; simp [IntKind.max, IntKind.signed, IntKind.bits]; omega)]
      have hq := tdiv_abs x
      have hx' : x.natAbs / 10 < 10 ^ m := by rw [Nat.pow_succ] at hx; omega
      rw [w64_in (by omega) (by omega), R69_eq m n (Int.tdiv x 10) ([UInt8.ofNat (48 + x.natAbs % 10)] ++ l) (by rw [hq]; exact hx') (by omega) (by omega) (by omega) (by simp; omega)]
      by_cases hs : x.natAbs < 10
      · rw [if_pos (by omega), decDigits_lt hs, Nat.mod_eq_of_lt hs]
      · rw [if_neg (by omega), hq, decDigits_ge hs, List.append_assoc]
theorem f69_eq {n : Int} (h1 : -9223372036854775808 ≤ n) (h2 : n ≤ 9223372036854775807) {k : ByteArray → Option α} : f69_0 α n k = k (mkB (Lib.itoa n)) := by
  show cK (n == 0) (k (⟨#[48]⟩ : ByteArray)) (cK (decide (n < 0)) (R69_0_1 α _ fuel n (mkB [])) (R69_0_1 α _ fuel n (mkB []))) = _
  have hf := fuel_ge
  have hp : n.natAbs < 10 ^ 20 := by
    have : (10 : Nat) ^ 20 = 100000000000000000000 := by decide
    omega
  by_cases h0 : n = 0
  · subst h0
    show k _ = _
    rw [show Lib.itoa 0 = [48] by unfold Lib.itoa; rw [if_neg (by decide), decDigits_lt (by decide)]; rfl]
  · rw [show (n == 0) = false by simp [h0], cK_false]
    have hlen := Lib.itoa_length_le n h1 h2
    unfold Lib.itoa at hlen ⊢
    by_cases hneg : n < 0
    · rw [decide_eq_true hneg, cK_true, R69_eq 20 fuel n [] hp (by omega) h1 h2 (by simp), if_neg h0, if_pos hneg]
      rw [if_pos hneg] at hlen
      rw [show (⟨#[45]⟩ : ByteArray) = mkB [45] from rfl, List.append_nil, mkB_app]
      rw [gK_of (by rw [size_mkB, size_mkB]; simp [IntKind.max, IntKind.signed, IntKind.bits] at hlen ⊢; omega)]
      rfl
    · rw [decide_eq_false hneg, cK_false, R69_eq 20 fuel n [] hp (by omega) h1 h2 (by simp), if_neg h0, if_neg hneg]
      rw [if_neg hneg] at hlen
      rw [show n.natAbs = n.toNat by omega]
      rw [show (⟨#[]⟩ : ByteArray) = mkB [] from rfl, List.append_nil, mkB_app]
      rw [gK_of (by rw [size_mkB, size_mkB]; simp [IntKind.max, IntKind.signed, IntKind.bits] at hlen ⊢; omega)]
      rfl
def fmt3 (a b c : Int) : List UInt8 := Lib.itoa a ++ 32 :: (Lib.itoa b ++ 32 :: Lib.itoa c)
def in64 (n : Int) : Prop := -9223372036854775808 ≤ n ∧ n ≤ 9223372036854775807
theorem fmt_core {v : Tf61_0} (hv : ∀ (n : Int) (k : ByteArray → Option α), in64 n → v α n k = k (mkB (Lib.itoa n))) {a b c : Int} (ha : in64 a) (hb : in64 b) (hc : in64 c) {k : ByteArray → Option α} :
    f10_0g v α a b c k = k (mkB (fmt3 a b c)) := by
  have la := Lib.itoa_length_le a ha.1 ha.2
  have lb := Lib.itoa_length_le b hb.1 hb.2
  have lc := Lib.itoa_length_le c hc.1 hc.2
  unfold f10_0g
  rw [hv a _ ha, show (⟨#[32]⟩ : ByteArray) = mkB [32] from rfl]
  have hg : ∀ (l l' : List UInt8) (x : Option α), l.length ≤ 100 → l'.length ≤ 100 → gK (!decide (IntKind.i64.max < ((ByteArray.size (mkB l) + ByteArray.size (mkB l') : Nat) : Int))) x = x := fun l l' x h h' =>
    gK_of (by rw [size_mkB, size_mkB]; simp [IntKind.max, IntKind.signed, IntKind.bits]; omega)
  simp only [mkB_app]
  rw [hg _ _ _ (by omega) (by decide), hv b _ hb]
  simp only [mkB_app]
  rw [hg _ _ _ (by simp; omega) (by omega), hg _ _ _ (by simp; omega) (by decide), hv c _ hc]
  simp only [mkB_app]
  rw [hg _ _ _ (by simp; omega) (by omega)]
  simp [fmt3]
theorem f10_eq {a b c : Int} (ha : in64 a) (hb : in64 b) (hc : in64 c) {k : ByteArray → Option α} : f10_0 α a b c k = k (mkB (fmt3 a b c)) :=
  fmt_core (fun _ _ h => f61_eq h.1 h.2) ha hb hc
theorem f13_eq {a b c : Int} (ha : in64 a) (hb : in64 b) (hc : in64 c) {k : ByteArray → Option α} : f13_0 α a b c k = k (mkB (fmt3 a b c)) :=
  (show f13_0 α a b c k = f10_0g f69_0 α a b c k from rfl).trans (fmt_core (v := f69_0) (fun _ _ h => f69_eq h.1 h.2) ha hb hc)
end Go.AM.K
