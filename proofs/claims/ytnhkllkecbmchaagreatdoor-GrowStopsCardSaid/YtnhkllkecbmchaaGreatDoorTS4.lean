/- The plain law of the texts of stops. -/
import Derived.Test.YtnhkllkecbmchaaGreatDoorTS3
import Derived.Test.YtnhkllkecbmchaaGreatDoorTK3
namespace Go.AM.K
open Go.LT
variable {α : Type}
theorem law3 {a b c : Int} (ha : in64 a) (hb : in64 b) (hc : in64 c) (s : ByteArray) {k : Bool → Option α} : f3_0 α a b c s k = k true := by
  unfold f3_0 f3_0g f9_0
  by_cases h60 : 60 < s.size
  · rw [decide_eq_true (by omega), cK_true]
  · rw [decide_eq_false (by omega), cK_false, f10_eq ha hb hc, f11_eq (by omega), f12_eq (by omega), f13_eq ha hb hc]
    have hr : ∀ l : List UInt8, (!((mkB l).toList == (mkB l).toList)) = false := fun l => by simp
    rw [hr, cK_false]
    have hlen : (mkB (fmt3 a b c)).size < 90000 := by
      have la := Lib.itoa_length_le a ha.1 ha.2
      have lb := Lib.itoa_length_le b hb.1 hb.2
      have lc := Lib.itoa_length_le c hc.1 hc.2
      rw [size_mkB]; simp [fmt3]; omega
    simp only [bne_self_eq_false, cK_false, beq_self_eq_true, Bool.and_self, Bool.not_true]
    rw [f11_eq hlen, f14_eq]
    by_cases h0 : stopErr a b c = 0
    · rw [parse_fmt h0, h0]
      simp
    · rw [show (stopErr a b c != 0) = true by simp [h0], cK_true]
end Go.AM.K
