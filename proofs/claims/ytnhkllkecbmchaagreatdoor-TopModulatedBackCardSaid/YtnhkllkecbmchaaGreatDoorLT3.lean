/- Plain rules of texts in readable functions: bytes, rows of texts, words that are numbers. -/
import Derived.Test.YtnhkllkecbmchaaGreatDoorLBa
import Derived.Test.YtnhkllkecbmchaaGreatDoorLT2
import Derived.Test.YtnhkllkecbmchaaGreatDoorKNa
import Derived.Lib.ItoaLen
namespace Go.AM
open Go.LT
variable {α : Type}
abbrev mkB (l : List UInt8) : ByteArray := ⟨l.toArray⟩
theorem data_mkB (l : List UInt8) : (mkB l).data.toList = l := by simp
theorem size_mkB (l : List UInt8) : (mkB l).size = l.length := by simp [ByteArray.size]
theorem toList_eq (a b : ByteArray) : (a.toList == b.toList) = decide (a.data.toList = b.data.toList) := by
  rw [ByteArray.toList_eq, ByteArray.toList_eq]
  by_cases h : a.data.toList = b.data.toList
  · rw [h, decide_eq_true rfl]; simp
  · rw [decide_eq_false h]; exact beq_eq_false_iff_ne.2 h
theorem atoiAll_range {l : List UInt8} {v : Int} (h : Lib.atoiAll l = .ok v) : -9223372036854775808 <= v /\ v <= 9223372036854775807 := by
  unfold Lib.atoiAll at h
  split at h
  · cases h
  · dsimp only at h
    split at h
    · cases h
    · cases h
    · split at h
      · cases h
      · split at h
        · cases h
        · rename_i h1 h2
          injection h with h
          split at h <;> omega
theorem word_law {x : ByteArray} (hx : x.size <= 281474976710656) {k1 : Option α} {f : Int -> Option α} :
    fAtoi α x (fun v => fItoa α v fun t => cK (!(t.toList == x.toList)) k1 (fTrim α x (⟨#[45]⟩ : ByteArray) fun u => cK (decide (7 < ((ByteArray.size u : Nat) : Int))) k1 (f v))) (fun _ => k1) =
      match num? x.data.toList with
      | some v => f v
      | none => k1 := by
  rw [<- word_eq]
  unfold fAtoi word?
  rw [if_pos hx]
  cases ha : Lib.atoiAll x.data.toList with
  | range => rfl
  | ok v =>
    have hr := atoiAll_range ha
    simp only [fItoa, if_pos hr, toList_eq, fTrim]
    by_cases hi : Lib.itoa v = x.data.toList
    · rw [decide_eq_true hi, if_pos hi]
      simp only [Bool.not_true, cK_false]
      have hz : ∀ l : List UInt8, cK (decide (7 < ((ByteArray.size (mkB l) : Nat) : Int))) k1 (f v) = match (if l.length <= 7 then some v else none) with | some v => f v | none => k1 := fun l => by
        by_cases h7 : l.length <= 7
        · rw [if_pos h7, decide_eq_false (by rw [size_mkB]; omega)]; rfl
        · rw [if_neg h7, decide_eq_true (by rw [size_mkB]; omega)]; rfl
      exact hz (Lib.trimPrefix x.data.toList [45])
    · rw [decide_eq_false hi, if_neg hi]
      rfl
  | _ => rfl
end Go.AM
