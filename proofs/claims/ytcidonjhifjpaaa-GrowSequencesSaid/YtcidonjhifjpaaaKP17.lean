/- Chapter 8: a text among others. -/
import Derived.Test.YtcidonjhifjpaaaKP16
namespace Go.AM.K
variable {α : Type}
set_option linter.unusedVariables false
set_option linter.unusedSimpArgs false

abbrev rS (s : ByteArray) : List DC := [.v (.string s)]
theorem rowK_S {l : List ByteArray} {i : Nat} {f : ByteArray → Option α} (h : i < l.length) : rowK (l.map rS) (i : Int) [.str] f = f (l[i]'h) :=
  (rowK_get (sh := [.str]) (f := f) (r := rS (l[i]'h)) (by simp [h])).trans rfl

/-- The number of the first text that is this one. -/
def fst1 (s : ByteArray) : List ByteArray → Int → Int
  | [], _ => -1
  | a :: r, i => if s.toList == a.toList then i else fst1 s r (i + 1)

/-- One of them is this text. -/
def hasT (s : ByteArray) (l : List ByteArray) : Bool := l.any fun a => s.toList == a.toList
theorem run_has {s : ByteArray} {yes : Option α} {fin : Unit → Option α} : ∀ (l : List ByteArray), runL (fun a (_ : Unit) k => cK (s.toList == a.toList) yes (k ())) fin l () = cK (hasT s l) yes (fin ())
  | [] => rfl
  | a :: r => by
    simp only [runL, hasT, List.any_cons]
    cases s.toList == a.toList
    · simp only [cK_false, Bool.false_or]; exact run_has r
    · simp
theorem beq_sym {a b : List UInt8} : (a == b) = (b == a) := by
  by_cases h : a = b
  · subst h; rfl
  · rw [beq_false_of_ne h, beq_false_of_ne (fun h' => h h'.symm)]
theorem f108_eq {l : List ByteArray} {s : ByteArray} (hl : l.length < 1000) {k : Bool → Option α} : f108_0 α (l.map rS) s k = k (hasT s l) := by
  simp only [f108_0, f108_0g, L108_0_0]
  refine (loop_list0 (l := l) (R := fun n i (_ : Unit) => R108_0_0 α (l.map rS) s (k true) (fun _ _ => k false) n i) (step := fun a _ kn => cK (s.toList == a.toList) (k true) (kn ())) (fin := fun _ => k false) (s := ()) (by omega) (fun n i h _ => ?_) (fun n _ => ?_)).trans ?_
  · have hi : (i : Int) < (l.length : Nat) := by omega
    simp only [R108_0_0, S108_0_0, S108_0_0g, List.length_map, hi, decide_true, cK_true]
    rw [rowK_S h, w64_nat h (by omega), beq_sym]
  · simp only [R108_0_0, S108_0_0, S108_0_0g, List.length_map, Int.lt_irrefl, decide_false, cK_false]
  · rw [run_has]; cases hasT s l <;> rfl

theorem R125 {l : List ByteArray} {s : ByteArray} (hl : l.length < 1000) {k1 : Int → Option α} {k2 : Int → Bool → Option α} {yes no : Option α} (h1 : ∀ i : Int, 0 ≤ i → k1 i = yes) (h2 : ∀ a b, k2 a b = no) : L125_0_0 α (l.map rS) s ((l.length : Nat) : Int) k1 k2 0 = cK (hasT s l) yes no := by
  simp only [L125_0_0]
  refine (loop_list0 (l := l) (R := fun n i (_ : Unit) => R125_0_0 α (l.map rS) s ((l.length : Nat) : Int) k1 k2 n i) (step := fun a _ kn => cK (s.toList == a.toList) yes (kn ())) (fin := fun _ => no) (s := ()) (by omega) (fun n i h _ => ?_) (fun n _ => ?_)).trans (run_has _)
  · have hi : (i : Int) < (l.length : Nat) := by omega
    simp only [R125_0_0, S125_0_0, S125_0_0g, hi, decide_true, cK_true]
    rw [rowK_S h, w64_nat h (by omega), h1 _ (by omega)]
  · simp only [R125_0_0, S125_0_0, S125_0_0g, Int.lt_irrefl, decide_false, cK_false, h2]
theorem f101_eq {l : List ByteArray} {s : ByteArray} (hl : l.length < 1000) {k : Bool → Option α} : f101_0 α (l.map rS) s k = k (hasT s l) := by
  simp only [f101_0, f101_0g, f125_0, f125_0g, List.length_map]
  rw [R125 hl (yes := k true) (no := k false) (fun i h => by simp [h]) (fun _ _ => by simp)]
  cases hasT s l <;> rfl

end Go.AM.K
