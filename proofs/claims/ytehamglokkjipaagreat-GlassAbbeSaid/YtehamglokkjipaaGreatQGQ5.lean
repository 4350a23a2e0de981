/- Chapter 2: Abbe numbers: what the program and the document say agrees. -/
import Derived.Test.YtehamglokkjipaaGreatQHP3
namespace Go.AM.K
set_option linter.unusedVariables false
set_option linter.unusedSimpArgs false
variable {α : Type}
section
variable {s : ByteArray} {kd : Int} {W X Y : Rows} {c0 c1 : Int} {cov : Int → Bool} {A B : Int → Int} (h : AtOk s kd W X Y c0 c1 cov A B)
include h
def abE (cov : Int → Bool) (A : Int → Int) : Int := if cov 5876 = false then 17 else if cov 4861 = false then 17 else if cov 6563 = false then 17 else if A 4861 = A 6563 then 9 else 0
def abG (A : Int → Int) : Int := gS 1000000000000 (A 5876 - 10000) (A 4861 - A 6563)
theorem f29_A {k : Int → Int → Int → Option α} : f29_0 α s kd W X Y c0 c1 k = if abE cov A ≠ 0 then k 0 0 (abE cov A) else k (w64 (Int.tdiv (A 5876 - 10000) (abG A))) (w64 (Int.tdiv (A 4861 - A 6563) (abG A))) 0 := by
  have i1 : isW 5876 = true := by decide
  have i2 : isW 4861 = true := by decide
  have i3 : isW 6563 = true := by decide
  simp only [f29_0, f29_0g, h.e22, i1, i2, i3, Bool.true_eq_false, if_false]
  unfold abE
  cases d1 : cov 5876 with
  | false => simp
  | true =>
    simp only [Bool.true_eq_false, if_false, bne_self_eq_false, cK_false, h.e25 i1 d1]
    cases d2 : cov 4861 with
    | false => simp
    | true =>
      simp only [Bool.true_eq_false, if_false, bne_self_eq_false, cK_false, h.e25 i2 d2]
      cases d3 : cov 6563 with
      | false => simp
      | true =>
        simp only [Bool.true_eq_false, if_false, bne_self_eq_false, cK_false, h.e25 i3 d3]
        by_cases he : A 4861 = A 6563
        · rw [if_pos he, show (A 4861 == A 6563) = true by simpa using he, cK_true, if_pos (by decide)]
        · rw [if_neg he, show (A 4861 == A 6563) = false by simpa using he, cK_false, if_neg (by simp)]
          have b1 := h.bA i1 d1
          have b2 := h.bA i2 d2
          have b3 := h.bA i3 d3
          rw [w64_in (n := A 5876 - 10000) (by omega) (by omega), w64_in (n := A 4861 - A 6563) (by omega) (by omega), f78_eq rfl (by omega) (by omega) (by omega) (by omega) (by omega)]
          rfl
theorem f28_A {k : Int → Int → Int → Option α} : f28_0 α s kd W X Y c0 c1 k = if abE cov A ≠ 0 then k 0 0 (abE cov A) else k (w64 (Int.tdiv (A 5876 - 10000) (abG A))) (w64 (Int.tdiv (A 4861 - A 6563) (abG A))) 0 := by
  have i1 : isW 5876 = true := by decide
  have i2 : isW 4861 = true := by decide
  have i3 : isW 6563 = true := by decide
  have hf := fuel_ge
  simp only [f28_0, f28_0g, h.e17, i1, i2, i3, Bool.true_eq_false, if_false]
  unfold abE
  cases d1 : cov 5876 with
  | false => simp
  | true =>
    simp only [Bool.true_eq_false, if_false, bne_self_eq_false, cK_false]
    cases d2 : cov 4861 with
    | false => simp
    | true =>
      simp only [Bool.true_eq_false, if_false, bne_self_eq_false, cK_false]
      cases d3 : cov 6563 with
      | false => simp
      | true =>
        simp only [Bool.true_eq_false, if_false, bne_self_eq_false, cK_false]
        have b1 := h.bA i1 d1
        have b2 := h.bA i2 d2
        have b3 := h.bA i3 d3
        rw [w64_in (n := A 5876 - 10000) (by omega) (by omega), w64_in (n := A 4861 - A 6563) (by omega) (by omega)]
        by_cases he : A 4861 = A 6563
        · rw [if_pos he, show (A 4861 - A 6563 == 0) = true by simp; omega, cK_true, if_pos (by decide)]
        · rw [if_neg he, show (A 4861 - A 6563 == 0) = false by simp; omega, cK_false, if_neg (by simp)]
          have hne := gS_ne (n := 1000000000000) (a := A 5876 - 10000) (b := A 4861 - A 6563) (by omega) (by omega)
          have hn2 := gT_ne 1000000000000 (A 5876 - 10000) (A 4861 - A 6563) (by omega) (by omega)
          unfold L28_0_0
          refine (R28_eq (n := 1000000000000) (y := fun x24 => J28_0_1 α (A 4861 - A 6563) x24
                    (fun (x36 : Int) => gK (x36 != 0) (gK (x36 != 0) (k (w64 (Int.tdiv (A 5876 - 10000) x36)) (w64 (Int.tdiv (A 4861 - A 6563) x36)) 0)))
                    (fun (x37 : Bool) => gK (x24 != 0) (gK (x24 != 0) (k (w64 (Int.tdiv (A 5876 - 10000) x24)) (w64 (Int.tdiv (A 4861 - A 6563) x24)) 0)))) (fun _ _ _ => rfl) fuel _ _ (by omega) (by omega)).trans ?_
          refine (J28_eq rfl (by omega) (by omega) (by omega) (by omega) (by omega) (y := fun x36 => gK (x36 != 0) (gK (x36 != 0) (k (w64 (Int.tdiv (A 5876 - 10000) x36)) (w64 (Int.tdiv (A 4861 - A 6563) x36)) 0))) (fun _ => rfl) (fun _ => rfl)).trans ?_
          rw [show (gS 1000000000000 (A 5876 - 10000) (A 4861 - A 6563) != 0) = true by simpa using hne, gK_true, gK_true]
          rfl
end
theorem law5 {s : ByteArray} {kd : Int} {lw : List Int} {lx ly : List Nat} {c0 c1 : Int} {k : Bool → Option α} : f5_0 α s kd (lw.map rI1) (lx.map rF) (ly.map rF) c0 c1 k = k true := by
  simp only [f5_0, f5_0g, f9_0, f16_eq, J5_0_0, J5_0_0g]
  cases hf : fewB s lw lx ly with
  | false => rfl
  | true =>
    obtain ⟨l1, l2, l3, l4⟩ := few_le hf
    have hs : s.size ≤ 9223372036854775807 := by omega
    have w1 : lw.length ≤ 1000 := by omega
    have w2 : lx.length ≤ 1000 := by omega
    have w3 : ly.length ≤ 1000 := by omega
    simp only [Bool.not_true, cK_false, f18_eq w1 w2 w3, f21_eq w1 w2 w3]
    by_cases hE : (ckG s kd lw lx ly c0 c1).2 = 0
    · rw [hE]
      simp only [beq_self_eq_true, cK_true]
      obtain ⟨cov, A, B, h⟩ := at_ok hs w1 w2 w3 hE
      simp only [f28_A h, f29_A h]
      split
      · simp
      · simp
    · simp only [f28_0, f28_0g, f17_E hs w1 w2 w3 hE]
      rw [show ((ckG s kd lw lx ly c0 c1).2 == 0) = false by simpa using hE, show ((ckG s kd lw lx ly c0 c1).2 != 0) = true by simpa using hE]
      simp
end Go.AM.K
