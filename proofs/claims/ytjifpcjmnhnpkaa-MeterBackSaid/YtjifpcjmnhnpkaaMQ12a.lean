/- Chapter 6: sums of four. -/
import Derived.Test.YtjifpcjmnhnpkaaMH1
namespace Go.AM.K
set_option linter.unusedVariables false
set_option linter.unusedSimpArgs false
variable {α : Type}
section
variable {a0 b0 a1 b1 a2 b2 a3 b3 : Int}
abbrev L4 (a0 b0 a1 b1 a2 b2 a3 b3 : Int) : List (Int × Int) := [(a0, b0), (a1, b1), (a2, b2), (a3, b3)]
theorem blk53 (h : PB (L4 a0 b0 a1 b1 a2 b2 a3 b3)) {j : Int} {E : Option α} {K : Int → Option α} :
    f68_0 α [[DC.v (.int .i64 a0), DC.v (.int .i64 b0)], [DC.v (.int .i64 a1), DC.v (.int .i64 b1)], [DC.v (.int .i64 a2), DC.v (.int .i64 b2)], [DC.v (.int .i64 a3), DC.v (.int .i64 b3)]] j (fun x y => cK (y != 0) E (cK ((Int.tmod x 4) != 0) E (K x))) =
    if sgI (L4 a0 b0 a1 b1 a2 b2 a3 b3) j 4 ≠ 0 ∨ sgR (L4 a0 b0 a1 b1 a2 b2 a3 b3) j 4 % 4 ≠ 0 then E else K (sgR (L4 a0 b0 a1 b1 a2 b2 a3 b3) j 4) := by
  have hb := (sg_bd h j 4).1
  refine (f68_eq h (b := j) (k := fun x y => cK (y != 0) E (cK ((Int.tmod x 4) != 0) E (K x)))).trans ?_
  show cK (sgI (L4 a0 b0 a1 b1 a2 b2 a3 b3) j 4 != 0) E (cK (Int.tmod (sgR (L4 a0 b0 a1 b1 a2 b2 a3 b3) j 4) 4 != 0) E (K (sgR (L4 a0 b0 a1 b1 a2 b2 a3 b3) j 4))) = _
  obtain ⟨t1, t2, t3⟩ := tmod4_bd (sgR (L4 a0 b0 a1 b1 a2 b2 a3 b3) j 4)
  have hd := Int.tmod_add_mul_tdiv (sgR (L4 a0 b0 a1 b1 a2 b2 a3 b3) j 4) 4
  generalize sgR (L4 a0 b0 a1 b1 a2 b2 a3 b3) j 4 = R at *
  generalize sgI (L4 a0 b0 a1 b1 a2 b2 a3 b3) j 4 = I
  rw [cK_ne, cK_ne]
  by_cases c1 : I = 0
  · by_cases c2 : R % 4 = 0
    · have c3 : Int.tmod R 4 = 0 := by omega
      rw [if_neg (fun hh => hh c1), if_neg (fun hh => hh c3), if_neg (by rintro (h | h); exact h c1; exact h c2)]
    · have c3 : ¬ Int.tmod R 4 = 0 := by omega
      rw [if_neg (fun hh => hh c1), if_pos c3, if_pos (.inr c2)]
  · rw [if_pos c1, if_pos (.inl c1)]
theorem q4 (h : PB (L4 a0 b0 a1 b1 a2 b2 a3 b3)) {j : Int} (hc : ¬ (sgI (L4 a0 b0 a1 b1 a2 b2 a3 b3) j 4 ≠ 0 ∨ sgR (L4 a0 b0 a1 b1 a2 b2 a3 b3) j 4 % 4 ≠ 0)) : w64 (Int.tdiv (sgR (L4 a0 b0 a1 b1 a2 b2 a3 b3) j 4) 4) = sgR (L4 a0 b0 a1 b1 a2 b2 a3 b3) j 4 / 4 := by
  have hb := (sg_bd h j 4).1
  have h0 : sgR (L4 a0 b0 a1 b1 a2 b2 a3 b3) j 4 % 4 = 0 := by omega
  obtain ⟨t1, t2, t3⟩ := tmod4_bd (sgR (L4 a0 b0 a1 b1 a2 b2 a3 b3) j 4)
  have hd := Int.tmod_add_mul_tdiv (sgR (L4 a0 b0 a1 b1 a2 b2 a3 b3) j 4) 4
  rw [w64_in (by omega) (by omega)]; omega
end
end Go.AM.K
