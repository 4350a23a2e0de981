/- Chapter 2: balls of whole numbers read; permittivity. -/
import Derived.Test.YtehamglokkjipaaGreatQHP3
namespace Go.AM.K
open Ieee
set_option linter.unusedVariables false
set_option linter.unusedSimpArgs false
set_option linter.unusedSectionVars false
variable {α : Type}
theorem isWhole_num {n : Int} (h : n.natAbs < 9007199254740992) {k : Bool → Option α} : f128_0 α (FloatKind.nearest .f64 n) k = k true := by
  obtain ⟨s, m, i, h1, h2, h3, h4, h5⟩ := whole_small h
  obtain ⟨mM, iM, e4, e5, e6⟩ := kMax
  obtain ⟨t, m', i', g1, g2, g3⟩ := truncF_num h1 h2 h3 h4
  simp only [f128_0, f128_0g, f150_0, f150_0g, notNaN (.inl ⟨s, m, i, h1⟩), cK_false]
  rw [ord_eq g1 h1 g2 h2, g3, whole_qt h2 h5, h5, decide_eq_true rfl, cK_true]
  simp only [f151_0, f151_0g, f129_0, f129_0g, beq_self_eq_true, cK_true]
  have ha : FloatKind.f64.decode (absF (FloatKind.nearest .f64 n)) = .number false m i := by rw [abs_read, h1]
  have : ((FloatKind.format .f64).order (absF (FloatKind.nearest .f64 n)) 9218868437227405311 == some Ordering.gt) = false := by
    rw [ord_gt ha e4 h2 e5, e6]
    have := le_max h3 h4
    exact decide_eq_false (by omega)
  show k (!((FloatKind.format .f64).order (absF (FloatKind.nearest .f64 n)) 9218868437227405311 == some Ordering.gt)) = _
  rw [this]; rfl
theorem abs_num {n : Int} (h : n.natAbs < 9007199254740992) : ∃ m i, FloatKind.f64.decode (absF (FloatKind.nearest .f64 n)) = .number false m i ∧ -1074 ≤ i ∧ vl (.number false m i) = (n.natAbs : Int) * (UU : Int) := by
  obtain ⟨s, m, i, h1, h2, h3, h4, h5⟩ := whole_small h
  refine ⟨m, i, by rw [abs_read, h1], h2, ?_⟩
  rw [vl_abs] at h5 ⊢
  have := congrArg Int.natAbs h5
  rw [sgn_abs, Int.natAbs_mul, Int.natAbs_natCast] at this
  simp only [sgn, Bool.false_eq_true, if_false]
  rw [this]; push_cast; rfl
theorem k26 : ∃ m i, FloatKind.f64.decode 4724276009111650304 = .number false m i ∧ -1074 ≤ i ∧ vl (.number false m i) = 67108864 * (UU : Int) := by
  obtain ⟨s, m, i, h1, h2, h3, h4, h5⟩ := whole_small (n := 67108864) (by decide)
  have e : FloatKind.nearest .f64 67108864 = 4724276009111650304 := by decide +kernel
  rw [e] at h1
  have h1' : FloatKind.f64.decode 4724276009111650304 = .number false 4503599627370496 (-26) := by decide +kernel
  rw [h1'] at h1
  injection h1 with a1 a2 a3
  subst a1; subst a2; subst a3
  exact ⟨_, _, h1', h2, h5⟩
def ptB (x : Int) : Bool := inB x (-67108864) 67108864
theorem ptB_iff {x : Int} : ptB x = true ↔ -67108864 ≤ x ∧ x ≤ 67108864 := inB_iff
theorem abs_gt {n : Int} (h : n.natAbs < 9007199254740992) : ((FloatKind.format .f64).order (Int.toNat (iAndNot .u64 ((FloatKind.nearest .f64 n : Nat) : Int) 9223372036854775808)) 4724276009111650304 == some Ordering.gt) = !ptB n := by
  obtain ⟨m0, i0, p1, p2, p3⟩ := k26
  obtain ⟨m, i, q1, q2, q3⟩ := abs_num h
  show ((FloatKind.format .f64).order (absF (FloatKind.nearest .f64 n)) 4724276009111650304 == some Ordering.gt) = _
  rw [ord_gt q1 p1 q2 p2, q3, p3]
  cases hh : ptB n with
  | true =>
    have := ptB_iff.1 hh
    apply decide_eq_false
    rw [mulU_lt]; omega
  | false =>
    have : ¬ (-67108864 ≤ n ∧ n ≤ 67108864) := fun q => by rw [ptB_iff.2 q] at hh; cases hh
    apply decide_eq_true
    rw [mulU_lt]; omega
theorem f95_num {x y : Int} (hx : x.natAbs < 9007199254740992) (hy : y.natAbs < 9007199254740992) {k : Int → Int → Int → Option α} :
    f95_0 α (FloatKind.nearest .f64 x) (FloatKind.nearest .f64 y) 4724276009111650304 k = if ptB x = true ∧ ptB y = true then k x y 0 else k 0 0 2 := by
  obtain ⟨z, hz⟩ : ∃ z, fuel = z + 3 := ⟨fuel - 3, by have := fuel_ge; omega⟩
  have w1 : w64 (0 + 1) = 1 := by decide
  have w2 : w64 (1 + 1) = 2 := by decide
  have b1 : ((0 : Int) == 1) = false := by decide
  have b2 : ((0 : Int) == 0) = true := by decide
  have b3 : ((1 : Int) == 1) = true := by decide
  have c0 : decide ((0 : Int) < 2) = true := by decide
  have c1 : decide ((1 : Int) < 2) = true := by decide
  have c2 : decide ((2 : Int) < 2) = false := by decide
  simp only [f95_0, f95_0g, L95_0_1, L95_0_3, hz, R95_0_1, R95_0_3, S95_0_1, S95_0_1g, S95_0_3, S95_0_3g, J95_0_0, J95_0_0g, J95_0_2, J95_0_2g, c0, c1, c2, w1, w2, b1, b2, b3, cK_true, cK_false, isWhole_num hx, isWhole_num hy, Bool.not_true, f129_0, f129_0g, abs_gt hx, abs_gt hy, f130_0, f130_0g, f2i_whole hx, f2i_whole hy]
  cases ptB x with
  | false => rfl
  | true => cases ptB y <;> rfl
theorem f94_num {x y r : Int} (hx : x.natAbs < 9007199254740992) (hy : y.natAbs < 9007199254740992) (hr : 0 ≤ r ∧ r ≤ 67108864) {k : Int → Int → Int → Int → Option α} :
    f94_0 α (FloatKind.nearest .f64 x) (FloatKind.nearest .f64 y) r k = if ptB x = true ∧ ptB y = true then k x y r 0 else k 0 0 r 2 := by
  simp only [f94_0, f94_0g, f95_num hx hy, J94_0_0, J94_0_0g]
  split
  · simp only [beq_self_eq_true, cK_true, f127_0, f127_0g]
    rw [decide_eq_true hr.1, decide_eq_true hr.2]
    rfl
  · rfl
theorem f64_num {x y r : Int} (hx : x.natAbs < 9007199254740992) (hy : y.natAbs < 9007199254740992) (hr : 0 ≤ r ∧ r ≤ 67108864) {k : Int → Option α} :
    f64_0 α (FloatKind.nearest .f64 x) (FloatKind.nearest .f64 y) r k = if ptB x = true ∧ ptB y = true then k 0 else k 2 := by
  simp only [f64_0, f64_0g, f94_num hx hy hr]
theorem f63_eq' {n d : Int} (hd : 0 < d) (hd2 : d ≤ 1000000000000) (h1 : -1000000000000000000 ≤ n) (h2 : n ≤ 1000000000000000000) {k : Int → Option α} : f63_0 α n d k = k (near n d) := by
  simp only [f63_0, f63_0g]
  rw [w64_in (n := 2 * n) (by omega) (by omega), w64_in (n := 2 * d) (by omega) (by omega), w64_in (by omega) (by omega), f108_eq (by omega) (by omega) (by omega) (by omega)]
  rfl
def pe1 (a b : Int) : Int := 1048576 * (a * a - b * b)
def pe2 (a b : Int) : Int := 2097152 * (a * b)
def peX (a b : Int) : Int := near (pe1 a b) 100000000
def peY (a b : Int) : Int := near (pe2 a b) 100000000
def peR (a b : Int) : Int := if pe1 a b % 100000000 = 0 ∧ pe2 a b % 100000000 = 0 then 0 else 1
def peO (a b : Int) : Bool := ptB (peX a b) && ptB (peY a b)
theorem pe_bd {a b : Int} (h1 : 0 ≤ a) (h2 : a ≤ 80000) (h3 : 0 ≤ b) (h4 : b ≤ 80000) :
    (0 ≤ a * a ∧ a * a ≤ 6400000000) ∧ (0 ≤ b * b ∧ b * b ≤ 6400000000) ∧ (0 ≤ a * b ∧ a * b ≤ 6400000000) := by
  have p1 := mulB h1 h2 h1 h2
  have p2 := mulB h3 h4 h3 h4
  have p3 := mulB h1 h2 h3 h4
  omega
theorem near_ab {n : Int} (h1 : -14000000000000000 ≤ n) (h2 : n ≤ 14000000000000000) : (near n 100000000).natAbs < 9007199254740992 := by
  unfold near; omega
theorem tmod_ne {n : Int} : (Int.tmod n 100000000 != 0) = !decide (n % 100000000 = 0) := by
  rw [show (Int.tmod n 100000000 != 0) = !(Int.tmod n 100000000 == 0) from rfl]
  congr 1
  apply Bool.eq_iff_iff.2
  rw [beq_iff_eq, decide_eq_true_iff, ← Int.dvd_iff_tmod_eq_zero, ← Int.dvd_iff_emod_eq_zero]
theorem f91_eq {n : Int} {k : Int → Option α} : f91_0 α n 100000000 k = k (n % 100000000) := by
  simp only [f91_0, f91_0g]
  rw [show ((100000000 : Int) != 0) = true by decide, gK_true, cK_dec]
  have t1 := Int.tmod_eq_emod (a := n) (b := 100000000)
  have r1 := Int.emod_nonneg n (show (100000000 : Int) ≠ 0 by decide)
  have r2 := Int.emod_lt_of_pos n (show (0 : Int) < 100000000 by decide)
  split at t1
  · rw [if_neg (by omega)]
    congr 1; omega
  · rename_i hd
    have : n % 100000000 ≠ 0 := fun q => hd (.inr (Int.dvd_of_emod_eq_zero q))
    rw [if_pos (by omega), w64_in (by omega) (by omega)]
    congr 1; omega
theorem f107_eq {x : Int} {k : Bool → Option α} : f107_0 α x k = k (ptB x) := by
  simp only [f107_0, f107_0g, f57_eq]; rfl
theorem f59_eq {x y r : Int} {k : Int → Int → Int → Int → Option α} : f59_0 α x y r k = if (ptB x && ptB y && inB r 0 67108864) = true then k x y r 0 else k 0 0 0 8 := by
  simp only [f59_0, f59_0g, J59_0_0, J59_0_0g, f107_eq, f57_eq]
  cases ptB x <;> cases ptB y <;> cases inB r 0 67108864 <;> rfl
section
variable {a b : Int} (h1 : 0 ≤ a) (h2 : a ≤ 80000) (h3 : 0 ≤ b) (h4 : b ≤ 80000)
include h1 h2 h3 h4
theorem f24_eq {k : Int → Int → Int → Int → Option α} : f24_0 α a b k = if peO a b = true then k (peX a b) (peY a b) (peR a b) 0 else k 0 0 0 8 := by
  obtain ⟨p1, p2, p3⟩ := pe_bd h1 h2 h3 h4
  have e1 : w64 (w64 ((w64 (a * a)) - (w64 (b * b))) * 1048576) = pe1 a b := by
    unfold pe1
    rw [w64_in (n := a * a) (by omega) (by omega), w64_in (n := b * b) (by omega) (by omega), w64_in (n := a * a - b * b) (by omega) (by omega), w64_in (by omega) (by omega), Int.mul_comm]
  have e2 : w64 (w64 ((w64 (2 * a)) * b) * 1048576) = pe2 a b := by
    unfold pe2
    rw [w64_in (n := 2 * a) (by omega) (by omega), Int.mul_assoc, w64_in (n := 2 * (a * b)) (by omega) (by omega), w64_in (by omega) (by omega)]
    omega
  have b1 : -14000000000000000 ≤ pe1 a b ∧ pe1 a b ≤ 14000000000000000 := by unfold pe1; omega
  have b2 : -14000000000000000 ≤ pe2 a b ∧ pe2 a b ≤ 14000000000000000 := by unfold pe2; omega
  simp only [f24_0, f24_0g, f72_0, f72_0g, e1, e2]
  rw [f74_eq (by decide) (by decide) (by omega) (by omega), f91_eq, f74_eq (by decide) (by decide) (by omega) (by omega), f91_eq]
  simp only [J24_0_0, J24_0_0g, f59_eq]
  unfold peO
  have i0 : inB 0 0 67108864 = true := by decide
  have i1 : inB 1 0 67108864 = true := by decide
  by_cases h5 : pe1 a b % 100000000 = 0
  · rw [show (pe1 a b % 100000000 != 0) = false by simpa using h5, cK_false]
    by_cases h6 : pe2 a b % 100000000 = 0
    · have hr : peR a b = 0 := if_pos ⟨h5, h6⟩
      rw [show (pe2 a b % 100000000 != 0) = false by simpa using h6, cK_false, hr, i0, Bool.and_true]; rfl
    · have hr : peR a b = 1 := if_neg (fun q => h6 q.2)
      rw [show (pe2 a b % 100000000 != 0) = true by simpa using h6, cK_true, hr, i1, Bool.and_true]; rfl
  · have hr : peR a b = 1 := if_neg (fun q => h5 q.1)
    rw [show (pe1 a b % 100000000 != 0) = true by simpa using h5, cK_true, hr, i1, Bool.and_true]; rfl
theorem pe_prog {k : Nat → Nat → Int → Int → Option α} :
    f63_0 α (w64 (1048576 * (w64 ((w64 (a * a)) - (w64 (b * b)))))) 100000000
        (fun (x12 : Int) => f63_0 α (w64 ((w64 (2097152 * a)) * b)) 100000000
          (fun (x13 : Int) => J19_0_0 α (w64 (1048576 * (w64 ((w64 (a * a)) - (w64 (b * b)))))) 100000000 (w64 ((w64 (2097152 * a)) * b)) 100000000
            (f64_0 α (FloatKind.nearest .f64 x12) (FloatKind.nearest .f64 x13) 1
              (fun (x27 : Int) => cK (x27 != 0)
                (k 0 0 0 8)
                (k (FloatKind.nearest .f64 x12) (FloatKind.nearest .f64 x13) 1 0)))
            (fun (x25 : Bool) => f64_0 α (FloatKind.nearest .f64 x12) (FloatKind.nearest .f64 x13) 0
              (fun (x28 : Int) => cK (x28 != 0)
                (k 0 0 0 8)
                (k (FloatKind.nearest .f64 x12) (FloatKind.nearest .f64 x13) 0 0)))))
      = if peO a b = true then k (FloatKind.nearest .f64 (peX a b)) (FloatKind.nearest .f64 (peY a b)) (peR a b) 0 else k 0 0 0 8 := by
  obtain ⟨p1, p2, p3⟩ := pe_bd h1 h2 h3 h4
  have e1 : w64 (1048576 * (w64 ((w64 (a * a)) - (w64 (b * b))))) = pe1 a b := by
    unfold pe1
    rw [w64_in (n := a * a) (by omega) (by omega), w64_in (n := b * b) (by omega) (by omega), w64_in (n := a * a - b * b) (by omega) (by omega), w64_in (by omega) (by omega)]
  have e2 : w64 ((w64 (2097152 * a)) * b) = pe2 a b := by
    unfold pe2
    rw [w64_in (n := 2097152 * a) (by omega) (by omega), Int.mul_assoc, w64_in (by omega) (by omega)]
  have b1 : -14000000000000000 ≤ pe1 a b ∧ pe1 a b ≤ 14000000000000000 := by unfold pe1; omega
  have b2 : -14000000000000000 ≤ pe2 a b ∧ pe2 a b ≤ 14000000000000000 := by unfold pe2; omega
  rw [e1, e2]
  rw [f63_eq' (by decide) (by decide) (by omega) (by omega), f63_eq' (by decide) (by decide) (by omega) (by omega)]
  simp only [J19_0_0, J19_0_0g, f64_num (near_ab b1.1 b1.2) (near_ab b2.1 b2.2) (show (0 : Int) ≤ 1 ∧ (1 : Int) ≤ 67108864 by decide), f64_num (near_ab b1.1 b1.2) (near_ab b2.1 b2.2) (show (0 : Int) ≤ 0 ∧ (0 : Int) ≤ 67108864 by decide), tmod_ne]
  rw [show ((100000000 : Int) != 0) = true by decide]
  unfold peO peX peY
  by_cases h5 : pe1 a b % 100000000 = 0
  · by_cases h6 : pe2 a b % 100000000 = 0
    · have hr : peR a b = 0 := if_pos ⟨h5, h6⟩
      rw [hr, decide_eq_true h5, decide_eq_true h6]
      cases ptB (near (pe1 a b) 100000000) <;> cases ptB (near (pe2 a b) 100000000) <;> rfl
    · have hr : peR a b = 1 := if_neg (fun q => h6 q.2)
      rw [hr, decide_eq_true h5, decide_eq_false h6]
      cases ptB (near (pe1 a b) 100000000) <;> cases ptB (near (pe2 a b) 100000000) <;> rfl
  · have hr : peR a b = 1 := if_neg (fun q => h5 q.1)
    rw [hr, decide_eq_false h5]
    cases ptB (near (pe1 a b) 100000000) <;> cases ptB (near (pe2 a b) 100000000) <;> rfl
end
end Go.AM.K
