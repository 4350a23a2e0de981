/- Chapter 8: GrowNarrowest, the plain part. -/
import Derived.Test.YtcidonjhifjpaaaKP11
namespace Go.AM.K
variable {α : Type}
set_option linter.unusedVariables false
set_option linter.unusedSimpArgs false
variable {lo hi er : Int} {l : List (Int × Int)} {G : Nat → Int}

/-- A growth keeps a track. -/
structure Kp (lo hi er : Int) (l : List (Int × Int)) (G : Nat → Int) : Prop where
  g0 : G 0 = 0
  in_ : ∀ i, i < l.length → aT er l (i + 1) ≤ G (i + 1) ∧ G (i + 1) ≤ bT er l (i + 1)
  by_ : ∀ i, i < l.length → G i + (sT l (i + 1) - sT l i) * lo ≤ G (i + 1) ∧ G (i + 1) ≤ G i + (sT l (i + 1) - sT l i) * hi

theorem Kp.fw (h : Kp lo hi er l G) : ∀ i, i < l.length + 1 → fA lo er l i ≤ G i ∧ G i ≤ fB hi er l i
  | 0, _ => by simp [fwA, fwB, aT, bT, h.g0]
  | i + 1, hi' => by
    have ih := Kp.fw h i (by omega)
    have h1 := h.in_ i (by omega)
    have h2 := h.by_ i (by omega)
    have eA : fA lo er l (i + 1) = mx (aT er l (i + 1)) (fA lo er l i + lo * (sT l (i + 1) - sT l i)) := rfl
    have eB : fB hi er l (i + 1) = mn (bT er l (i + 1)) (fB hi er l i + hi * (sT l (i + 1) - sT l i)) := rfl
    rw [eA, eB, Int.mul_comm lo, Int.mul_comm hi]
    unfold mx mn
    constructor <;> split <;> omega

theorem Kp.ok (h : Kp lo hi er l G) : okF lo hi er l l.length 1 = true :=
  (okF_iff _ _).2 fun x h1 h2 => by have := h.fw x (by omega); omega

theorem Kp.bw (t : TrOk lo hi er l) (h : Kp lo hi er l G) : ∀ m, m ≤ l.length → cA lo hi er l (l.length - m) ≤ G (l.length - m) ∧ G (l.length - m) ≤ cB lo hi er l (l.length - m)
  | 0, _ => by
    rw [Nat.sub_zero, cA_last t, cB_last t]; exact h.fw _ (by omega)
  | m + 1, hm => by
    have ih := Kp.bw t h m (by omega)
    obtain ⟨i, hi'⟩ : ∃ i, l.length - (m + 1) = i := ⟨_, rfl⟩
    rw [show l.length - m = i + 1 by omega] at ih
    rw [hi', cA_step t (by omega), cB_step t (by omega), Int.mul_comm lo, Int.mul_comm hi]
    have h1 := h.fw i (by omega)
    have h2 := h.by_ i (by omega)
    unfold mx mn
    constructor <;> split <;> omega

theorem Kp.c (t : TrOk lo hi er l) (h : Kp lo hi er l G) {i : Nat} (hi' : i < l.length + 1) : cA lo hi er l i ≤ G i ∧ G i ≤ cB lo hi er l i := by
  have := h.bw t (l.length - i) (by omega)
  rwa [show l.length - (l.length - i) = i by omega] at this

theorem okF_all (t : TrOk lo hi er l) (ho : okF lo hi er l l.length 1 = true) {i : Nat} (hi' : i < l.length + 1) : fA lo er l i ≤ fB hi er l i := by
  by_cases h : i = 0
  · subst h; simp [fwA, fwB, aT, bT]
  · exact (okF_iff _ _).1 ho i (by omega) (by omega)

theorem c_le (t : TrOk lo hi er l) (ho : okF lo hi er l l.length 1 = true) : ∀ m, m ≤ l.length → cA lo hi er l (l.length - m) ≤ cB lo hi er l (l.length - m) ∧ fA lo er l (l.length - m) ≤ cA lo hi er l (l.length - m) ∧ cB lo hi er l (l.length - m) ≤ fB hi er l (l.length - m)
  | 0, _ => by
    rw [Nat.sub_zero, cA_last t, cB_last t]
    have := okF_all t ho (i := l.length) (by omega)
    omega
  | m + 1, hm => by
    have ih := c_le t ho m (by omega)
    obtain ⟨i, hi'⟩ : ∃ i, l.length - (m + 1) = i := ⟨_, rfl⟩
    rw [show l.length - m = i + 1 by omega] at ih
    rw [hi', cA_step t (by omega), cB_step t (by omega)]
    have h1 := okF_all t ho (i := i) (by omega)
    have h2 := t.mul' (i := i) (j := i + 1) (by omega) (by omega)
    have h3 := Int.mul_nonneg (show 0 ≤ hi - lo by have := t.rate'; omega) h2.1.1
    rw [Int.sub_mul] at h3
    have eA : fA lo er l (i + 1) = mx (aT er l (i + 1)) (fA lo er l i + lo * (sT l (i + 1) - sT l i)) := rfl
    have eB : fB hi er l (i + 1) = mn (bT er l (i + 1)) (fB hi er l i + hi * (sT l (i + 1) - sT l i)) := rfl
    have gA : fA lo er l i + lo * (sT l (i + 1) - sT l i) ≤ fA lo er l (i + 1) := by rw [eA]; unfold mx; split <;> omega
    have gB : fB hi er l (i + 1) ≤ fB hi er l i + hi * (sT l (i + 1) - sT l i) := by rw [eB]; unfold mn; split <;> omega
    unfold mx mn
    refine ⟨?_, ?_, ?_⟩
    · split <;> split <;> omega
    · split <;> omega
    · split <;> omega

theorem c_le' (t : TrOk lo hi er l) (ho : okF lo hi er l l.length 1 = true) {i : Nat} (hi' : i < l.length + 1) : cA lo hi er l i ≤ cB lo hi er l i ∧ fA lo er l i ≤ cA lo hi er l i ∧ cB lo hi er l i ≤ fB hi er l i := by
  have := c_le t ho (l.length - i) (by omega)
  rwa [show l.length - (l.length - i) = i by omega] at this

theorem c_by (t : TrOk lo hi er l) (ho : okF lo hi er l l.length 1 = true) {i : Nat} (hi' : i < l.length) :
    (cA lo hi er l i + (sT l (i + 1) - sT l i) * lo ≤ cA lo hi er l (i + 1) ∧ cA lo hi er l (i + 1) ≤ cA lo hi er l i + (sT l (i + 1) - sT l i) * hi) ∧ (cB lo hi er l i + (sT l (i + 1) - sT l i) * lo ≤ cB lo hi er l (i + 1) ∧ cB lo hi er l (i + 1) ≤ cB lo hi er l i + (sT l (i + 1) - sT l i) * hi) := by
  have h0 := c_le' t ho (i := i) (by omega)
  have h1 := c_le' t ho (i := i + 1) (by omega)
  have h2 := t.mul' (i := i) (j := i + 1) (by omega) (by omega)
  have h3 := Int.mul_nonneg (show 0 ≤ hi - lo by have := t.rate'; omega) h2.1.1
  rw [Int.sub_mul] at h3
  have eA : fA lo er l (i + 1) = mx (aT er l (i + 1)) (fA lo er l i + lo * (sT l (i + 1) - sT l i)) := rfl
  have eB : fB hi er l (i + 1) = mn (bT er l (i + 1)) (fB hi er l i + hi * (sT l (i + 1) - sT l i)) := rfl
  have gA : fA lo er l i + lo * (sT l (i + 1) - sT l i) ≤ fA lo er l (i + 1) := by rw [eA]; unfold mx; split <;> omega
  have gB : fB hi er l (i + 1) ≤ fB hi er l i + hi * (sT l (i + 1) - sT l i) := by rw [eB]; unfold mn; split <;> omega
  rw [cA_step t (i := i) (by omega), cB_step t (i := i) (by omega), Int.mul_comm _ lo, Int.mul_comm _ hi]
  unfold mx mn
  refine ⟨⟨?_, ?_⟩, ⟨?_, ?_⟩⟩ <;> split <;> omega

theorem cA_keeps (t : TrOk lo hi er l) (ho : okF lo hi er l l.length 1 = true) : Kp lo hi er l (cA lo hi er l) where
  g0 := by
    have h1 := c_le' t ho (i := 0) (by omega)
    simp only [fA, fB, fwA, fwB, aT, bT] at h1; omega
  in_ i hi' := by
    have h1 := c_le' t ho (i := i + 1) (by omega)
    have hA := fA_ge (lo := lo) (er := er) (l := l) (i := i + 1)
    have hB := fB_le (hi := hi) (er := er) (l := l) (i := i + 1)
    omega
  by_ i hi' := (c_by t ho hi').1
theorem cB_keeps (t : TrOk lo hi er l) (ho : okF lo hi er l l.length 1 = true) : Kp lo hi er l (cB lo hi er l) where
  g0 := by
    have h1 := c_le' t ho (i := 0) (by omega)
    simp only [fA, fB, fwA, fwB, aT, bT] at h1; omega
  in_ i hi' := by
    have h1 := c_le' t ho (i := i + 1) (by omega)
    have hA := fA_ge (lo := lo) (er := er) (l := l) (i := i + 1)
    have hB := fB_le (hi := hi) (er := er) (l := l) (i := i + 1)
    omega
  by_ i hi' := (c_by t ho hi').2

end Go.AM.K
