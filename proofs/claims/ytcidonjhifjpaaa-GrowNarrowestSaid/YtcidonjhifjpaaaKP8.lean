/- Chapter 8: GrowTracks, part 2: the readings, and which of them contradict. -/
import Derived.Test.YtcidonjhifjpaaaKP7
namespace Go.AM.K
variable {α : Type}
set_option linter.unusedVariables false
set_option linter.unusedSimpArgs false

def sT (l : List (Int × Int)) : Nat → Int
  | 0 => 0
  | i + 1 => (gt2 l i).1
def aT (er : Int) (l : List (Int × Int)) : Nat → Int
  | 0 => 0
  | i + 1 => 1000 * ((gt2 l i).2 - er)
def bT (er : Int) (l : List (Int × Int)) : Nat → Int
  | 0 => 0
  | i + 1 => 1000 * ((gt2 l i).2 + er)

/-- Rows by a function. -/
def FR (p : Nat → Int × Int × Int) (N : Nat) : Rows := ((List.range N).map p).map rI3
@[simp] theorem FR_len {p : Nat → Int × Int × Int} {N : Nat} : (FR p N).length = N := by simp [FR]
theorem FR_get {p : Nat → Int × Int × Int} {N i : Nat} (h : i < N) : (FR p N)[i]? = some (rI3 (p i)) := by simp [FR, h]
theorem FR_at {p : Nat → Int × Int × Int} {N i : Nat} (h : i < N) : rowAt (FR p N) i = rI3 (p i) := by
  simp only [rowAt, List.getD_eq_getElem?_getD, FR_get h]; rfl
theorem FR_ix {p : Nat → Int × Int × Int} {N i : Nat} (h : i < N) {x : Option α} : ixK (FR p N) (i : Int) 3 x = x := by
  have : decide ((0 : Int) ≤ (i : Int) ∧ (i : Int) < (((FR p N).length : Nat) : Int) ∧ (rowAt (FR p N) (i : Int).toNat).length = 3) = true := by
    rw [Int.toNat_natCast, FR_at h, FR_len]; exact decide_eq_true ⟨by omega, by omega, rfl⟩
  unfold ixK; rw [this]
theorem FR_ld1 {p : Nat → Int × Int × Int} {N i : Nat} (h : i < N) {f : Int → Option α} : ldK (FR p N) (Int.toNat (i : Int)) 0 [.int .i64] f = f (p i).1 := by
  have : decide ((i : Int).toNat < (FR p N).length) = true := by rw [Int.toNat_natCast, FR_len]; exact decide_eq_true h
  unfold ldK; rw [this, Int.toNat_natCast, FR_at h]; rfl
theorem FR_ld2 {p : Nat → Int × Int × Int} {N i : Nat} (h : i < N) {f : Int → Int → Option α} : ldK (FR p N) (Int.toNat (i : Int)) 1 [.int .i64, .int .i64] f = f (p i).2.1 (p i).2.2 := by
  have : decide ((i : Int).toNat < (FR p N).length) = true := by rw [Int.toNat_natCast, FR_len]; exact decide_eq_true h
  unfold ldK; rw [this, Int.toNat_natCast, FR_at h]; rfl
theorem FR_ld3 {p : Nat → Int × Int × Int} {N i : Nat} (h : i < N) {f : Int → Int → Int → Option α} : ldK (FR p N) (Int.toNat (i : Int)) 0 [.int .i64, .int .i64, .int .i64] f = f (p i).1 (p i).2.1 (p i).2.2 := by
  have : decide ((i : Int).toNat < (FR p N).length) = true := by rw [Int.toNat_natCast, FR_len]; exact decide_eq_true h
  unfold ldK; rw [this, Int.toNat_natCast, FR_at h]; rfl
theorem FR_st {p : Nat → Int × Int × Int} {N i : Nat} (h : i < N) {x : Option α} : stK (FR p N) (Int.toNat (i : Int)) 1 2 x = x := by
  have : decide ((i : Int).toNat < (FR p N).length ∧ 1 + 2 ≤ (rowAt (FR p N) (i : Int).toNat).length) = true := by
    rw [Int.toNat_natCast, FR_at h, FR_len]; exact decide_eq_true ⟨h, by show (1 + 2 : Nat) ≤ 3; decide⟩
  unfold stK; rw [this]
theorem FR_congr {p q : Nat → Int × Int × Int} {N : Nat} (h : ∀ i, i < N → p i = q i) : FR p N = FR q N := by
  unfold FR; congr 1
  exact List.map_congr_left fun i hi => h i (List.mem_range.1 hi)
theorem FR_set {p : Nat → Int × Int × Int} {N i : Nat} (h : i < N) {x y : Int} :
    List.set (FR p N) (Int.toNat (i : Int)) (splice (rowAt (FR p N) (Int.toNat (i : Int))) 1 [DC.v (.int .i64 x), DC.v (.int .i64 y)]) = FR (fun j => if j = i then ((p i).1, x, y) else p j) N := by
  rw [Int.toNat_natCast, FR_at h, show splice (rI3 (p i)) 1 [DC.v (.int .i64 x), DC.v (.int .i64 y)] = rI3 ((p i).1, x, y) from rfl]
  refine List.ext_getElem (by simp) fun j h1 h2 => ?_
  simp only [List.length_set, FR_len] at h1
  simp only [List.getElem_set, FR, List.getElem_map, List.getElem_range]
  by_cases hj : i = j
  · subst hj; simp
  · have : ¬ j = i := fun h => hj h.symm
    simp only [hj, this, if_false]
theorem FR_row {p : Nat → Int × Int × Int} {N i : Nat} (h : i < N) {f : Int → Int → Int → Option α} : rowK (FR p N) (i : Int) [.int .i64, .int .i64, .int .i64] f = f (p i).1 (p i).2.1 (p i).2.2 :=
  (rowK_get (sh := [.int .i64, .int .i64, .int .i64]) (f := f) (r := rI3 (p i)) (FR_get h)).trans rfl
theorem FR_succ {p : Nat → Int × Int × Int} {N : Nat} : FR p N ++ [rI3 (p N)] = FR p (N + 1) := by
  simp [FR, List.range_succ]
theorem FR_drop {p : Nat → Int × Int × Int} {N : Nat} : List.drop 1 (FR p (N + 1)) = FR (fun i => p (i + 1)) N := by
  simp [FR, List.range_succ_eq_map, Function.comp_def]

section
variable {lo hi er : Int} {l : List (Int × Int)}

theorem TrOk.s_bd (t : TrOk lo hi er l) {i : Nat} (h : i < l.length + 1) : 0 ≤ sT l i ∧ sT l i ≤ 100000 := by
  match i with
  | 0 => simp [sT]
  | i + 1 => have := t.rd i (by omega); simp only [sT]; omega
theorem TrOk.s_lt (t : TrOk lo hi er l) : ∀ i j, i < j → j < l.length + 1 → sT l i < sT l j
  | i, 0, h1, h2 => by omega
  | 0, j + 1, h1, h2 => by have := t.rd j (by omega); simp only [sT]; omega
  | i + 1, j + 1, h1, h2 => by
    by_cases h : i + 1 = j
    · subst h; exact t.inc i (by omega)
    · have h3 := TrOk.s_lt t (i + 1) j (by omega) (by omega)
      match j, h, h1, h2, h3 with
      | 0, h, h1, h2, h3 => omega
      | j + 1, h, h1, h2, h3 => have := t.inc j (by omega); simp only [sT] at *; omega
theorem TrOk.s_le (t : TrOk lo hi er l) {i j : Nat} (h1 : i ≤ j) (h2 : j < l.length + 1) : sT l i ≤ sT l j := by
  rcases Nat.lt_or_eq_of_le h1 with h | h
  · exact Int.le_of_lt (t.s_lt i j h h2)
  · subst h; exact Int.le_refl _
theorem TrOk.a_bd (t : TrOk lo hi er l) {i : Nat} (h : i < l.length + 1) : -1000000000 ≤ aT er l i ∧ aT er l i ≤ bT er l i ∧ bT er l i ≤ 2000000000 := by
  have := t.err
  match i with
  | 0 => simp [aT, bT]
  | i + 1 => have := t.rd i (by omega); simp only [aT, bT]; omega
theorem TrOk.mul (t : TrOk lo hi er l) {i j : Nat} (h1 : i ≤ j) (h2 : j < l.length + 1) : (0 ≤ sT l j - sT l i ∧ sT l j - sT l i ≤ 100000) ∧ (0 ≤ (sT l j - sT l i) * lo ∧ (sT l j - sT l i) * lo ≤ 100000000000) ∧ (0 ≤ (sT l j - sT l i) * hi ∧ (sT l j - sT l i) * hi ≤ 100000000000) := by
  have h3 := t.s_le h1 h2
  have h4 := t.s_bd (i := i) (by omega)
  have h5 := t.s_bd h2
  have h6 := t.rate
  unfold okR at h6
  refine ⟨by omega, ?_, ?_⟩
  · have := mul_bd (a := sT l j - sT l i) (b := lo) (A := 100000) (B := 1000000) (by omega) (by omega) (by omega) (by omega); omega
  · have := mul_bd (a := sT l j - sT l i) (b := hi) (A := 100000) (B := 1000000) (by omega) (by omega) (by omega) (by omega); omega
theorem TrOk.rate' (t : TrOk lo hi er l) : lo ≤ hi := t.rate.2.2

/-- The points. -/
def pT (er : Int) (l : List (Int × Int)) (i : Nat) : Int × Int × Int := (sT l i, aT er l i, bT er l i)

theorem R73 (t : TrOk lo hi er l) {k1 : Int → Bool → Rows → Option α} {fin : Rows → Option α} (hk : ∀ a b c, k1 a b c = fin c) : ∀ (m i n : Nat), i + m = l.length → m < n →
    R73_0_0 α (l.map rI2) ((l.length : Nat) : Int) er k1 n (i : Int) (FR (pT er l) (i + 1)) = fin (FR (pT er l) (l.length + 1)) := by
  have hl := t.len
  intro m
  induction m with
  | zero =>
    intro i n h1 h2
    obtain ⟨n, rfl⟩ : ∃ k, n = k + 1 := ⟨n - 1, by omega⟩
    have : ¬ ((i : Int) < ((l.length : Nat) : Int)) := by omega
    simp only [R73_0_0, S73_0_0, S73_0_0g, this, decide_false, cK_false, hk]
    rw [show i = l.length by omega]
  | succ m ih =>
    intro i n h1 h2
    obtain ⟨n, rfl⟩ : ∃ k, n = k + 1 := ⟨n - 1, by omega⟩
    have hi : i < l.length := by omega
    have : ((i : Int) < ((l.length : Nat) : Int)) := by omega
    have h3 := t.rd i hi
    have h4 := t.err
    simp only [R73_0_0, S73_0_0, S73_0_0g, this, decide_true, cK_true]
    rw [rowK_G2 hi, w64_nat hi (by omega)]
    rw [w64_in (n := (gt2 l i).2 - er) (by omega) (by omega), w64_in (n := (gt2 l i).2 + er) (by omega) (by omega), w64_in (n := 1000 * ((gt2 l i).2 - er)) (by omega) (by omega), w64_in (n := 1000 * ((gt2 l i).2 + er)) (by omega) (by omega)]
    rw [show ([[DC.v (.int .i64 (gt2 l i).1), DC.v (.int .i64 (1000 * ((gt2 l i).2 - er))), DC.v (.int .i64 (1000 * ((gt2 l i).2 + er)))]] : Rows) = [pT er l (i + 1)].map rI3 from rfl]
    rw [apOk_of (enc := rI3) (n := 3) (fun _ => rfl) (by simp; omega) (by simp; omega), gK_true]
    rw [show [pT er l (i + 1)].map rI3 = [rI3 (pT er l (i + 1))] from rfl, FR_succ]
    exact ih (i + 1) n (by omega) (by omega)

theorem f73_eq (t : TrOk lo hi er l) {k : Rows → Option α} : f73_0 α lo hi er (l.map rI2) k = k (FR (pT er l) (l.length + 1)) := by
  have hl := t.len
  have := fuel_ge
  simp only [f73_0, f73_0g, L73_0_0, List.length_map]
  exact R73 t (k1 := fun _ _ x => k x) (fin := k) (fun _ _ _ => rfl) l.length 0 fuel (by omega) (by omega)

theorem f96_eq (t : TrOk lo hi er l) {i : Nat} {z : Int} (hz : z = (i : Int) - 1) (hi' : i < l.length + 1) {k : Int → Int → Int → Option α} : f96_0 α lo hi er (l.map rI2) z k = k (sT l i) (aT er l i) (bT er l i) := by
  have hl := t.len
  simp only [f96_0, f96_0g]
  match i with
  | 0 =>
    have : z < 0 := by omega
    simp only [this, decide_true, cK_true, sT, aT, bT]
  | i + 1 =>
    have : ¬ z < 0 := by omega
    have h3 := t.rd i (by omega)
    have h4 := t.err
    obtain rfl : z = (i : Int) := by omega
    simp only [this, decide_false, cK_false, sT, aT, bT]
    rw [rowK_G2 (by omega)]
    rw [w64_in (n := (gt2 l i).2 - er) (by omega) (by omega), w64_in (n := (gt2 l i).2 + er) (by omega) (by omega), w64_in (n := 1000 * ((gt2 l i).2 - er)) (by omega) (by omega), w64_in (n := 1000 * ((gt2 l i).2 + er)) (by omega) (by omega)]

abbrev ctT (lo hi er : Int) (l : List (Int × Int)) : Nat → Nat → Bool := ctr (aT er l) (bT er l) (sT l) lo hi

theorem f97_eq (t : TrOk lo hi er l) {i j : Nat} {y z : Int} (hy : y = (i : Int) - 1) (hz : z = (j : Int) - 1) (hij : i ≤ j) (hj : j < l.length + 1) {k : Bool → Option α} : f97_0 α lo hi er (l.map rI2) y z k = k (ctT lo hi er l i j) := by
  have hm := t.mul hij hj
  have h1 := t.a_bd (i := i) (by omega)
  have h2 := t.a_bd hj
  simp only [f97_0, f97_0g, f96_eq t hy (by omega), f96_eq t hz hj]
  rw [w64_in (n := sT l j - sT l i) (by omega) (by omega), w64_in (n := (sT l j - sT l i) * lo) (by omega) (by omega), w64_in (n := (sT l j - sT l i) * hi) (by omega) (by omega), w64_in (n := aT er l i + _) (by omega) (by omega), w64_in (n := bT er l i + _) (by omega) (by omega)]
  exact cK_or

/-- The first one, the first two. -/
def ctI (c : Nat → Nat → Bool) (j : Nat) : Nat → Nat → Option Nat
  | 0, _ => none
  | m + 1, k => if c j k = true then some k else ctI c j m (k + 1)
def ctO (c : Nat → Nat → Bool) (N : Nat) : Nat → Nat → Option (Nat × Nat)
  | 0, _ => none
  | m + 1, j => match ctI c j (N - (j + 1)) (j + 1) with
    | some k => some (j, k)
    | none => ctO c N m (j + 1)

theorem ctI_none {c : Nat → Nat → Bool} {j : Nat} : ∀ m k, ctI c j m k = none ↔ ∀ x, k ≤ x → x < k + m → c j x = false
  | 0, k => by simp only [ctI, true_iff]; intro x h1 h2; omega
  | m + 1, k => by
    simp only [ctI]
    cases hc : c j k
    · simp only [Bool.false_eq_true, if_false, ctI_none m (k + 1)]
      constructor
      · intro h x h1 h2
        by_cases hx : x = k
        · subst hx; exact hc
        · exact h x (by omega) (by omega)
      · intro h x h1 h2; exact h x (by omega) (by omega)
    · simp only [if_true]
      constructor
      · intro h; cases h
      · intro h; have := h k (by omega) (by omega); rw [hc] at this; cases this
theorem ctO_none {c : Nat → Nat → Bool} {N : Nat} : ∀ m j, j + m = N → (ctO c N m j = none ↔ ∀ x y, j ≤ x → x < y → y < N → c x y = false)
  | 0, j, h => by simp only [ctO, true_iff]; intro x y h1 h2 h3; omega
  | m + 1, j, h => by
    simp only [ctO]
    have hI := ctI_none (c := c) (j := j) (N - (j + 1)) (j + 1)
    cases hc : ctI c j (N - (j + 1)) (j + 1) with
    | none =>
      have hO := ctO_none (c := c) (N := N) m (j + 1) (by omega)
      have hI := hI.1 hc
      show ctO c N m (j + 1) = none ↔ _
      rw [hO]
      constructor
      · intro h4 x y h1 h2 h3
        by_cases hx : x = j
        · subst hx; exact hI y (by omega) (by omega)
        · exact h4 x y (by omega) h2 h3
      · intro h4 x y h1 h2 h3; exact h4 x y (by omega) h2 h3
    | some k =>
      constructor
      · intro h4; cases h4
      · intro h4
        have := hI.2 (fun x h1 h2 => h4 j x (by omega) (by omega) (by omega))
        rw [hc] at this; cases this

theorem R35i (t : TrOk lo hi er l) {j : Nat} {z : Int} (hz : z = (j : Int) - 1) {k1 : Int → Option α} {k2 : Int → Bool → Option α} {fin : Option α} (hk : ∀ a b, k2 a b = fin) : ∀ (m k n : Nat), j < k → k + m = l.length + 1 → m < n →
    R35_0_0 α z lo hi er (l.map rI2) k1 k2 n ((k : Int) - 1) = match ctI (ctT lo hi er l) j m k with | some x => k1 ((x : Int) - 1) | none => fin := by
  have hl := t.len
  intro m
  induction m with
  | zero =>
    intro k n hj h1 h2
    obtain ⟨n, rfl⟩ : ∃ k, n = k + 1 := ⟨n - 1, by omega⟩
    have : ¬ ((k : Int) - 1 < ((l.length : Nat) : Int)) := by omega
    simp only [R35_0_0, S35_0_0, S35_0_0g, List.length_map, this, decide_false, cK_false, hk, ctI]
  | succ m ih =>
    intro k n hj h1 h2
    obtain ⟨n, rfl⟩ : ∃ k, n = k + 1 := ⟨n - 1, by omega⟩
    have : ((k : Int) - 1 < ((l.length : Nat) : Int)) := by omega
    simp only [R35_0_0, S35_0_0, S35_0_0g, List.length_map, this, decide_true, cK_true, ctI]
    rw [f97_eq t hz rfl (by omega) (by omega), w64_in (by omega) (by omega), show (k : Int) - 1 + 1 = ((k + 1 : Nat) : Int) - 1 by omega, ih (k + 1) n (by omega) (by omega) (by omega)]
    cases ctT lo hi er l j k <;> simp

theorem R35o (t : TrOk lo hi er l) {k1 : Int → Int → Option α} {k2 : Int → Bool → Option α} {fin : Option α} (hk : ∀ a b, k2 a b = fin) : ∀ (m j n : Nat), j + m = l.length + 1 → m < n →
    R35_0_1 α lo hi er (l.map rI2) k1 k2 n ((j : Int) - 1) = match ctO (ctT lo hi er l) (l.length + 1) m j with | some x => k1 ((x.1 : Int) - 1) ((x.2 : Int) - 1) | none => fin := by
  have hl := t.len
  have := fuel_ge
  intro m
  induction m with
  | zero =>
    intro j n h1 h2
    obtain ⟨n, rfl⟩ : ∃ k, n = k + 1 := ⟨n - 1, by omega⟩
    have : ¬ ((j : Int) - 1 < ((l.length : Nat) : Int)) := by omega
    simp only [R35_0_1, S35_0_1, S35_0_1g, List.length_map, this, decide_false, cK_false, hk, ctO]
  | succ m ih =>
    intro j n h1 h2
    obtain ⟨n, rfl⟩ : ∃ k, n = k + 1 := ⟨n - 1, by omega⟩
    have h3 : ((j : Int) - 1 < ((l.length : Nat) : Int)) := by omega
    simp only [R35_0_1, S35_0_1, S35_0_1g, List.length_map, h3, decide_true, cK_true, ctO, L35_0_0]
    rw [w64_in (by omega) (by omega), show (j : Int) - 1 + 1 = ((j + 1 : Nat) : Int) - 1 by omega, ih (j + 1) n (by omega) (by omega), R35i t rfl (fin := _) (fun _ _ => rfl) (l.length + 1 - (j + 1)) (j + 1) fuel (by omega) (by omega) (by omega)]
    cases ctI (ctT lo hi er l) j (l.length + 1 - (j + 1)) (j + 1) <;> rfl

/-- The first two that contradict. -/
abbrev fcT (lo hi er : Int) (l : List (Int × Int)) : Option (Nat × Nat) := ctO (ctT lo hi er l) (l.length + 1) (l.length + 1) 0

theorem f35_eq (t : TrOk lo hi er l) {k : Int → Int → Bool → Option α} : f35_0 α lo hi er (l.map rI2) k = match fcT lo hi er l with | some x => k ((x.1 : Int) - 1) ((x.2 : Int) - 1) true | none => k 0 0 false := by
  have hl := t.len
  have := fuel_ge
  simp only [f35_0, f35_0g, L35_0_1]
  exact R35o t (fun _ _ => rfl) (l.length + 1) 0 fuel (by omega) (by omega)

end
end Go.AM.K
