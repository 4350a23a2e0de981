/- Chapter 6: saturated samples, sums. -/
import Derived.Test.YtjifpcjmnhnpkaaMS1
namespace Go.AM.K
set_option linter.unusedVariables false
set_option linter.unusedSimpArgs false
variable {α : Type}
def satGo (F : Int) : List Int → Nat → List Int
  | [], _ => []
  | x :: r, i => if F ≤ x then (i : Int) :: satGo F r (i + 1) else satGo F r (i + 1)
theorem R75_eq {F : Int} {xs : List Int} (hl : xs.length ≤ 64) {k : Int → Bool → Rows → Option α} : ∀ (m i n : Nat) (acc : List Int), i + m = xs.length → m < n → acc.length ≤ i →
    R75_0_0 α (xs.map rI1) (xs.length : Int) F k n (i : Int) (acc.map rI1) = k (xs.length : Int) false ((acc ++ satGo F (xs.drop i) i).map rI1) := by
  intro m
  induction m with
  | zero =>
    intro i n acc h1 h2 h3
    obtain ⟨n, rfl⟩ : ∃ z, n = z + 1 := ⟨n - 1, by omega⟩
    rw [List.drop_eq_nil_of_le (by omega)]
    have hi : i = xs.length := by omega
    simp only [R75_0_0, S75_0_0, S75_0_0g, satGo, List.append_nil]
    rw [hi, decide_eq_false (by omega)]; rfl
  | succ m ih =>
    intro i n acc h1 h2 h3
    obtain ⟨n, rfl⟩ : ∃ z, n = z + 1 := ⟨n - 1, by omega⟩
    have hi : i < xs.length := by omega
    rw [List.drop_eq_getElem_cons hi]
    simp only [R75_0_0, S75_0_0, S75_0_0g, satGo]
    rw [decide_eq_true (by omega), cK_true, rowK_I hi, w64_in (by omega) (by omega), show (i : Int) + 1 = ((i + 1 : Nat) : Int) by omega, cK_dec]
    split
    · rw [ap1 (by simp; omega), gK_true]
      have := ih (i + 1) n (acc ++ [(i : Int)]) (by omega) (by omega) (by simp; omega)
      rw [List.map_append] at this
      refine this.trans ?_
      rw [List.append_assoc]; rfl
    · exact ih (i + 1) n acc (by omega) (by omega) (by omega)
theorem smp_map {l : List Nat} : l.map smpR = (l.map smp).map rI1 := by rw [List.map_map]; rfl
theorem f75_eq {l : List Nat} (hl : l.length ≤ 64) (hx : ∀ x ∈ l, chkS x = none) {M F : Int} {k : Rows → Option α} : f75_0 α (l.map smpR) M F k = k ((satGo F (l.map smp) 0).map rI1) := by
  have hf := fuel_ge
  simp only [f75_0, f75_0g, L75_0_0, smp_map, List.length_map]
  have := R75_eq (α := α) (F := F) (xs := l.map smp) (by simpa using hl) (k := fun x13 x14 x15 => k x15) l.length 0 fuel [] (by simp) (by omega) (by simp)
  simpa using this
theorem mul_bd3 {x y A : Int} (hx : 0 ≤ x ∧ x ≤ A) (hy : 0 ≤ y ∧ y ≤ 65535) : 0 ≤ x * y ∧ x * y ≤ A * 65535 := ⟨Int.mul_nonneg hx.1 hy.1, Int.mul_le_mul hx.2 hy.2 hy.1 (by omega)⟩
def cs (xs : List Int) (r : Nat) : Nat → Int
  | 0 => 0
  | j + 1 => cs xs r j + xs.getD (4 * j + r) 0
theorem cs_bd {xs : List Int} (hx : ∀ x ∈ xs, 0 ≤ x ∧ x ≤ 65535) (r : Nat) : ∀ j, 0 ≤ cs xs r j ∧ cs xs r j ≤ 65535 * (j : Int)
  | 0 => by simp [cs]
  | j + 1 => by
    have h := cs_bd hx r j
    have : 0 ≤ xs.getD (4 * j + r) 0 ∧ xs.getD (4 * j + r) 0 ≤ 65535 := by
      by_cases hi : 4 * j + r < xs.length
      · rw [List.getD_eq_getElem?_getD, List.getElem?_eq_getElem hi]
        exact hx _ (List.getElem_mem hi)
      · rw [List.getD_eq_getElem?_getD, List.getElem?_eq_none (by omega)]; simp
    simp only [cs]
    push_cast
    omega
theorem gD {xs : List Int} {i : Nat} (h : i < xs.length) : xs.getD i 0 = xs[i] := by rw [List.getD_eq_getElem?_getD, List.getElem?_eq_getElem h]; rfl
section
variable {xs : List Int} (hl : xs.length ≤ 64) (hx : ∀ x ∈ xs, 0 ≤ x ∧ x ≤ 65535)
include hl hx
theorem S21_eq {i : Nat} (hi : i < xs.length) {a b c d : Int} (ha : 0 ≤ a ∧ a ≤ 100000000) (hb : 0 ≤ b ∧ b ≤ 100000000) (hc : 0 ≤ c ∧ c ≤ 100000000) (hd : 0 ≤ d ∧ d ≤ 100000000) {kn : Int → Int → Int → Int → Int → Option α} {k : Int → Bool → Int → Int → Int → Int → Option α} {r : Nat} (hr : i % 4 = r) :
    S21_0_1 α (xs.length : Int) (xs.map rI1) (i : Int) a b c d kn k = kn ((i + 1 : Nat) : Int) (if r = 0 then a + xs.getD i 0 else a) (if r = 1 then b + xs.getD i 0 else b) (if r = 2 then c + xs.getD i 0 else c) (if r = 3 then d + xs.getD i 0 else d) := by
  have hb' := hx _ (List.getElem_mem hi)
  have ht : Int.tmod (i : Int) 4 = (r : Int) := by rw [Int.tmod_eq_emod_of_nonneg (by omega)]; omega
  simp only [S21_0_1, S21_0_1g, J21_0_0, J21_0_0g]
  rw [decide_eq_true (by omega), cK_true, ix_I hi, ld_I hi, ht, w64_in (n := (i : Int) + 1) (by omega) (by omega), show (i : Int) + 1 = ((i + 1 : Nat) : Int) by omega, gD hi]
  have hr4 : r < 4 := by omega
  rcases (show r = 0 ∨ r = 1 ∨ r = 2 ∨ r = 3 by omega) with rfl | rfl | rfl | rfl
  · rw [w64_in (n := a + _) (by omega) (by omega)]; rfl
  · rw [w64_in (n := b + _) (by omega) (by omega)]; rfl
  · rw [w64_in (n := c + _) (by omega) (by omega)]; rfl
  · rw [w64_in (n := d + _) (by omega) (by omega)]; rfl
theorem R21_eq {q : Nat} (hq : xs.length = 4 * q) {k : Int → Bool → Int → Int → Int → Int → Option α} : ∀ (m j n : Nat), j + m = q → 4 * m < n →
    R21_0_1 α (xs.length : Int) (xs.map rI1) k n ((4 * j : Nat) : Int) (cs xs 0 j) (cs xs 1 j) (cs xs 2 j) (cs xs 3 j) = k (xs.length : Int) false (cs xs 0 q) (cs xs 1 q) (cs xs 2 q) (cs xs 3 q) := by
  intro m
  induction m with
  | zero =>
    intro j n h1 h2
    obtain ⟨n, rfl⟩ : ∃ z, n = z + 1 := ⟨n - 1, by omega⟩
    have hj : j = q := by omega
    subst hj
    simp only [R21_0_1, S21_0_1, S21_0_1g]
    rw [decide_eq_false (by omega), cK_false, hq]
  | succ m ih =>
    intro j n h1 h2
    obtain ⟨n, rfl⟩ : ∃ z, n = z + 4 := ⟨n - 4, by omega⟩
    have b0 := cs_bd hx 0 j; have b1 := cs_bd hx 1 j; have b2 := cs_bd hx 2 j; have b3 := cs_bd hx 3 j
    have c0 := cs_bd hx 0 (j + 1); have c1 := cs_bd hx 1 (j + 1); have c2 := cs_bd hx 2 (j + 1); have c3 := cs_bd hx 3 (j + 1)
    have e0 : cs xs 0 (j + 1) = cs xs 0 j + xs.getD (4 * j) 0 := rfl
    have e1 : cs xs 1 (j + 1) = cs xs 1 j + xs.getD (4 * j + 1) 0 := rfl
    have e2 : cs xs 2 (j + 1) = cs xs 2 j + xs.getD (4 * j + 2) 0 := rfl
    have e3 : cs xs 3 (j + 1) = cs xs 3 j + xs.getD (4 * j + 3) 0 := rfl
    have hj : (j : Int) ≤ 16 := by omega
    simp only [R21_0_1]
    rw [S21_eq hl hx (by omega) (by omega) (by omega) (by omega) (by omega) (r := 0) (by omega)]
    rw [if_pos (show (0 : Nat) = 0 from rfl), if_neg (show ¬ (0 : Nat) = 1 by decide), if_neg (show ¬ (0 : Nat) = 2 by decide), if_neg (show ¬ (0 : Nat) = 3 by decide), ← e0]
    rw [S21_eq hl hx (i := 4 * j + 1) (by omega) (by push_cast at *; omega) (by omega) (by omega) (by omega) (r := 1) (by omega)]
    rw [if_neg (show ¬ (1 : Nat) = 0 by decide), if_pos (show (1 : Nat) = 1 from rfl), if_neg (show ¬ (1 : Nat) = 2 by decide), if_neg (show ¬ (1 : Nat) = 3 by decide), ← e1]
    rw [S21_eq hl hx (i := 4 * j + 1 + 1) (by omega) (by push_cast at *; omega) (by push_cast at *; omega) (by omega) (by omega) (r := 2) (by omega)]
    rw [if_neg (show ¬ (2 : Nat) = 0 by decide), if_neg (show ¬ (2 : Nat) = 1 by decide), if_pos (show (2 : Nat) = 2 from rfl), if_neg (show ¬ (2 : Nat) = 3 by decide), show 4 * j + 1 + 1 = 4 * j + 2 from rfl, ← e2]
    rw [S21_eq hl hx (i := 4 * j + 2 + 1) (by omega) (by push_cast at *; omega) (by push_cast at *; omega) (by push_cast at *; omega) (by omega) (r := 3) (by omega)]
    rw [if_neg (show ¬ (3 : Nat) = 0 by decide), if_neg (show ¬ (3 : Nat) = 1 by decide), if_neg (show ¬ (3 : Nat) = 2 by decide), if_pos (show (3 : Nat) = 3 from rfl), show 4 * j + 2 + 1 = 4 * j + 3 from rfl, ← e3]
    exact ih (j + 1) n (by omega) (by omega)
end
def smA (l : List Nat) : Int := cs (l.map smp) 0 (l.length / 4) + cs (l.map smp) 1 (l.length / 4) + cs (l.map smp) 2 (l.length / 4) + cs (l.map smp) 3 (l.length / 4)
def smC (l : List Nat) : Int := cs (l.map smp) 0 (l.length / 4) - cs (l.map smp) 2 (l.length / 4)
def smS (l : List Nat) : Int := cs (l.map smp) 1 (l.length / 4) - cs (l.map smp) 3 (l.length / 4)
def sumK (l : List Nat) (M : Int) (k : Int → Int → Int → Int → Int → Int → Int → Option α) : Option α :=
  k (smA l - (l.length : Int) * M) (smA l + (l.length : Int) * M) (smC l - ((l.length / 2 : Nat) : Int) * M) (smC l + ((l.length / 2 : Nat) : Int) * M) (smS l - ((l.length / 2 : Nat) : Int) * M) (smS l + ((l.length / 2 : Nat) : Int) * M) 0
section
variable {l : List Nat} (hl : l.length ≤ 64) (h4 : l.length % 4 = 0) (hx : ∀ x ∈ l, chkS x = none) {M : Int} (hM : 0 ≤ M ∧ M ≤ 65535)
include hl h4 hx
omit h4 in
theorem smp_bd : (l.map smp).length ≤ 64 ∧ ∀ x ∈ l.map smp, 0 ≤ x ∧ x ≤ 65535 := by
  refine ⟨by simpa using hl, fun x h => ?_⟩
  obtain ⟨y, hy, rfl⟩ := List.mem_map.1 h
  exact (smp_ok (hx y hy)).2
theorem sm_bd : (0 ≤ smA l ∧ smA l ≤ 4194240) ∧ (-1048560 ≤ smC l ∧ smC l ≤ 1048560) ∧ -1048560 ≤ smS l ∧ smS l ≤ 1048560 := by
  obtain ⟨b1, b2⟩ := smp_bd hl hx
  have c0 := cs_bd b2 0 (l.length / 4); have c1 := cs_bd b2 1 (l.length / 4); have c2 := cs_bd b2 2 (l.length / 4); have c3 := cs_bd b2 3 (l.length / 4)
  have hq : ((l.length / 4 : Nat) : Int) ≤ 16 := by omega
  unfold smA smC smS
  omega
include hM
theorem sums21 {k : Int → Int → Int → Int → Int → Int → Int → Option α} : L21_0_1 α (l.length : Int) (l.map smpR) (fun x49 x50 x51 x52 x53 x54 => f76_0 α (w64 ((w64 ((w64 (x51 + x52)) + x53)) + x54)) (w64 ((l.length : Int) * M))
    (fun x56 x57 => f76_0 α (w64 (x51 - x53)) (w64 ((w64 (Int.tdiv (l.length : Int) 2)) * M)) (fun x58 x59 => f76_0 α (w64 (x52 - x54)) (w64 ((w64 (Int.tdiv (l.length : Int) 2)) * M)) (fun x60 x61 => k x56 x57 x58 x59 x60 x61 0)))) 0 0 0 0 0 = sumK l M k := by
  have hf := fuel_ge
  obtain ⟨b1, b2⟩ := smp_bd hl hx
  obtain ⟨a1, a2, a3⟩ := sm_bd hl h4 hx
  have hlen : (l.map smp).length = 4 * (l.length / 4) := by rw [List.length_map]; omega
  have h := fun kk : Int → Bool → Int → Int → Int → Int → Option α => R21_eq b1 b2 hlen (k := kk) (l.length / 4) 0 fuel (by omega) (by omega)
  rw [List.length_map] at h
  have h' : ∀ kk : Int → Bool → Int → Int → Int → Int → Option α, R21_0_1 α (l.length : Int) (l.map smpR) kk fuel 0 0 0 0 0 = kk (l.length : Int) false (cs (l.map smp) 0 (l.length / 4)) (cs (l.map smp) 1 (l.length / 4)) (cs (l.map smp) 2 (l.length / 4)) (cs (l.map smp) 3 (l.length / 4)) := fun kk => by rw [smp_map]; exact h kk
  simp only [L21_0_1, h', f76_0, f76_0g]
  have c0 := cs_bd b2 0 (l.length / 4); have c1 := cs_bd b2 1 (l.length / 4); have c2 := cs_bd b2 2 (l.length / 4); have c3 := cs_bd b2 3 (l.length / 4)
  have hq : ((l.length / 4 : Nat) : Int) ≤ 16 := by omega
  have m1 := mul_bd3 (x := (l.length : Int)) (y := M) (A := 64) (by omega) hM
  have m2 := mul_bd3 (x := ((l.length / 2 : Nat) : Int)) (y := M) (A := 64) (by omega) hM
  have ht : w64 (Int.tdiv (l.length : Int) 2) = ((l.length / 2 : Nat) : Int) := by
    rw [show (2 : Int) = ((2 : Nat) : Int) from rfl, tdiv_nat, w64_in (by omega) (by omega)]
  rw [ht, w64_in (n := cs (l.map smp) 0 (l.length / 4) + cs (l.map smp) 1 (l.length / 4)) (by omega) (by omega), w64_in (n := cs (l.map smp) 0 (l.length / 4) + cs (l.map smp) 1 (l.length / 4) + cs (l.map smp) 2 (l.length / 4)) (by omega) (by omega),
    w64_in (n := cs (l.map smp) 0 (l.length / 4) + cs (l.map smp) 1 (l.length / 4) + cs (l.map smp) 2 (l.length / 4) + cs (l.map smp) 3 (l.length / 4)) (by omega) (by omega), w64_in (n := cs (l.map smp) 0 (l.length / 4) - cs (l.map smp) 2 (l.length / 4)) (by omega) (by omega), w64_in (n := cs (l.map smp) 1 (l.length / 4) - cs (l.map smp) 3 (l.length / 4)) (by omega) (by omega),
    w64_in (n := (l.length : Int) * M) (by omega) (by omega), w64_in (n := ((l.length / 2 : Nat) : Int) * M) (by omega) (by omega)]
  unfold sumK
  have eA : cs (l.map smp) 0 (l.length / 4) + cs (l.map smp) 1 (l.length / 4) + cs (l.map smp) 2 (l.length / 4) + cs (l.map smp) 3 (l.length / 4) = smA l := rfl
  have eC : cs (l.map smp) 0 (l.length / 4) - cs (l.map smp) 2 (l.length / 4) = smC l := rfl
  have eS : cs (l.map smp) 1 (l.length / 4) - cs (l.map smp) 3 (l.length / 4) = smS l := rfl
  rw [eA, eC, eS, w64_in (n := smA l - _) (by omega) (by omega), w64_in (n := smA l + _) (by omega) (by omega), w64_in (n := smC l - _) (by omega) (by omega), w64_in (n := smC l + _) (by omega) (by omega), w64_in (n := smS l - _) (by omega) (by omega), w64_in (n := smS l + _) (by omega) (by omega)]
end
end Go.AM.K
