/- MeterQuantises. -/
import Derived.Test.YtjifpcjmnhnpkaaMH4
import Derived.Test.YtjifpcjmnhnpkaaKTt
namespace Go.AM.K
set_option linter.unusedVariables false
set_option linter.unusedSimpArgs false
variable {α : Type}
def qn (s x : Int) : Int := (2 * x + s) / (2 * s) * s
theorem qn_bd {s x : Int} (hs : 1 ≤ s ∧ s ≤ 1000) (hx : 0 ≤ x ∧ x ≤ 65535) : 0 ≤ qn s x ∧ 2 * qn s x ≤ 2 * x + s ∧ 2 * x - s < 2 * qn s x ∧ 0 ≤ (2 * x + s) / (2 * s) ∧ (2 * x + s) / (2 * s) ≤ 200000 := by
  have e := Int.emod_add_mul_ediv (2 * x + s) (2 * s)
  have m1 := Int.emod_nonneg (2 * x + s) (show 2 * s ≠ 0 by omega)
  have m2 := Int.emod_lt_of_pos (2 * x + s) (show 0 < 2 * s by omega)
  have q1 : 0 ≤ (2 * x + s) / (2 * s) := Int.ediv_nonneg (by omega) (by omega)
  have q2 : (2 * x + s) / (2 * s) ≤ 2 * x + s := Int.ediv_le_self _ (by omega)
  unfold qn
  have e2 : 2 * s * ((2 * x + s) / (2 * s)) = 2 * ((2 * x + s) / (2 * s) * s) := by rw [Int.mul_assoc, Int.mul_comm s]
  have q3 : 0 ≤ (2 * x + s) / (2 * s) * s := Int.mul_nonneg q1 (by omega)
  omega
abbrev qR (s x : Int) : List DC := rF (N32 (qn s x))
def qzE (s : Int) : List Int → Option Int
  | [] => none
  | x :: r => if 0 ≤ x ∧ x ≤ 65535 then (if 65535 < qn s x then some 8 else qzE s r) else some 2
theorem ap1F {X : Rows} {y : Nat} (h : X.length < 100) : apOk 1 4 X [[DC.v (.float .f32 y)]] = true :=
  apOk_of (enc := rF) (n := 1) (b := 4) (fun _ => rfl) (rows := X) (l := [y]) (by simp; omega) (by simp; omega)
theorem f70_eq {n : Int} {k : Bool → Option α} : f70_0 α n k = k (decide (0 ≤ n ∧ n ≤ 65535)) := by simp only [f70_0, f70_0g, f29_eq]
section
variable {s : Int} (hs : 1 ≤ s ∧ s ≤ 1000) {l : List Int} (hl : l.length ≤ 64)
include hs hl
theorem R38_eq {k1 : Int → Option α} {k2 : Int → Bool → Rows → Option α} : ∀ (m i n : Nat), i + m = l.length → m < n →
    R38_0_0 α s (l.map rI1) (l.length : Int) k1 k2 n (i : Int) ((l.take i).map (qR s)) = match qzE s (l.drop i) with | some e => k1 e | none => k2 (l.length : Int) false (l.map (qR s)) := by
  intro m
  induction m with
  | zero =>
    intro i n h1 h2
    obtain ⟨n, rfl⟩ : ∃ z, n = z + 1 := ⟨n - 1, by omega⟩
    rw [List.drop_eq_nil_of_le (by omega), List.take_of_length_le (by omega)]
    have hi : i = l.length := by omega
    simp only [R38_0_0, S38_0_0, S38_0_0g, qzE]
    rw [hi, decide_eq_false (by omega)]; rfl
  | succ m ih =>
    intro i n h1 h2
    obtain ⟨n, rfl⟩ : ∃ z, n = z + 1 := ⟨n - 1, by omega⟩
    have hi : i < l.length := by omega
    rw [List.drop_eq_getElem_cons hi]
    simp only [R38_0_0, S38_0_0, S38_0_0g, qzE]
    rw [decide_eq_true (by omega), cK_true, rowK_I hi, f98_eq]
    by_cases hx : 0 ≤ l[i]'hi ∧ l[i]'hi ≤ 65535
    · obtain ⟨b1, b2, b3, b4, b5⟩ := qn_bd hs hx
      have e : w64 (s * ((2 * (l[i]'hi) + s) / (2 * s))) = qn s (l[i]'hi) := by
        rw [Int.mul_comm]
        exact w64_in (by show -9223372036854775808 ≤ qn s (l[i]'hi); omega) (by show qn s (l[i]'hi) ≤ _; omega)
      rw [decide_eq_true hx, Bool.not_true, cK_false, if_pos hx, w64_in (n := 2 * (l[i]'hi)) (by omega) (by omega), w64_in (n := 2 * (l[i]'hi) + s) (by omega) (by omega), w64_in (n := 2 * s) (by omega) (by omega), f78_pos (by omega) (by omega) (by omega) (by omega), e, cK_dec]
      by_cases hq : 65535 < qn s (l[i]'hi)
      · rw [if_pos hq, if_pos hq]
      · rw [if_neg hq, if_neg hq, ap1F (by simp; omega), gK_true, w64_in (by omega) (by omega), show (i : Int) + 1 = ((i + 1 : Nat) : Int) by omega, ← ih (i + 1) n (by omega) (by omega), List.take_succ_eq_append_getElem hi, List.map_append]
        rfl
    · rw [decide_eq_false hx, Bool.not_false, cK_true, if_neg hx]
theorem R40_eq {k1 : Int → Option α} {k2 : Int → Bool → Rows → Option α} : ∀ (m i n : Nat), i + m = l.length → m < n →
    R40_0_0 α (l.map rI1) s k1 k2 n (i : Int) ((l.take i).map (qR s)) = match qzE s (l.drop i) with | some e => k1 e | none => k2 (l.length : Int) false (l.map (qR s)) := by
  intro m
  induction m with
  | zero =>
    intro i n h1 h2
    obtain ⟨n, rfl⟩ : ∃ z, n = z + 1 := ⟨n - 1, by omega⟩
    rw [List.drop_eq_nil_of_le (by omega), List.take_of_length_le (by omega)]
    have hi : i = l.length := by omega
    simp only [R40_0_0, S40_0_0, S40_0_0g, qzE, List.length_map]
    rw [hi, decide_eq_false (by omega)]; rfl
  | succ m ih =>
    intro i n h1 h2
    obtain ⟨n, rfl⟩ : ∃ z, n = z + 1 := ⟨n - 1, by omega⟩
    have hi : i < l.length := by omega
    rw [List.drop_eq_getElem_cons hi]
    simp only [R40_0_0, S40_0_0, S40_0_0g, qzE, List.length_map]
    rw [decide_eq_true (by omega), cK_true, rowK_I hi, f70_eq]
    by_cases hx : 0 ≤ l[i]'hi ∧ l[i]'hi ≤ 65535
    · obtain ⟨b1, b2, b3, b4, b5⟩ := qn_bd hs hx
      have e : w64 ((2 * (l[i]'hi) + s) / (2 * s) * s) = qn s (l[i]'hi) := 
        w64_in (by show -9223372036854775808 ≤ qn s (l[i]'hi); omega) (by show qn s (l[i]'hi) ≤ _; omega)
      rw [decide_eq_true hx, Bool.not_true, cK_false, if_pos hx, rowK_I hi, w64_in (n := 2 * (l[i]'hi)) (by omega) (by omega), w64_in (n := 2 * (l[i]'hi) + s) (by omega) (by omega), w64_in (n := 2 * s) (by omega) (by omega), f99_eq (by omega) (by omega) (by omega) (by omega), e, cK_dec]
      by_cases hq : 65535 < qn s (l[i]'hi)
      · rw [if_pos hq, if_pos hq]
      · rw [if_neg hq, if_neg hq, ap1F (by simp; omega), gK_true, w64_in (by omega) (by omega), show (i : Int) + 1 = ((i + 1 : Nat) : Int) by omega, ← ih (i + 1) n (by omega) (by omega), List.take_succ_eq_append_getElem hi, List.map_append]
        rfl
    · rw [decide_eq_false hx, Bool.not_false, cK_true, if_neg hx]
end
theorem qzE_none {s : Int} : ∀ {l : List Int}, qzE s l = none → ∀ x ∈ l, (0 ≤ x ∧ x ≤ 65535) ∧ qn s x ≤ 65535
  | [], _, x, hx => by cases hx
  | y :: r, h, x, hx => by
    simp only [qzE] at h
    by_cases h1 : 0 ≤ y ∧ y ≤ 65535
    · rw [if_pos h1] at h
      by_cases h2 : 65535 < qn s y
      · rw [if_pos h2] at h; cases h
      · rw [if_neg h2] at h
        rcases List.mem_cons.1 hx with rfl | hx
        · exact ⟨h1, by omega⟩
        · exact qzE_none h x hx
    · rw [if_neg h1] at h; cases h
theorem qzE_some {s : Int} : ∀ {l : List Int} {e : Int}, qzE s l = some e → e ≠ 0
  | [], e, h => by cases h
  | y :: r, e, h => by
    simp only [qzE] at h
    by_cases h1 : 0 ≤ y ∧ y ≤ 65535
    · rw [if_pos h1] at h
      by_cases h2 : 65535 < qn s y
      · rw [if_pos h2, Option.some.injEq] at h; omega
      · rw [if_neg h2] at h; exact qzE_some h
    · rw [if_neg h1, Option.some.injEq] at h; omega
theorem qz_both (l : List Int) (s : Int) : ∃ (L : List Nat) (e : Int), L.length ≤ 64 ∧ (∀ {k : Rows → Int → Option α}, f38_0 α (l.map rI1) s k = k (L.map rF) e) ∧ (∀ {k : Rows → Int → Option α}, f40_0 α (l.map rI1) s k = k (L.map rF) e) ∧
    (e = 0 → L = (l.map (qn s)).map N32 ∧ (1 ≤ s ∧ s ≤ 1000) ∧ l.length ≤ 64 ∧ ∀ x ∈ l, (0 ≤ x ∧ x ≤ 65535) ∧ qn s x ≤ 65535) := by
  have hf := fuel_ge
  simp only [f38_0, f38_0g, f40_0, f40_0g, f98_eq, f29_eq, List.length_map]
  by_cases h1 : 64 < l.length
  · refine ⟨[], 8, by simp, fun {k} => ?_, fun {k} => ?_, fun h => by omega⟩ <;> rw [decide_eq_true (by omega), cK_true] <;> rfl
  · have d1 : decide ((64 : Int) < (l.length : Int)) = false := decide_eq_false (by omega)
    by_cases h2 : 1 ≤ s ∧ s ≤ 1000
    · have h38 : ∀ (k1 : Int → Option α) (k2 : Int → Bool → Rows → Option α), L38_0_0 α s (l.map rI1) (l.length : Int) k1 k2 0 ([] : Rows) = _ := fun k1 k2 => R38_eq h2 (show l.length ≤ 64 by omega) (k1 := k1) (k2 := k2) l.length 0 fuel (by omega) (by omega)
      have h40 : ∀ (k1 : Int → Option α) (k2 : Int → Bool → Rows → Option α), L40_0_0 α (l.map rI1) s k1 k2 0 ([] : Rows) = _ := fun k1 k2 => R40_eq h2 (show l.length ≤ 64 by omega) (k1 := k1) (k2 := k2) l.length 0 fuel (by omega) (by omega)
      simp only [h38, h40, d1, cK_false, decide_eq_true h2, Bool.not_true, List.drop_zero]
      cases hq : qzE s l with
      | some e => exact ⟨[], e, by simp, fun {k} => rfl, fun {k} => rfl, fun h => absurd h (qzE_some hq)⟩
      | none => exact ⟨(l.map (qn s)).map N32, 0, by simp; omega, fun {k} => by simp only [List.map_map]; rfl, fun {k} => by simp only [List.map_map]; rfl, fun _ => ⟨rfl, h2, by omega, qzE_none hq⟩⟩
    · refine ⟨[], 2, by simp, fun {k} => ?_, fun {k} => ?_, fun h => by omega⟩ <;> rw [d1, cK_false, decide_eq_false h2, Bool.not_false, cK_true] <;> rfl
theorem f41_self {L : List Nat} (hL : L.length ≤ 100) {k : Bool → Option α} : f41_0 α (L.map rF) (L.map rF) k = k true := by
  have hf := fuel_ge
  simp only [f41_0, f41_0g, bne_self_eq_false, cK_false, L41_0_0]
  have key : ∀ (m i n : Nat), i + m = L.length → m < n → R41_0_0 α (L.map rF) (L.map rF) (k false) (fun _ _ => k true) n (i : Int) = k true := by
    intro m
    induction m with
    | zero =>
      intro i n h1 h2
      obtain ⟨n, rfl⟩ : ∃ z, n = z + 1 := ⟨n - 1, by omega⟩
      simp only [R41_0_0, S41_0_0, S41_0_0g, List.length_map]
      rw [decide_eq_false (by omega)]; rfl
    | succ m ih =>
      intro i n h1 h2
      obtain ⟨n, rfl⟩ : ∃ z, n = z + 1 := ⟨n - 1, by omega⟩
      have hi : i < L.length := by omega
      simp only [R41_0_0, S41_0_0, S41_0_0g, List.length_map]
      rw [decide_eq_true (by omega), cK_true, rowK_F hi, rowK_F hi, bne_self_eq_false, cK_false, w64_in (by omega) (by omega), show (i : Int) + 1 = ((i + 1 : Nat) : Int) by omega]
      exact ih (i + 1) n (by omega) (by omega)
  exact key L.length 0 fuel (by omega) (by omega)
section
variable {xs : List Int} (hl : xs.length ≤ 64) (hx : ∀ x ∈ xs, 0 ≤ x ∧ x ≤ 65535)
include hl hx
theorem R8_eq {q : Nat} (hq : xs.length = 4 * q) {k : Int → Int → Int → Int → Bool → Option α} : ∀ (m j n : Nat), j + m = q → m < n →
    R8_0_0 α (xs.map rI1) k n (cs xs 0 j + cs xs 1 j + cs xs 2 j + cs xs 3 j) (cs xs 0 j - cs xs 2 j) (cs xs 1 j - cs xs 3 j) ((4 * j : Nat) : Int) = k (cs xs 0 q + cs xs 1 q + cs xs 2 q + cs xs 3 q) (cs xs 0 q - cs xs 2 q) (cs xs 1 q - cs xs 3 q) (xs.length : Int) false := by
  intro m
  induction m with
  | zero =>
    intro j n h1 h2
    obtain ⟨n, rfl⟩ : ∃ z, n = z + 1 := ⟨n - 1, by omega⟩
    have hj : j = q := by omega
    subst hj
    simp only [R8_0_0, S8_0_0, S8_0_0g, List.length_map]
    rw [decide_eq_false (by omega), cK_false, hq]
  | succ m ih =>
    intro j n h1 h2
    obtain ⟨n, rfl⟩ : ∃ z, n = z + 1 := ⟨n - 1, by omega⟩
    have b0 := cs_bd hx 0 j; have b1 := cs_bd hx 1 j; have b2 := cs_bd hx 2 j; have b3 := cs_bd hx 3 j
    have e0 : cs xs 0 (j + 1) = cs xs 0 j + xs.getD (4 * j) 0 := rfl
    have e1 : cs xs 1 (j + 1) = cs xs 1 j + xs.getD (4 * j + 1) 0 := rfl
    have e2 : cs xs 2 (j + 1) = cs xs 2 j + xs.getD (4 * j + 2) 0 := rfl
    have e3 : cs xs 3 (j + 1) = cs xs 3 j + xs.getD (4 * j + 3) 0 := rfl
    have i0 : 4 * j < xs.length := by omega
    have i1 : 4 * j + 1 < xs.length := by omega
    have i2 : 4 * j + 2 < xs.length := by omega
    have i3 : 4 * j + 3 < xs.length := by omega
    have g0 := hx _ (List.getElem_mem i0); have g1 := hx _ (List.getElem_mem i1); have g2 := hx _ (List.getElem_mem i2); have g3 := hx _ (List.getElem_mem i3)
    rw [gD i0] at e0; rw [gD i1] at e1; rw [gD i2] at e2; rw [gD i3] at e3
    have w1 : w64 (((4 * j : Nat) : Int) + 1) = ((4 * j + 1 : Nat) : Int) := by rw [w64_in (by omega) (by omega)]; omega
    have w2 : w64 (((4 * j : Nat) : Int) + 2) = ((4 * j + 2 : Nat) : Int) := by rw [w64_in (by omega) (by omega)]; omega
    have w3 : w64 (((4 * j : Nat) : Int) + 3) = ((4 * j + 3 : Nat) : Int) := by rw [w64_in (by omega) (by omega)]; omega
    have w4 : w64 (((4 * j : Nat) : Int) + 4) = ((4 * (j + 1) : Nat) : Int) := by rw [w64_in (by omega) (by omega)]; omega
    simp only [R8_0_0, S8_0_0, S8_0_0g, List.length_map, w1, w2, w3, w4]
    rw [decide_eq_true (by omega), cK_true]
    simp only [rowK_I i0, rowK_I i1, rowK_I i2, rowK_I i3]
    rw [w64_in (n := cs xs 0 j + cs xs 1 j + cs xs 2 j + cs xs 3 j + _) (by omega) (by omega), w64_in (n := cs xs 0 j + cs xs 1 j + cs xs 2 j + cs xs 3 j + _ + _) (by omega) (by omega), w64_in (n := cs xs 0 j + cs xs 1 j + cs xs 2 j + cs xs 3 j + _ + _ + _) (by omega) (by omega), w64_in (n := cs xs 0 j + cs xs 1 j + cs xs 2 j + cs xs 3 j + _ + _ + _ + _) (by omega) (by omega),
      w64_in (n := cs xs 0 j - cs xs 2 j + _) (by omega) (by omega), w64_in (n := cs xs 0 j - cs xs 2 j + _ - _) (by omega) (by omega), w64_in (n := cs xs 1 j - cs xs 3 j + _) (by omega) (by omega), w64_in (n := cs xs 1 j - cs xs 3 j + _ - _) (by omega) (by omega)]
    rw [← ih (j + 1) n (by omega) (by omega), e0, e1, e2, e3]
    congr 1 <;> omega
end
theorem cs_near {A B : List Int} {M : Int} (h : ∀ i, -M ≤ A.getD i 0 - B.getD i 0 ∧ A.getD i 0 - B.getD i 0 ≤ M) (r : Nat) : ∀ j : Nat, -((j : Int) * M) ≤ cs A r j - cs B r j ∧ cs A r j - cs B r j ≤ (j : Int) * M
  | 0 => by simp [cs]
  | j + 1 => by
    have h1 := cs_near h r j
    have h2 := h (4 * j + r)
    have e : ((j + 1 : Nat) : Int) * M = (j : Int) * M + M := by rw [show ((j + 1 : Nat) : Int) = (j : Int) + 1 by omega, Int.add_mul, Int.one_mul]
    simp only [cs]
    rw [e]
    omega
theorem getD_near {l : List Int} {f : Int → Int} {M : Int} (hM : 0 ≤ M) (h : ∀ x ∈ l, -M ≤ f x - x ∧ f x - x ≤ M) (i : Nat) : -M ≤ (l.map f).getD i 0 - l.getD i 0 ∧ (l.map f).getD i 0 - l.getD i 0 ≤ M := by
  by_cases hi : i < l.length
  · rw [gD hi, gD (show i < (l.map f).length by simpa using hi), List.getElem_map]
    exact h _ (List.getElem_mem hi)
  · simp [List.getD_eq_getElem?_getD, List.getElem?_eq_none (show l.length ≤ i by omega)]
    omega
theorem law8 {l : List Int} {s : Int} {k : Bool → Option α} : f8_0 α (l.map rI1) s k = k true := by
  have hf := fuel_ge
  simp only [f8_0, f8_0g, f15_0, cK_dec, List.length_map]
  split
  · rfl
  · rename_i h70
    obtain ⟨L, e, hL, g1, g2, g3⟩ := qz_both (α := α) l s
    have ap8 : apOk 1 8 ([] : Rows) (l.map rI1) = true := apOk_of (enc := rI1) (n := 1) (b := 8) (fun _ => rfl) (rows := []) (l := l) (by simp; omega) (by simp; omega)
    simp only [f39_0, f39_0g, ap8, gK_true, List.nil_append, g1, g2, flatK_map (enc := rF) (fun _ => rfl), bne_self_eq_false, cK_false]
    by_cases he : e = 0
    · obtain ⟨rfl, hs, hl, hx⟩ := g3 he
      subst he
      rw [f41_self (by simp; omega)]
      simp only [Bool.not_true, cK_false, bne_self_eq_false, tmod4, cK_dec]
      by_cases h0 : l.length = 0
      · rw [show (((l.length : Nat) : Int) == 0) = true by simp [h0], cK_true]
      · rw [show (((l.length : Nat) : Int) == 0) = false from beq_eq_false_iff_ne.2 (by omega), cK_false]
        by_cases h4 : l.length % 4 = 0
        · rw [if_neg (fun h => h h4)]
          have hX : ∀ x ∈ l.map (qn s), 0 ≤ x ∧ x ≤ 65535 := by
            intro x hx'
            obtain ⟨y, hy, rfl⟩ := List.mem_map.1 hx'
            have := qn_bd hs (hx y hy).1
            have := (hx y hy).2
            omega
          have hM : 2 * cdv s 2 ≥ s ∧ 0 ≤ cdv s 2 ∧ cdv s 2 ≤ 500 := by unfold cdv; omega
          have hlen : (l.map (qn s)).length = l.length := by simp
          have hsc := scan_near (L := l.map (qn s)) (M := cdv s 2) (by omega) (by omega) (by omega) hX
          have hap : apOk 1 4 ([] : Rows) (((l.map (qn s)).map N32).map rF) = true := apOk_of (enc := rF) (n := 1) (b := 4) (fun _ => rfl) (rows := []) (l := (l.map (qn s)).map N32) (by simp; omega) (by simp; omega)
          rw [hap, gK_true, f42_eq (by decide) (by decide) (by omega) (by omega)]
          rw [f21_plain (by rw [hsc])]
          have h8 : ∀ kk : Int → Int → Int → Int → Bool → Option α, L8_0_0 α (l.map rI1) kk 0 0 0 0 = _ := fun kk => R8_eq hl (fun x hx' => (hx x hx').1) (q := l.length / 4) (by omega) (k := kk) (l.length / 4) 0 fuel (by omega) (by omega)
          unfold sumK
          simp only [h8, beq_self_eq_true, cK_true, f29_eq, cK_dec]
          have en : (((l.map (qn s)).map N32).length : Int) = (l.length : Int) := by simp
          have en2 : ((l.map (qn s)).map N32).length = l.length := by simp
          unfold smA smC smS
          rw [smp_near _ hX, en2]
          have hnear := getD_near (l := l) (f := qn s) (M := cdv s 2) (by omega) (fun x hx' => by have := qn_bd hs (hx x hx').1; omega)
          have c0 := cs_near hnear 0 (l.length / 4)
          have c1 := cs_near hnear 1 (l.length / 4)
          have c2 := cs_near hnear 2 (l.length / 4)
          have c3 := cs_near hnear 3 (l.length / 4)
          have p1 : (l.length : Int) * cdv s 2 = 4 * (((l.length / 4 : Nat) : Int) * cdv s 2) := by rw [← Int.mul_assoc]; congr 1; omega
          have p2 : ((l.length / 2 : Nat) : Int) * cdv s 2 = 2 * (((l.length / 4 : Nat) : Int) * cdv s 2) := by rw [← Int.mul_assoc]; congr 1; omega
          rw [p1, p2]
          generalize ((l.length / 4 : Nat) : Int) * cdv s 2 = P at *
          rw [if_pos (by omega), if_pos (by omega), decide_eq_true (by omega)]
        · rw [if_pos h4]
    · rw [f41_self (by omega)]
      simp only [Bool.not_true, cK_false, bne_iff_ne.2 he, cK_true]
end Go.AM.K
