/- Chapter 6: harmonics of scans. -/
import Derived.Test.YtjifpcjmnhnpkaaMH1
import Derived.Test.YtjifpcjmnhnpkaaMH5
namespace Go.AM.K
set_option linter.unusedVariables false
set_option linter.unusedSimpArgs false
variable {α : Type}
def lz (l : List Nat) : List (Int × Int) := (l.map smp).map fun x => (x, 0)
theorem lz_len (l : List Nat) : (lz l).length = l.length := by simp [lz]
theorem lz_pb {l : List Nat} (hl : l.length ≤ 64) (hx : ∀ x ∈ l, chkS x = none) : PB (lz l) := by
  refine ⟨by rw [lz_len]; omega, fun x h => ?_⟩
  obtain ⟨y, hy, rfl⟩ := List.mem_map.1 h
  have := (smp_bd hl hx).2 y hy
  simp only
  omega
theorem lz_rows {xs : List Int} : (xs.map fun x => (x, (0 : Int))).map rI2 = xs.map fun x => [DC.v (.int .i64 x), DC.v (.int .i64 0)] := by
  rw [List.map_map]; rfl
theorem R16_eq {xs : List Int} (hl : xs.length ≤ 64) {k : Int → Bool → Rows → Option α} : ∀ (m i n : Nat), i + m = xs.length → m < n →
    R16_0_0 α (xs.length : Int) (xs.map rI1) k n (i : Int) ((xs.take i).map fun x => [DC.v (.int .i64 x), DC.v (.int .i64 0)]) = k (xs.length : Int) false (xs.map fun x => [DC.v (.int .i64 x), DC.v (.int .i64 0)]) := by
  intro m
  induction m with
  | zero =>
    intro i n h1 h2
    obtain ⟨n, rfl⟩ : ∃ z, n = z + 1 := ⟨n - 1, by omega⟩
    rw [List.take_of_length_le (by omega)]
    have hi : i = xs.length := by omega
    simp only [R16_0_0, S16_0_0, S16_0_0g]
    rw [hi, decide_eq_false (by omega)]; rfl
  | succ m ih =>
    intro i n h1 h2
    obtain ⟨n, rfl⟩ : ∃ z, n = z + 1 := ⟨n - 1, by omega⟩
    have hi : i < xs.length := by omega
    have ap : ∀ (X : Rows) (x y : Int), X.length < 100 → apOk 2 16 X [[DC.v (.int .i64 x), DC.v (.int .i64 y)]] = true := fun X x y hX =>
      apOk_of (enc := rI2) (n := 2) (b := 16) (fun _ => rfl) (rows := X) (l := [(x, y)]) (by simp; omega) (by simp; omega)
    simp only [R16_0_0, S16_0_0, S16_0_0g]
    rw [decide_eq_true (by omega), cK_true, ix_I hi, ld_I hi, ap _ _ _ (by simp; omega), gK_true, w64_in (by omega) (by omega), show (i : Int) + 1 = ((i + 1 : Nat) : Int) by omega, ← ih (i + 1) n (by omega) (by omega), List.take_succ_eq_append_getElem hi, List.map_append]
    rfl
abbrev NF (n : Int) : Nat := FloatKind.nearest .f64 n
theorem f16_err {l : List Nat} {M F : Int} (h : (scanE l M F).2 ≠ 0) {k : Nat → Nat → Nat → Nat → Nat → Nat → Nat → Nat → Int → Option α} : f16_0 α (l.map rF) M F k = k 0 0 0 0 0 0 0 0 (scanE l M F).2 := by
  simp only [f16_0, f16_0g, f67_eq]
  rw [if_pos h, bne_iff_ne.2 h, cK_true]
theorem f16_ok {l : List Nat} {M F : Int} (h : (scanE l M F).2 = 0) {k : Nat → Nat → Nat → Nat → Nat → Nat → Nat → Nat → Int → Option α} : f16_0 α (l.map rF) M F k =
    k (NF (sgR (lz l) 0 l.length)) (NF (sgI (lz l) 0 l.length)) (NF (sgR (lz l) (-1) l.length)) (NF (sgI (lz l) (-1) l.length)) (NF (sgR (lz l) (-2) l.length)) (NF (sgI (lz l) (-2) l.length)) (NF (sgR (lz l) (-3) l.length)) (NF (sgI (lz l) (-3) l.length)) 0 := by
  have hf := fuel_ge
  obtain ⟨⟨h1, h2⟩, h3, h5, h6⟩ := scan_ok h
  have hpb := lz_pb h1.2 h6
  have h68 : ∀ (b : Int) (kk : Int → Int → Option α), f68_0 α ((l.map smp).map fun x => [DC.v (.int .i64 x), DC.v (.int .i64 0)]) b kk = kk (sgR (lz l) b l.length) (sgI (lz l) b l.length) := by
    intro b kk
    rw [← lz_rows]
    have := f68_eq hpb (b := b) (k := kk)
    rw [lz_len] at this
    exact this
  have h16 : ∀ kk : Int → Bool → Rows → Option α, L16_0_0 α (l.length : Int) ((l.map smp).map rI1) kk 0 ([] : Rows) = kk (l.length : Int) false ((l.map smp).map fun x => [DC.v (.int .i64 x), DC.v (.int .i64 0)]) := by
    intro kk
    have := R16_eq (α := α) (xs := l.map smp) (by simpa using h1.2) (k := kk) l.length 0 fuel (by simp) (by omega)
    rw [List.length_map, List.take_zero] at this
    exact this
  simp only [f16_0, f16_0g, f67_eq]
  rw [if_neg (fun hh => hh h), bne_self_eq_false, cK_false, smp_map]
  rw [List.length_map, List.length_map]
  rw [h16]
  simp only [h68, f69_0, f69_0g]
theorem sgR_blk (l : List (Int × Int)) (b : Int) (q : Nat) : sgR l b (4 * (q + 1)) = sgR l b (4 * q) + (pr l (4 * q)).1 + rtR b (pr l (4 * q + 1)).1 (pr l (4 * q + 1)).2 + rtR (2 * b) (pr l (4 * q + 2)).1 (pr l (4 * q + 2)).2 + rtR (3 * b) (pr l (4 * q + 3)).1 (pr l (4 * q + 3)).2 := by
  have s0 : sgR l b (4 * q + 1) = sgR l b (4 * q) + rtR (((4 * q : Nat) : Int) * b) (pr l (4 * q)).1 (pr l (4 * q)).2 := rfl
  have s1 : sgR l b (4 * q + 2) = sgR l b (4 * q + 1) + rtR (((4 * q + 1 : Nat) : Int) * b) (pr l (4 * q + 1)).1 (pr l (4 * q + 1)).2 := rfl
  have s2 : sgR l b (4 * q + 3) = sgR l b (4 * q + 2) + rtR (((4 * q + 2 : Nat) : Int) * b) (pr l (4 * q + 2)).1 (pr l (4 * q + 2)).2 := rfl
  have s3 : sgR l b (4 * q + 4) = sgR l b (4 * q + 3) + rtR (((4 * q + 3 : Nat) : Int) * b) (pr l (4 * q + 3)).1 (pr l (4 * q + 3)).2 := rfl
  have h0 : rtR (((4 * q : Nat) : Int) * b) (pr l (4 * q)).1 (pr l (4 * q)).2 = (pr l (4 * q)).1 := by
    rw [(rt_congr (q := 0 * b) (mul_mod4 (by omega) rfl)).1]; simp [rtR]
  have h1 : rtR (((4 * q + 1 : Nat) : Int) * b) (pr l (4 * q + 1)).1 (pr l (4 * q + 1)).2 = rtR b (pr l (4 * q + 1)).1 (pr l (4 * q + 1)).2 := by
    rw [(rt_congr (q := 1 * b) (mul_mod4 (by omega) rfl)).1, Int.one_mul]
  have h2 : rtR (((4 * q + 2 : Nat) : Int) * b) (pr l (4 * q + 2)).1 (pr l (4 * q + 2)).2 = rtR (2 * b) (pr l (4 * q + 2)).1 (pr l (4 * q + 2)).2 := (rt_congr (mul_mod4 (by omega) rfl)).1
  have h3 : rtR (((4 * q + 3 : Nat) : Int) * b) (pr l (4 * q + 3)).1 (pr l (4 * q + 3)).2 = rtR (3 * b) (pr l (4 * q + 3)).1 (pr l (4 * q + 3)).2 := (rt_congr (mul_mod4 (by omega) rfl)).1
  rw [show 4 * (q + 1) = 4 * q + 4 by omega, s3, s2, s1, s0, h0, h1, h2, h3]
theorem sgI_blk (l : List (Int × Int)) (b : Int) (q : Nat) : sgI l b (4 * (q + 1)) = sgI l b (4 * q) + (pr l (4 * q)).2 + rtI b (pr l (4 * q + 1)).1 (pr l (4 * q + 1)).2 + rtI (2 * b) (pr l (4 * q + 2)).1 (pr l (4 * q + 2)).2 + rtI (3 * b) (pr l (4 * q + 3)).1 (pr l (4 * q + 3)).2 := by
  have s0 : sgI l b (4 * q + 1) = sgI l b (4 * q) + rtI (((4 * q : Nat) : Int) * b) (pr l (4 * q)).1 (pr l (4 * q)).2 := rfl
  have s1 : sgI l b (4 * q + 2) = sgI l b (4 * q + 1) + rtI (((4 * q + 1 : Nat) : Int) * b) (pr l (4 * q + 1)).1 (pr l (4 * q + 1)).2 := rfl
  have s2 : sgI l b (4 * q + 3) = sgI l b (4 * q + 2) + rtI (((4 * q + 2 : Nat) : Int) * b) (pr l (4 * q + 2)).1 (pr l (4 * q + 2)).2 := rfl
  have s3 : sgI l b (4 * q + 4) = sgI l b (4 * q + 3) + rtI (((4 * q + 3 : Nat) : Int) * b) (pr l (4 * q + 3)).1 (pr l (4 * q + 3)).2 := rfl
  have h0 : rtI (((4 * q : Nat) : Int) * b) (pr l (4 * q)).1 (pr l (4 * q)).2 = (pr l (4 * q)).2 := by
    rw [(rt_congr (q := 0 * b) (mul_mod4 (by omega) rfl)).2]; simp [rtI]
  have h1 : rtI (((4 * q + 1 : Nat) : Int) * b) (pr l (4 * q + 1)).1 (pr l (4 * q + 1)).2 = rtI b (pr l (4 * q + 1)).1 (pr l (4 * q + 1)).2 := by
    rw [(rt_congr (q := 1 * b) (mul_mod4 (by omega) rfl)).2, Int.one_mul]
  have h2 : rtI (((4 * q + 2 : Nat) : Int) * b) (pr l (4 * q + 2)).1 (pr l (4 * q + 2)).2 = rtI (2 * b) (pr l (4 * q + 2)).1 (pr l (4 * q + 2)).2 := (rt_congr (mul_mod4 (by omega) rfl)).2
  have h3 : rtI (((4 * q + 3 : Nat) : Int) * b) (pr l (4 * q + 3)).1 (pr l (4 * q + 3)).2 = rtI (3 * b) (pr l (4 * q + 3)).1 (pr l (4 * q + 3)).2 := (rt_congr (mul_mod4 (by omega) rfl)).2
  rw [show 4 * (q + 1) = 4 * q + 4 by omega, s3, s2, s1, s0, h0, h1, h2, h3]
theorem lz_pr (xs : List Int) (i : Nat) : pr (xs.map fun x => (x, (0 : Int))) i = (xs.getD i 0, 0) := by
  simp only [pr, List.getD_eq_getElem?_getD, List.getElem?_map]
  cases xs[i]? <;> rfl
theorem harm_blk (xs : List Int) : ∀ q : Nat,
    sgR (xs.map fun x => (x, (0 : Int))) 0 (4 * q) = cs xs 0 q + cs xs 1 q + cs xs 2 q + cs xs 3 q ∧ sgI (xs.map fun x => (x, (0 : Int))) 0 (4 * q) = 0 ∧
    sgR (xs.map fun x => (x, (0 : Int))) (-1) (4 * q) = cs xs 0 q - cs xs 2 q ∧ sgI (xs.map fun x => (x, (0 : Int))) (-1) (4 * q) = -(cs xs 1 q - cs xs 3 q) ∧
    sgR (xs.map fun x => (x, (0 : Int))) (-2) (4 * q) = cs xs 0 q - cs xs 1 q + cs xs 2 q - cs xs 3 q ∧ sgI (xs.map fun x => (x, (0 : Int))) (-2) (4 * q) = 0 ∧
    sgR (xs.map fun x => (x, (0 : Int))) (-3) (4 * q) = cs xs 0 q - cs xs 2 q ∧ sgI (xs.map fun x => (x, (0 : Int))) (-3) (4 * q) = cs xs 1 q - cs xs 3 q
  | 0 => ⟨rfl, rfl, rfl, rfl, rfl, rfl, rfl, rfl⟩
  | q + 1 => by
    obtain ⟨h1, h2, h3, h4, h5, h6, h7, h8⟩ := harm_blk xs q
    have e : ∀ r, cs xs r (q + 1) = cs xs r q + xs.getD (4 * q + r) 0 := fun r => rfl
    simp only [sgR_blk, sgI_blk, h1, h2, h3, h4, h5, h6, h7, h8, lz_pr, e, rtR, rtI]
    simp only [show (-1 : Int) % 4 = 3 by decide, show (2 * -1 : Int) % 4 = 2 by decide, show (3 * -1 : Int) % 4 = 1 by decide, show (-2 : Int) % 4 = 2 by decide, show (2 * -2 : Int) % 4 = 0 by decide, show (3 * -2 : Int) % 4 = 2 by decide, show (-3 : Int) % 4 = 1 by decide, show (2 * -3 : Int) % 4 = 2 by decide, show (3 * -3 : Int) % 4 = 3 by decide, show (0 : Int) % 4 = 0 by decide, show (2 * 0 : Int) % 4 = 0 by decide, show (3 * 0 : Int) % 4 = 0 by decide,
      show ¬ (3 : Int) = 1 by decide, show ¬ (3 : Int) = 2 by decide, show ¬ (2 : Int) = 1 by decide, show ¬ (0 : Int) = 1 by decide, show ¬ (0 : Int) = 2 by decide, show ¬ (0 : Int) = 3 by decide, if_true, if_false]
    refine ⟨?_, ?_, ?_, ?_, ?_, ?_, ?_, ?_⟩ <;> (try simp only [Nat.add_zero]) <;> omega
theorem harm {l : List Nat} (h4 : l.length % 4 = 0) : sgR (lz l) 0 l.length = smA l ∧ sgI (lz l) 0 l.length = 0 ∧ sgR (lz l) (-1) l.length = smC l ∧ sgI (lz l) (-1) l.length = -smS l := by
  have h := harm_blk (l.map smp) (l.length / 4)
  rw [show 4 * (l.length / 4) = l.length by omega] at h
  exact ⟨h.1, h.2.1, h.2.2.1, h.2.2.2.1⟩
end Go.AM.K
