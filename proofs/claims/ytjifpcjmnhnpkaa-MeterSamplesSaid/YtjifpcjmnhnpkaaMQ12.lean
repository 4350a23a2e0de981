/- MeterSamples. -/
import Derived.Test.YtjifpcjmnhnpkaaMH1
import Derived.Test.YtjifpcjmnhnpkaaMW1
import Derived.Test.YtjifpcjmnhnpkaaKTt
namespace Go.AM.K
set_option linter.unusedVariables false
set_option linter.unusedSimpArgs false
variable {α : Type}
section
variable {a0 b0 a1 b1 a2 b2 a3 b3 : Int}
abbrev L4 (a0 b0 a1 b1 a2 b2 a3 b3 : Int) : List (Int × Int) := [(a0, b0), (a1, b1), (a2, b2), (a3, b3)]
theorem blk54 (h : PB (L4 a0 b0 a1 b1 a2 b2 a3 b3)) {j p1 p2 p3 : Int} (e1 : p1 = 1 * j) (e2 : p2 = 2 * j) (e3 : p3 = 3 * j) {E : Option α} {K : Int → Option α} :
    f73_0 α a0 b0 0 (fun x21 x22 => f73_0 α a1 b1 p1 fun x23 x24 => f73_0 α a2 b2 p2 fun x25 x26 => f73_0 α a3 b3 p3 fun x27 x28 =>
      cK ((w64 ((w64 ((w64 ((w64 (0 + x22)) + x24)) + x26)) + x28)) != 0) E (f31_0 α (w64 ((w64 ((w64 ((w64 (0 + x21)) + x23)) + x25)) + x27)) 4 fun x29 => cK (x29 != 0) E (f99_0 α (w64 ((w64 ((w64 ((w64 (0 + x21)) + x23)) + x25)) + x27)) 4 fun x30 => K x30))) =
    if sgI (L4 a0 b0 a1 b1 a2 b2 a3 b3) j 4 ≠ 0 ∨ sgR (L4 a0 b0 a1 b1 a2 b2 a3 b3) j 4 % 4 ≠ 0 then E else K (sgR (L4 a0 b0 a1 b1 a2 b2 a3 b3) j 4 / 4) := by
  subst e1; subst e2; subst e3
  have h0 := h.bd (a0, b0) (by simp)
  have h1 := h.bd (a1, b1) (by simp)
  have h2 := h.bd (a2, b2) (by simp)
  have h3 := h.bd (a3, b3) (by simp)
  simp only at h0 h1 h2 h3
  have r0 := rt_bd (p := 0) h0.1 h0.2
  have r1 := rt_bd (p := 1 * j) h1.1 h1.2
  have r2 := rt_bd (p := 2 * j) h2.1 h2.2
  have r3 := rt_bd (p := 3 * j) h3.1 h3.2
  rw [f73_eq (by omega) (by omega), f73_eq (by omega) (by omega), f73_eq (by omega) (by omega), f73_eq (by omega) (by omega)]
  have eR : sgR (L4 a0 b0 a1 b1 a2 b2 a3 b3) j 4 = 0 + rtR 0 a0 b0 + rtR (1 * j) a1 b1 + rtR (2 * j) a2 b2 + rtR (3 * j) a3 b3 := by
    have : rtR (((0 : Nat) : Int) * j) a0 b0 = rtR 0 a0 b0 := by simp
    show 0 + rtR (((0 : Nat) : Int) * j) a0 b0 + rtR (((1 : Nat) : Int) * j) a1 b1 + rtR (((2 : Nat) : Int) * j) a2 b2 + rtR (((3 : Nat) : Int) * j) a3 b3 = _
    rw [this]; rfl
  have eI : sgI (L4 a0 b0 a1 b1 a2 b2 a3 b3) j 4 = 0 + rtI 0 a0 b0 + rtI (1 * j) a1 b1 + rtI (2 * j) a2 b2 + rtI (3 * j) a3 b3 := by
    have : rtI (((0 : Nat) : Int) * j) a0 b0 = rtI 0 a0 b0 := by simp
    show 0 + rtI (((0 : Nat) : Int) * j) a0 b0 + rtI (((1 : Nat) : Int) * j) a1 b1 + rtI (((2 : Nat) : Int) * j) a2 b2 + rtI (((3 : Nat) : Int) * j) a3 b3 = _
    rw [this]; rfl
  have wR : w64 ((w64 ((w64 ((w64 (0 + rtR 0 a0 b0)) + rtR (1 * j) a1 b1)) + rtR (2 * j) a2 b2)) + rtR (3 * j) a3 b3) = sgR (L4 a0 b0 a1 b1 a2 b2 a3 b3) j 4 := by
    rw [w64_in (n := 0 + rtR 0 a0 b0) (by omega) (by omega), w64_in (n := 0 + rtR 0 a0 b0 + _) (by omega) (by omega), w64_in (n := 0 + rtR 0 a0 b0 + _ + _) (by omega) (by omega), w64_in (n := 0 + rtR 0 a0 b0 + _ + _ + _) (by omega) (by omega), eR]
  have wI : w64 ((w64 ((w64 ((w64 (0 + rtI 0 a0 b0)) + rtI (1 * j) a1 b1)) + rtI (2 * j) a2 b2)) + rtI (3 * j) a3 b3) = sgI (L4 a0 b0 a1 b1 a2 b2 a3 b3) j 4 := by
    rw [w64_in (n := 0 + rtI 0 a0 b0) (by omega) (by omega), w64_in (n := 0 + rtI 0 a0 b0 + _) (by omega) (by omega), w64_in (n := 0 + rtI 0 a0 b0 + _ + _) (by omega) (by omega), w64_in (n := 0 + rtI 0 a0 b0 + _ + _ + _) (by omega) (by omega), eI]
  have hb : -100000000 ≤ sgR (L4 a0 b0 a1 b1 a2 b2 a3 b3) j 4 ∧ sgR (L4 a0 b0 a1 b1 a2 b2 a3 b3) j 4 ≤ 100000000 := by rw [eR]; omega
  rw [wR, wI, f31_4, f99_eq (by decide) (by decide) (by omega) (by omega), cK_ne, cK_ne]
  generalize sgR (L4 a0 b0 a1 b1 a2 b2 a3 b3) j 4 = R
  generalize sgI (L4 a0 b0 a1 b1 a2 b2 a3 b3) j 4 = I
  by_cases c1 : I = 0
  · by_cases c2 : R % 4 = 0
    · rw [if_neg (fun hh => hh c1), if_neg (fun hh => hh c2), if_neg (by rintro (h | h); exact h c1; exact h c2)]
    · rw [if_neg (fun hh => hh c1), if_pos c2, if_pos (.inr c2)]
  · rw [if_pos c1, if_pos (.inl c1)]
theorem blk53 (h : PB (L4 a0 b0 a1 b1 a2 b2 a3 b3)) {j : Int} {E : Option α} {K : Int → Option α} :
    f68_0 α [[DC.v (.int .i64 a0), DC.v (.int .i64 b0)], [DC.v (.int .i64 a1), DC.v (.int .i64 b1)], [DC.v (.int .i64 a2), DC.v (.int .i64 b2)], [DC.v (.int .i64 a3), DC.v (.int .i64 b3)]] j (fun x y => cK (y != 0) E (cK ((Int.tmod x 4) != 0) E (K x))) =
    if sgI (L4 a0 b0 a1 b1 a2 b2 a3 b3) j 4 ≠ 0 ∨ sgR (L4 a0 b0 a1 b1 a2 b2 a3 b3) j 4 % 4 ≠ 0 then E else K (sgR (L4 a0 b0 a1 b1 a2 b2 a3 b3) j 4) := by
  have hb := (sg_bd h j 4).1
  refine (f68_eq h (b := j) (k := fun x y => cK (y != 0) E (cK ((Int.tmod x 4) != 0) E (K x)))).trans ?_
  show cK (sgI (L4 a0 b0 a1 b1 a2 b2 a3 b3) j 4 != 0) E (cK (Int.tmod (sgR (L4 a0 b0 a1 b1 a2 b2 a3 b3) j 4) 4 != 0) E (K (sgR (L4 a0 b0 a1 b1 a2 b2 a3 b3) j 4))) = _
  obtain ⟨t1, t2, t3⟩ := tmod4_bd (sgR (L4 a0 b0 a1 b1 a2 b2 a3 b3) j 4)
  have hd := Int.tmod_add_mul_tdiv (sgR (L4 a0 b0 a1 b1 a2 b2 a3 b3) j 4) 4
  generalize sgR (L4 a0 b0 a1 b1 a2 b2 a3 b3) j 4 = R at *
  generalize sgI (L4 a0 b0 a1 b1 a2 b2 a3 b3) j 4 = I
  rw [cK_ne, cK_ne]
  by_cases c1 : I = 0
  · by_cases c2 : R % 4 = 0
    · have c3 : Int.tmod R 4 = 0 := by omega
      rw [if_neg (fun hh => hh c1), if_neg (fun hh => hh c3), if_neg (by rintro (h | h); exact h c1; exact h c2)]
    · have c3 : ¬ Int.tmod R 4 = 0 := by omega
      rw [if_neg (fun hh => hh c1), if_pos c3, if_pos (.inr c2)]
  · rw [if_pos c1, if_pos (.inl c1)]
theorem q4 (h : PB (L4 a0 b0 a1 b1 a2 b2 a3 b3)) {j : Int} (hc : ¬ (sgI (L4 a0 b0 a1 b1 a2 b2 a3 b3) j 4 ≠ 0 ∨ sgR (L4 a0 b0 a1 b1 a2 b2 a3 b3) j 4 % 4 ≠ 0)) : w64 (Int.tdiv (sgR (L4 a0 b0 a1 b1 a2 b2 a3 b3) j 4) 4) = sgR (L4 a0 b0 a1 b1 a2 b2 a3 b3) j 4 / 4 := by
  have hb := (sg_bd h j 4).1
  have h0 : sgR (L4 a0 b0 a1 b1 a2 b2 a3 b3) j 4 % 4 = 0 := by omega
  obtain ⟨t1, t2, t3⟩ := tmod4_bd (sgR (L4 a0 b0 a1 b1 a2 b2 a3 b3) j 4)
  have hd := Int.tmod_add_mul_tdiv (sgR (L4 a0 b0 a1 b1 a2 b2 a3 b3) j 4) 4
  rw [w64_in (by omega) (by omega)]; omega
end
theorem f53_cases (a0 b0 a1 b1 a2 b2 a3 b3 : Nat) : ∃ x y z w e, (∀ {k : Int → Int → Int → Int → Int → Option α}, f53_0 α a0 b0 a1 b1 a2 b2 a3 b3 k = k x y z w e) ∧ ∀ {k : Int → Int → Int → Int → Int → Option α}, f54_0 α a0 b0 a1 b1 a2 b2 a3 b3 k = k x y z w e := by
  have err : ∀ {a b : Nat} (h : pE a b ≠ 0) {x : Int → Option α} {y : Int → Int → Option α}, f108_0 α a b 10000000 (fun u v e => cK (e != 0) (x e) (y u v)) = x (pE a b) := by
    intro a b h x y
    obtain ⟨u, v, hh⟩ := f108_err (α := α) h
    rw [hh, bne_iff_ne.2 h, cK_true]
  have ok : ∀ {a b : Nat} (h : pE a b = 0) {x : Int → Option α} {y : Int → Int → Option α}, f108_0 α a b 10000000 (fun u v e => cK (e != 0) (x e) (y u v)) = y (ptv a) (ptv b) := by
    intro a b h x y
    rw [f108_ok h, bne_self_eq_false, cK_false]
  have err7 : ∀ {a b : Nat} (h : pE a b ≠ 0) {x : Int → Option α} {y : Int → Int → Option α}, f107_0 α a b 10000000 (fun u v e => cK (e != 0) (x e) (y u v)) = x (pE a b) := by
    intro a b h x y
    rw [f107_eq, if_neg h, bne_iff_ne.2 h, cK_true]
  have ok7 : ∀ {a b : Nat} (h : pE a b = 0) {x : Int → Option α} {y : Int → Int → Option α}, f107_0 α a b 10000000 (fun u v e => cK (e != 0) (x e) (y u v)) = y (ptv a) (ptv b) := by
    intro a b h x y
    rw [f107_eq, if_pos h, bne_self_eq_false, cK_false]
  simp only [f53_0, f53_0g, f54_0, f54_0g]
  by_cases h0 : pE a0 b0 = 0
  · simp only [ok h0, ok7 h0]
    by_cases h1 : pE a1 b1 = 0
    · simp only [ok h1, ok7 h1]
      by_cases h2 : pE a2 b2 = 0
      · simp only [ok h2, ok7 h2]
        by_cases h3 : pE a3 b3 = 0
        · simp only [ok h3, ok7 h3]
          have q0 := pE_bd h0
          have q1 := pE_bd h1
          have q2 := pE_bd h2
          have q3 := pE_bd h3
          generalize ptv a0 = A0 at *
          generalize ptv b0 = B0 at *
          generalize ptv a1 = A1 at *
          generalize ptv b1 = B1 at *
          generalize ptv a2 = A2 at *
          generalize ptv b2 = B2 at *
          generalize ptv a3 = A3 at *
          generalize ptv b3 = B3 at *
          have hp : PB (L4 A0 B0 A1 B1 A2 B2 A3 B3) := ⟨by simp, fun x hx => by
            simp only [List.mem_cons, List.not_mem_nil, or_false] at hx
            rcases hx with rfl | rfl | rfl | rfl <;> simp only <;> omega⟩
          simp only [blk53 hp, blk54 hp (j := 0) (p1 := 0) (p2 := 0) (p3 := 0) rfl rfl rfl, blk54 hp (j := 1) (p1 := 1) (p2 := 2) (p3 := 3) rfl rfl rfl, blk54 hp (j := 2) (p1 := 2) (p2 := 4) (p3 := 6) rfl rfl rfl, blk54 hp (j := 3) (p1 := 3) (p2 := 6) (p3 := 9) rfl rfl rfl]
          by_cases c0 : sgI (L4 A0 B0 A1 B1 A2 B2 A3 B3) 0 4 ≠ 0 ∨ sgR (L4 A0 B0 A1 B1 A2 B2 A3 B3) 0 4 % 4 ≠ 0
          · simp only [if_pos c0]; exact ⟨_, _, _, _, _, fun {k} => rfl, fun {k} => rfl⟩
          · simp only [if_neg c0]
            by_cases c1 : sgI (L4 A0 B0 A1 B1 A2 B2 A3 B3) 1 4 ≠ 0 ∨ sgR (L4 A0 B0 A1 B1 A2 B2 A3 B3) 1 4 % 4 ≠ 0
            · simp only [if_pos c1]; exact ⟨_, _, _, _, _, fun {k} => rfl, fun {k} => rfl⟩
            · simp only [if_neg c1]
              by_cases c2 : sgI (L4 A0 B0 A1 B1 A2 B2 A3 B3) 2 4 ≠ 0 ∨ sgR (L4 A0 B0 A1 B1 A2 B2 A3 B3) 2 4 % 4 ≠ 0
              · simp only [if_pos c2]; exact ⟨_, _, _, _, _, fun {k} => rfl, fun {k} => rfl⟩
              · simp only [if_neg c2]
                by_cases c3 : sgI (L4 A0 B0 A1 B1 A2 B2 A3 B3) 3 4 ≠ 0 ∨ sgR (L4 A0 B0 A1 B1 A2 B2 A3 B3) 3 4 % 4 ≠ 0
                · simp only [if_pos c3]; exact ⟨_, _, _, _, _, fun {k} => rfl, fun {k} => rfl⟩
                · simp only [if_neg c3, q4 hp c0, q4 hp c1, q4 hp c2, q4 hp c3]; exact ⟨_, _, _, _, _, fun {k} => rfl, fun {k} => rfl⟩
        · simp only [err h3, err7 h3]; exact ⟨_, _, _, _, _, fun {k} => rfl, fun {k} => rfl⟩
      · simp only [err h2, err7 h2]; exact ⟨_, _, _, _, _, fun {k} => rfl, fun {k} => rfl⟩
    · simp only [err h1, err7 h1]; exact ⟨_, _, _, _, _, fun {k} => rfl, fun {k} => rfl⟩
  · simp only [err h0, err7 h0]; exact ⟨_, _, _, _, _, fun {k} => rfl, fun {k} => rfl⟩
theorem law12 {x1 x2 x3 x4 x5 x6 x7 x8 : Nat} {k : Bool → Option α} : f12_0 α x1 x2 x3 x4 x5 x6 x7 x8 k = k true := by
  obtain ⟨x, y, z, w, e, h1, h2⟩ := f53_cases (α := α) x1 x5 x2 x6 x3 x7 x4 x8
  simp only [f12_0, f12_0g, f15_0, h1, h2, beq_self_eq_true, Bool.and_self, cK_true]
end Go.AM.K
