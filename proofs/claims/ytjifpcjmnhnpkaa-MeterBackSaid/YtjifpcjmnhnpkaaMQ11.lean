/- MeterBack. -/
import Derived.Test.YtjifpcjmnhnpkaaMH4
import Derived.Test.YtjifpcjmnhnpkaaMH2
import Derived.Test.YtjifpcjmnhnpkaaMQ12a
import Derived.Test.YtjifpcjmnhnpkaaMW0
import Derived.Test.YtjifpcjmnhnpkaaKTt
namespace Go.AM.K
open Ieee
set_option linter.unusedVariables false
set_option linter.unusedSimpArgs false
variable {α : Type}
abbrev Q4 := Int × Int × Int × Int
abbrev rU (a : Q4) : List DC := [.v (.int .u16 a.1), .v (.int .u16 a.2.1), .v (.int .u16 a.2.2.1), .v (.int .u16 a.2.2.2)]
theorem rowK_U {l : List Q4} {i : Nat} {f : Int → Int → Int → Int → Option α} (h : i < l.length) : rowK (l.map rU) (i : Int) [.int .u16, .int .u16, .int .u16, .int .u16] f = f (l[i]'h).1 (l[i]'h).2.1 (l[i]'h).2.2.1 (l[i]'h).2.2.2 :=
  (rowK_get (sh := [.int .u16, .int .u16, .int .u16, .int .u16]) (f := f) (r := rU (l[i]'h)) (by simp [h])).trans rfl
def fl4 : List Q4 → List Int
  | [] => []
  | a :: r => a.1 :: a.2.1 :: a.2.2.1 :: a.2.2.2 :: fl4 r
theorem fl4_len : ∀ l : List Q4, (fl4 l).length = 4 * l.length
  | [] => rfl
  | a :: r => by simp only [fl4, List.length_cons, fl4_len r]; omega
theorem fl4_app : ∀ l m : List Q4, fl4 (l ++ m) = fl4 l ++ fl4 m
  | [], m => rfl
  | a :: r, m => by simp only [List.cons_append, fl4, fl4_app r m]
theorem fl4_get : ∀ (l : List Q4) (i : Nat) (h : i < l.length), (fl4 l).getD (4 * i + 0) 0 = (l[i]'h).1 ∧ (fl4 l).getD (4 * i + 1) 0 = (l[i]'h).2.1 ∧ (fl4 l).getD (4 * i + 2) 0 = (l[i]'h).2.2.1 ∧ (fl4 l).getD (4 * i + 3) 0 = (l[i]'h).2.2.2
  | [], i, h => by simp at h
  | a :: r, 0, h => ⟨rfl, rfl, rfl, rfl⟩
  | a :: r, i + 1, h => by
    have := fl4_get r i (by simpa using h)
    simp only [List.getElem_cons_succ]
    refine ⟨?_, ?_, ?_, ?_⟩
    · rw [show 4 * (i + 1) + 0 = (4 * i + 0) + 1 + 1 + 1 + 1 by omega]; exact this.1
    · rw [show 4 * (i + 1) + 1 = (4 * i + 1) + 1 + 1 + 1 + 1 by omega]; exact this.2.1
    · rw [show 4 * (i + 1) + 2 = (4 * i + 2) + 1 + 1 + 1 + 1 by omega]; exact this.2.2.1
    · rw [show 4 * (i + 1) + 3 = (4 * i + 3) + 1 + 1 + 1 + 1 by omega]; exact this.2.2.2
def U4 (a : Q4) : Prop := (0 ≤ a.1 ∧ a.1 ≤ 65535) ∧ (0 ≤ a.2.1 ∧ a.2.1 ≤ 65535) ∧ (0 ≤ a.2.2.1 ∧ a.2.2.1 ≤ 65535) ∧ 0 ≤ a.2.2.2 ∧ a.2.2.2 ≤ 65535
theorem fl4_bd : ∀ {l : List Q4}, (∀ a ∈ l, U4 a) → ∀ x ∈ fl4 l, 0 ≤ x ∧ x ≤ 65535
  | [], _, x, hx => by cases hx
  | a :: r, h, x, hx => by
    have ha := h a (by simp)
    have := fl4_bd (l := r) fun b hb => h b (by simp [hb])
    obtain ⟨h1, h2, h3, h4⟩ := ha
    simp only [fl4, List.mem_cons] at hx
    rcases hx with rfl | rfl | rfl | rfl | hx
    · exact h1
    · exact h2
    · exact h3
    · exact h4
    · exact this x hx
abbrev rN (x : Int) : List DC := rF (N32 x)
theorem apN {X : Rows} {y : Int} (h : X.length < 100) : apOk 1 4 X [[DC.v (.float .f32 (N32 y))]] = true :=
  apOk_of (enc := rN) (n := 1) (b := 4) (fun _ => rfl) (rows := X) (l := [y]) (by simp; omega) (by simp; omega)
theorem R11_eq {l : List Q4} (hl : l.length ≤ 12) (hu : ∀ a ∈ l, U4 a) {k : Int → Bool → Rows → Int → Int → Int → Int → Option α} : ∀ (m i n : Nat), i + m = l.length → m < n →
    R11_0_0 α (l.map rU) k n (i : Int) ((fl4 (l.take i)).map rN) (cs (fl4 l) 0 i) (cs (fl4 l) 1 i) (cs (fl4 l) 2 i) (cs (fl4 l) 3 i) = k (l.length : Int) false ((fl4 l).map rN) (cs (fl4 l) 0 l.length) (cs (fl4 l) 1 l.length) (cs (fl4 l) 2 l.length) (cs (fl4 l) 3 l.length) := by
  intro m
  induction m with
  | zero =>
    intro i n h1 h2
    obtain ⟨n, rfl⟩ : ∃ z, n = z + 1 := ⟨n - 1, by omega⟩
    have hi : i = l.length := by omega
    subst hi
    rw [List.take_of_length_le (Nat.le_refl _)]
    simp only [R11_0_0, S11_0_0, S11_0_0g, List.length_map]
    rw [decide_eq_false (by omega)]; rfl
  | succ m ih =>
    intro i n h1 h2
    obtain ⟨n, rfl⟩ : ∃ z, n = z + 1 := ⟨n - 1, by omega⟩
    have hi : i < l.length := by omega
    have hb := fl4_bd hu
    have b0 := cs_bd hb 0 i; have b1 := cs_bd hb 1 i; have b2 := cs_bd hb 2 i; have b3 := cs_bd hb 3 i
    obtain ⟨u0, u1, u2, u3⟩ := hu _ (List.getElem_mem hi)
    obtain ⟨g0, g1, g2, g3⟩ := fl4_get l i hi
    have e0 : cs (fl4 l) 0 (i + 1) = cs (fl4 l) 0 i + (l[i]'hi).1 := by rw [← g0]; rfl
    have e1 : cs (fl4 l) 1 (i + 1) = cs (fl4 l) 1 i + (l[i]'hi).2.1 := by rw [← g1]; rfl
    have e2 : cs (fl4 l) 2 (i + 1) = cs (fl4 l) 2 i + (l[i]'hi).2.2.1 := by rw [← g2]; rfl
    have e3 : cs (fl4 l) 3 (i + 1) = cs (fl4 l) 3 i + (l[i]'hi).2.2.2 := by rw [← g3]; rfl
    have hlen : ((fl4 (l.take i)).map rN).length = 4 * i := by rw [List.length_map, fl4_len, List.length_take]; omega
    simp only [R11_0_0, S11_0_0, S11_0_0g, List.length_map]
    rw [decide_eq_true (by omega), cK_true]
    simp only [rowK_U hi]
    rw [apN (by omega), gK_true, apN (by simp only [List.length_append, List.length_singleton]; omega), gK_true, apN (by simp only [List.length_append, List.length_singleton]; omega), gK_true, apN (by simp only [List.length_append, List.length_singleton]; omega), gK_true]
    rw [w64_in (n := (l[i]'hi).1) (by omega) (by omega), w64_in (n := (l[i]'hi).2.1) (by omega) (by omega), w64_in (n := (l[i]'hi).2.2.1) (by omega) (by omega), w64_in (n := (l[i]'hi).2.2.2) (by omega) (by omega), ← e0, ← e1, ← e2, ← e3]
    have c0 := cs_bd hb 0 (i + 1); have c1 := cs_bd hb 1 (i + 1); have c2 := cs_bd hb 2 (i + 1); have c3 := cs_bd hb 3 (i + 1)
    rw [w64_in (n := cs (fl4 l) 0 (i + 1)) (by omega) (by omega), w64_in (n := cs (fl4 l) 1 (i + 1)) (by omega) (by omega), w64_in (n := cs (fl4 l) 2 (i + 1)) (by omega) (by omega), w64_in (n := cs (fl4 l) 3 (i + 1)) (by omega) (by omega), w64_in (n := (i : Int) + 1) (by omega) (by omega), show (i : Int) + 1 = ((i + 1 : Nat) : Int) by omega, ← ih (i + 1) n (by omega) (by omega), List.take_succ_eq_append_getElem hi, fl4_app, List.map_append]
    congr 1
    simp [fl4]
theorem near_pt {n : Int} (h : -10000000 ≤ n ∧ n ≤ 10000000) : badD (NF n) = false ∧ rgD (NF n) = false ∧ ptv (NF n) = n := by
  obtain ⟨s, m, i, h1, h2, h3, h4, h5⟩ := whole_small (n := n) (by omega)
  obtain ⟨m1, i1, a1, a2, a3⟩ := k7
  obtain ⟨m2, i2, b1, b2, b3⟩ := kn7
  have hU := UU_pos
  refine ⟨?_, ?_, ?_⟩
  · unfold badD
    rw [h1]
    simp only
    rw [h5]
    unfold whl
    rw [Int.natAbs_mul, Int.natAbs_natCast, decide_eq_true (Nat.mul_mod_left _ _)]; rfl
  · unfold rgD
    rw [ord_gt h1 a1 h2 a2, ord_lt h1 b1 h2 b2, a3, b3, h5]
    have u1 := mulU_lt (a := 10000000) (b := n)
    have u2 := mulU_lt (a := n) (b := -10000000)
    rw [decide_eq_false (by omega), decide_eq_false (by omega)]; rfl
  · unfold ptv
    rw [h1]
    exact whole_qt h2 h5
theorem near_pE {a b : Int} (ha : -10000000 ≤ a ∧ a ≤ 10000000) (hb : -10000000 ≤ b ∧ b ≤ 10000000) : pE (NF a) (NF b) = 0 := by
  unfold pE
  rw [(near_pt ha).1, (near_pt hb).1, (near_pt ha).2.1, (near_pt hb).2.1]; rfl
theorem f53_val {a0 b0 a1 b1 a2 b2 a3 b3 : Int} (h0 : PB (L4 a0 b0 a1 b1 a2 b2 a3 b3)) (c : ∀ j ∈ [(0 : Int), 1, 2, 3], ¬ (sgI (L4 a0 b0 a1 b1 a2 b2 a3 b3) j 4 ≠ 0 ∨ sgR (L4 a0 b0 a1 b1 a2 b2 a3 b3) j 4 % 4 ≠ 0)) {k : Int → Int → Int → Int → Int → Option α} :
    f53_0 α (NF a0) (NF b0) (NF a1) (NF b1) (NF a2) (NF b2) (NF a3) (NF b3) k = k (sgR (L4 a0 b0 a1 b1 a2 b2 a3 b3) 0 4 / 4) (sgR (L4 a0 b0 a1 b1 a2 b2 a3 b3) 1 4 / 4) (sgR (L4 a0 b0 a1 b1 a2 b2 a3 b3) 2 4 / 4) (sgR (L4 a0 b0 a1 b1 a2 b2 a3 b3) 3 4 / 4) 0 := by
  have t0 := h0.bd (a0, b0) (by simp)
  have t1 := h0.bd (a1, b1) (by simp)
  have t2 := h0.bd (a2, b2) (by simp)
  have t3 := h0.bd (a3, b3) (by simp)
  simp only at t0 t1 t2 t3
  have ok7 : ∀ {a b : Int} (ha : -10000000 ≤ a ∧ a ≤ 10000000) (hb : -10000000 ≤ b ∧ b ≤ 10000000) {x : Int → Option α} {y : Int → Int → Option α}, f107_0 α (NF a) (NF b) 10000000 (fun u v e => cK (e != 0) (x e) (y u v)) = y a b := by
    intro a b ha hb x y
    rw [f107_eq, if_pos (near_pE ha hb), bne_self_eq_false, cK_false, (near_pt ha).2.2, (near_pt hb).2.2]
  have c0 := c 0 (by simp)
  have c1 := c 1 (by simp)
  have c2 := c 2 (by simp)
  have c3 := c 3 (by simp)
  simp only [f53_0, f53_0g, ok7 t0.1 t0.2, ok7 t1.1 t1.2, ok7 t2.1 t2.2, ok7 t3.1 t3.2, blk53 h0, if_neg c0, if_neg c1, if_neg c2, if_neg c3, q4 h0 c0, q4 h0 c1, q4 h0 c2, q4 h0 c3]
theorem law11 {l : List Q4} (hu : ∀ a ∈ l, U4 a) {k : Bool → Option α} : f11_0 α (l.map rU) k = k true := by
  have hf := fuel_ge
  simp only [f11_0, f11_0g, f15_0, List.length_map, cK_dec]
  by_cases h0 : l.length = 0
  · rw [show (((l.length : Nat) : Int) == 0) = true by simp [h0], cK_true]
  · rw [show (((l.length : Nat) : Int) == 0) = false from beq_eq_false_iff_ne.2 (by omega), cK_false]
    by_cases h12 : (12 : Int) < (l.length : Int)
    · rw [if_pos h12]
    · rw [if_neg h12]
      have hb := fl4_bd hu
      have h11 : ∀ kk : Int → Bool → Rows → Int → Int → Int → Int → Option α, L11_0_0 α (l.map rU) kk 0 ([] : Rows) 0 0 0 0 = _ := fun kk => R11_eq (by omega) hu (k := kk) l.length 0 fuel (by omega) (by omega)
      rw [h11]
      have hr : (fl4 l).map rN = ((fl4 l).map N32).map rF := by rw [List.map_map]; rfl
      have hn : (fl4 l).length = 4 * l.length := fl4_len l
      have hsc := scan_near (L := fl4 l) (M := 0) (by omega) (by omega) (by omega) hb
      rw [hr, f16_ok (by rw [hsc])]
      have hz : lz ((fl4 l).map N32) = (fl4 l).map fun x => (x, (0 : Int)) := by unfold lz; rw [smp_near _ hb]
      have hln : ((fl4 l).map N32).length = 4 * l.length := by rw [List.length_map, hn]
      obtain ⟨e1, e2, e3, e4, e5, e6, e7, e8⟩ := harm_blk (fl4 l) l.length
      rw [hz, hln, e1, e2, e3, e4, e5, e6, e7, e8]
      have c0 := cs_bd hb 0 l.length; have c1 := cs_bd hb 1 l.length; have c2 := cs_bd hb 2 l.length; have c3 := cs_bd hb 3 l.length
      generalize cs (fl4 l) 0 l.length = A at *
      generalize cs (fl4 l) 1 l.length = B at *
      generalize cs (fl4 l) 2 l.length = C at *
      generalize cs (fl4 l) 3 l.length = D at *
      have hp : PB (L4 (A + B + C + D) 0 (A - C) (-(B - D)) (A - B + C - D) 0 (A - C) (B - D)) := ⟨by simp, fun x hx => by
        simp only [List.mem_cons, List.not_mem_nil, or_false] at hx
        rcases hx with rfl | rfl | rfl | rfl <;> simp only <;> omega⟩
      have vals : ∀ j : Int, sgR (L4 (A + B + C + D) 0 (A - C) (-(B - D)) (A - B + C - D) 0 (A - C) (B - D)) j 4 = 0 + rtR (0 * j) (A + B + C + D) 0 + rtR (1 * j) (A - C) (-(B - D)) + rtR (2 * j) (A - B + C - D) 0 + rtR (3 * j) (A - C) (B - D) ∧
          sgI (L4 (A + B + C + D) 0 (A - C) (-(B - D)) (A - B + C - D) 0 (A - C) (B - D)) j 4 = 0 + rtI (0 * j) (A + B + C + D) 0 + rtI (1 * j) (A - C) (-(B - D)) + rtI (2 * j) (A - B + C - D) 0 + rtI (3 * j) (A - C) (B - D) := fun j => ⟨rfl, rfl⟩
      have v0 : sgR (L4 (A + B + C + D) 0 (A - C) (-(B - D)) (A - B + C - D) 0 (A - C) (B - D)) 0 4 = 4 * A ∧ sgI (L4 (A + B + C + D) 0 (A - C) (-(B - D)) (A - B + C - D) 0 (A - C) (B - D)) 0 4 = 0 := by
        rw [(vals 0).1, (vals 0).2]; simp [rtR, rtI]; omega
      have v1 : sgR (L4 (A + B + C + D) 0 (A - C) (-(B - D)) (A - B + C - D) 0 (A - C) (B - D)) 1 4 = 4 * B ∧ sgI (L4 (A + B + C + D) 0 (A - C) (-(B - D)) (A - B + C - D) 0 (A - C) (B - D)) 1 4 = 0 := by
        rw [(vals 1).1, (vals 1).2]; simp [rtR, rtI]; omega
      have v2 : sgR (L4 (A + B + C + D) 0 (A - C) (-(B - D)) (A - B + C - D) 0 (A - C) (B - D)) 2 4 = 4 * C ∧ sgI (L4 (A + B + C + D) 0 (A - C) (-(B - D)) (A - B + C - D) 0 (A - C) (B - D)) 2 4 = 0 := by
        rw [(vals 2).1, (vals 2).2]; simp [rtR, rtI]; omega
      have v3 : sgR (L4 (A + B + C + D) 0 (A - C) (-(B - D)) (A - B + C - D) 0 (A - C) (B - D)) 3 4 = 4 * D ∧ sgI (L4 (A + B + C + D) 0 (A - C) (-(B - D)) (A - B + C - D) 0 (A - C) (B - D)) 3 4 = 0 := by
        rw [(vals 3).1, (vals 3).2]; simp [rtR, rtI]; omega
      rw [f53_val hp (fun j hj => by
        simp only [List.mem_cons, List.not_mem_nil, or_false] at hj
        rcases hj with rfl | rfl | rfl | rfl
        · rw [v0.1, v0.2]; omega
        · rw [v1.1, v1.2]; omega
        · rw [v2.1, v2.2]; omega
        · rw [v3.1, v3.2]; omega), v0.1, v1.1, v2.1, v3.1]
      have q : ∀ x : Int, 4 * x / 4 = x := fun x => by omega
      simp only [q, beq_self_eq_true, cK_true, Bool.and_self]
end Go.AM.K
