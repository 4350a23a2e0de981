/- Chapter 8: states, rules. -/
import Derived.Test.YtcidonjhifjpaaaKC2
import Derived.Test.YtcidonjhifjpaaaKP17
namespace Go.AM.K
variable {α : Type}
set_option linter.unusedVariables false
set_option linter.unusedSimpArgs false

theorem f19_eq {n lo hi : Int} {k : Bool → Option α} : f19_0 α n lo hi k = k (decide (lo ≤ n) && decide (n ≤ hi)) := by simp only [f19_0, f19_0g]; exact cK_and
theorem f78_eq {n lo hi : Int} {k : Bool → Option α} : f78_0 α n lo hi k = k (decide (lo ≤ n) && decide (n ≤ hi)) := by simp only [f78_0, f78_0g]; exact cK_and

theorem lt_len {i N : Nat} : (decide ((i : Int) < (N : Int))) = decide (i < N) := by simp
theorem w64_su {i N : Nat} (h : i < N) (hN : N < 1000000) : w64 ((i : Int) + 1) = ((i + 1 : Nat) : Int) := w64_nat h (by omega)

theorem f126_eq {s : List Bool} (hs : s.length ≤ 8) {k : Int → Option α} : f126_0 α (s.map rB1) k = k (num s : Int) := by
  simp only [f126_0, f126_0g, L126_0_0, List.length_map]
  refine loopF0 (N := s.length) (R := fun n i acc => R126_0_0 α (s.map rB1) ((s.length : Nat) : Int) (fun x8 _ _ => k x8) n acc i) (st := fun i => ((num (s.take i) : Nat) : Int)) (by omega) (fun n i hi => ?_) (fun n => ?_)
  · simp only [R126_0_0, S126_0_0, S126_0_0g, lt_len, hi, decide_true, cK_true]
    rw [rowK_B (by omega) (by omega), Int.toNat_natCast, num_take hi, w64_su hi (by omega)]
    cases hb : s.getD i false with
    | true =>
      have h0 : (0 : Int) ≤ (i : Int) := by omega
      have hlt : num (s.take i) < 2 ^ i := by have := num_lt (s.take i); rwa [List.length_take, Nat.min_eq_left (by omega)] at this
      have := (bit_all (n := num (s.take i)) (i := i) (Nat.lt_of_lt_of_le hlt (pow8 (by omega))) (by omega)).2.2 hlt
      simp only [cK_true, h0, decide_true, gK_true, this, Bool.toNat_true, Nat.one_mul]
    | false => simp only [cK_false, Bool.toNat_false, Nat.zero_mul, Nat.add_zero]
  · simp only [R126_0_0, S126_0_0, S126_0_0g, Int.lt_irrefl, decide_false, cK_false, List.take_length]

theorem f114_eq {s : List Bool} (hs : s.length ≤ 20) {k : Int → Option α} : f114_0 α (s.map rB1) k = k (num s : Int) := by
  simp only [f114_0, f114_0g, L114_0_0]
  refine loopF0 (N := s.length) (R := fun n i (p : Int × Int) => R114_0_0 α (s.map rB1) (fun x8 _ _ _ => k x8) n p.1 p.2 i) (st := fun i => (((num (s.take i) : Nat) : Int), ((2 ^ i : Nat) : Int))) (by omega) (fun n i hi => ?_) (fun n => ?_)
  · simp only [R114_0_0, S114_0_0, S114_0_0g, List.length_map, lt_len, hi, decide_true, cK_true]
    have h20 : 2 ^ i ≤ 2 ^ 20 := Nat.pow_le_pow_right (by decide) (by omega)
    have hlt : num (s.take i) < 2 ^ i := by have := num_lt (s.take i); rwa [List.length_take, Nat.min_eq_left (by omega)] at this
    rw [rowK_B (by omega) (by omega), Int.toNat_natCast, num_take hi, w64_su hi (by omega), show w64 (2 * ((2 ^ i : Nat) : Int)) = ((2 ^ (i + 1) : Nat) : Int) by rw [w64_in (by omega) (by omega), Nat.pow_succ]; omega]
    cases hb : s.getD i false with
    | true =>
      simp only [cK_true, Bool.toNat_true, Nat.one_mul]
      rw [w64_in (by omega) (by omega)]; congr 1
    | false => simp only [cK_false, Bool.toNat_false, Nat.zero_mul, Nat.add_zero]
  · simp only [R114_0_0, S114_0_0, S114_0_0g, List.length_map, Int.lt_irrefl, decide_false, cK_false, List.take_length]

theorem half_bit {n i : Nat} : (Int.tmod ((n / 2 ^ i : Nat) : Int) 2 == 1) = n.testBit i := by
  rw [Nat.testBit_eq_decide_div_mod_eq]
  generalize n / 2 ^ i = q
  rw [Int.tmod_eq_emod_of_nonneg (by omega)]
  by_cases h : q % 2 = 1
  · have : (q : Int) % 2 = 1 := by omega
    rw [h, this]; rfl
  · have h2 : (q : Int) % 2 = 0 := by omega
    rw [h2]; simp [h]
theorem f115_eq {n d : Nat} (hn : n < 1000000) (hd : d < 1000000) {k : Rows → Option α} : f115_0 α (n : Int) (d : Int) k = k ((lst d n).map rB1) := by
  simp only [f115_0, f115_0g, L115_0_0]
  have := loopF0 (N := d) (R := fun m i (p : Int × Rows) => R115_0_0 α (d : Int) (fun _ _ _ x => k x) m p.1 i p.2) (st := fun i => (((n / 2 ^ i : Nat) : Int), (lst i n).map rB1)) (fin := k ((lst d n).map rB1)) (by omega) (fun m i hi => ?_) (fun m => ?_)
  · simpa [lst] using this
  · have hle : n / 2 ^ i ≤ n := Nat.div_le_self _ _
    have e : Int.tdiv ((n / 2 ^ i : Nat) : Int) 2 = ((n / 2 ^ (i + 1) : Nat) : Int) := by
      rw [Nat.pow_succ, ← Nat.div_div_eq_div_mul]
      generalize n / 2 ^ i = q
      rw [tdiv_pos (by omega)]; omega
    simp only [R115_0_0, S115_0_0, S115_0_0g, lt_len, hi, decide_true, cK_true, e]
    have hle' : n / 2 ^ (i + 1) ≤ n := Nat.div_le_self _ _
    rw [show w64 ((n / 2 ^ (i + 1) : Nat) : Int) = ((n / 2 ^ (i + 1) : Nat) : Int) by (generalize n / 2 ^ (i + 1) = q at *; exact w64_in (by omega) (by omega)), w64_su hi hd, half_bit, lst_succ, List.map_append, show [[DC.v (.bool (n.testBit i))]] = [n.testBit i].map rB1 from rfl, apOk_of (enc := rB1) (fun _ => rfl) (by simp; omega) (by simp; omega)]
    rfl
  · simp only [R115_0_0, S115_0_0, S115_0_0g, Int.lt_irrefl, decide_false, cK_false]

theorem f129_eq {n x : Int} (h : 0 ≤ x) {k : Bool → Option α} : f129_0 α n x k = k (bitN n x.toNat) := by
  simp only [f129_0, f129_0g, h, decide_true, gK_true]; rfl
/-! ### Rules -/

def viol (b : Nat → Bool) (r : Rule) : Bool := (b r.1.toNat == r.2.1) && !(b r.2.2.1.toNat == r.2.2.2)
def brkO (R : List Rule) (b : Nat → Bool) : Option Nat := srch (fun i => if viol b (R.getD i r0) = true then some i else none) R.length 0
def brkI (R : List Rule) (b : Nat → Bool) : Int := match brkO R b with | some i => (i : Int) | none => -1
def safe (R : List Rule) (b : Nat → Bool) : Bool := (brkO R b).isNone
def RIn (d : Nat) (R : List Rule) : Prop := ∀ i, i < R.length → (0 ≤ (R.getD i r0).1 ∧ (R.getD i r0).1 < (d : Int)) ∧ (0 ≤ (R.getD i r0).2.2.1 ∧ (R.getD i r0).2.2.1 < (d : Int))

theorem brkI_neg {R : List Rule} {b : Nat → Bool} : decide (brkI R b < 0) = safe R b := by
  unfold brkI safe
  cases brkO R b with
  | none => rfl
  | some i => simp
theorem brkI_pos {R : List Rule} {b : Nat → Bool} : decide (0 ≤ brkI R b) = !safe R b := by
  unfold brkI safe
  cases brkO R b with
  | none => rfl
  | some i => simp
theorem brkO_congr {d : Nat} {R : List Rule} (hR : RIn d R) {b b' : Nat → Bool} (h : ∀ j, j < d → b j = b' j) : brkO R b = brkO R b' := by
  refine srch_congr fun i _ hi => ?_
  have := hR i (by omega)
  have e : viol b (R.getD i r0) = viol b' (R.getD i r0) := by unfold viol; rw [h (R.getD i r0).1.toNat (by omega), h (R.getD i r0).2.2.1.toNat (by omega)]
  rw [e]

theorem f52_eq {d : Nat} {D : Rows} {R : List Rule} {s : List Bool} (hs : s.length = d) (hR : RIn d R) (hl : R.length < 1000) {k : Int → Option α} : f52_0 α D (R.map rR) (s.map rB1) k = k (brkI R fun j => s.getD j false) := by
  simp only [f52_0, f52_0g, L52_0_0]
  refine (loopS (N := R.length) (R := R52_0_0 α (s.map rB1) (R.map rR) (fun x15 => k x15) (fun _ _ => k (-1))) (p := fun i => if viol (fun j => s.getD j false) (R.getD i r0) = true then some i else none) (yes := fun i => k (i : Int)) (no := k (-1)) (by omega) (fun n i hi => ?_) (fun n => ?_)).trans ?_
  · have := hR i hi
    simp only [R52_0_0, S52_0_0, S52_0_0g, List.length_map, lt_len, hi, decide_true, cK_true]
    rw [rowK_R hi, rowK_B (by omega) (by omega), rowK_B (by omega) (by omega), w64_su hi (by omega), orK_if]
    simp only [viol]
    cases (s.getD (R.getD i r0).1.toNat false == (R.getD i r0).2.1) <;> simp
  · simp only [R52_0_0, S52_0_0, S52_0_0g, List.length_map, Int.lt_irrefl, decide_false, cK_false]
  · unfold brkI brkO
    cases srch (fun i => if viol (fun j => s.getD j false) (R.getD i r0) = true then some i else none) R.length 0 <;> rfl
theorem f128_eq {n a c : Int} {b d : Bool} (ha : 0 ≤ a) (hc : 0 ≤ c) {k : Bool → Option α} : f128_0 α a b c d n k = k (viol (bitN n) (a, b, c, d)) := by
  simp only [f128_0, f128_0g]
  rw [f129_eq ha, f129_eq hc]
  simp only [viol]
  cases (bitN n a.toNat == b) <;> rfl
theorem f104_eq {d : Nat} {D : Rows} {R : List Rule} {n : Int} (hR : RIn d R) (hl : R.length < 1000) {k : Int → Option α} : f104_0 α D (R.map rR) n k = k (brkI R (bitN n)) := by
  simp only [f104_0, f104_0g, f127_0, f127_0g, L127_0_0, List.length_map]
  refine (loopS (N := R.length) (R := R127_0_0 α (R.map rR) n ((R.length : Nat) : Int) (fun x15 => k x15) (fun _ _ => k (-1))) (p := fun i => if viol (bitN n) (R.getD i r0) = true then some i else none) (yes := fun i => k (i : Int)) (no := k (-1)) (by omega) (fun m i hi => ?_) (fun m => ?_)).trans ?_
  · have := hR i hi
    simp only [R127_0_0, S127_0_0, S127_0_0g, lt_len, hi, decide_true, cK_true]
    rw [rowK_R hi, f128_eq (by omega) (by omega), w64_su hi (by omega), orK_if]
  · simp only [R127_0_0, S127_0_0, S127_0_0g, Int.lt_irrefl, decide_false, cK_false]
  · unfold brkI brkO
    cases srch (fun i => if viol (bitN n) (R.getD i r0) = true then some i else none) R.length 0 <;> rfl
/-- A number's state is safe. -/
def sfN (R : List Rule) (n : Nat) : Bool := safe R n.testBit
theorem brk_bitN {d n : Nat} {R : List Rule} (hR : RIn d R) (hd : d ≤ 8) (hn : n < 2 ^ d) : brkO R (bitN n) = brkO R n.testBit :=
  brkO_congr hR fun j hj => (bit_all (Nat.lt_of_lt_of_le hn (pow8 hd)) (by omega)).1
theorem brk_num {R : List Rule} {s : List Bool} : (brkO R fun j => s.getD j false) = brkO R (num s).testBit := by
  congr 1; funext j; exact (num_bit s j).symm
theorem f104_n {d n : Nat} {D : Rows} {R : List Rule} (hR : RIn d R) (hd : d ≤ 8) (hn : n < 2 ^ d) (hl : R.length < 1000) {k : Int → Option α} : f104_0 α D (R.map rR) (n : Int) k = k (brkI R n.testBit) := by
  rw [f104_eq hR hl]; unfold brkI; rw [brk_bitN hR hd hn]
theorem f116_n {d n : Nat} {D : Rows} {R : List Rule} (hR : RIn d R) (hd : d ≤ 8) (hn : n < 2 ^ d) (hl : R.length < 1000) {k : Bool → Option α} : f116_0 α D (R.map rR) (n : Int) k = k (sfN R n) := by
  simp only [f116_0, f116_0g]
  rw [f104_n hR hd hn hl, brkI_neg]; rfl
theorem f52_n {d : Nat} {D : Rows} {R : List Rule} {s : List Bool} (hs : s.length = d) (hR : RIn d R) (hl : R.length < 1000) {k : Int → Option α} : f52_0 α D (R.map rR) (s.map rB1) k = k (brkI R (num s).testBit) := by
  rw [f52_eq hs hR hl]; unfold brkI; rw [brk_num]
theorem f105_n {n i : Nat} (hn : n < 256) (hi : i < 8) {k : Int → Option α} : f105_0 α (n : Int) (i : Int) k = k ((n ^^^ 2 ^ i : Nat) : Int) := by
  have h0 : (0 : Int) ≤ (i : Int) := by omega
  simp only [f105_0, f105_0g, h0, decide_true, gK_true, Int.toNat_natCast]
  rw [(bit_all hn hi).2.1]

/-! ### Copies, and so on -/

theorem f48_eq {s : List Bool} (h : s.length ≤ 1000000) {k : Rows → Option α} : f48_0 α (s.map rB1) k = k (s.map rB1) := by
  simp only [f48_0, f48_0g]; rw [gK_ap0 (enc := rB1) (fun _ => rfl) (by omega) (by omega)]; rfl
theorem f61_eq {s : List Int} (h : s.length ≤ 1000000) {k : Rows → Option α} : f61_0 α (s.map rI1) k = k (s.map rI1) := by
  simp only [f61_0, f61_0g]; rw [gK_ap0 (enc := rI1) (fun _ => rfl) (by omega) (by omega)]; rfl
theorem f46_eq {D : List ByteArray} {R : List Rule} (h : D.length ≤ 1000000) (h2 : R.length ≤ 1000000) {k : Rows → Rows → Option α} : f46_0 α (D.map rS) (R.map rR) k = k (D.map rS) (R.map rR) := by
  simp only [f46_0, f46_0g, f102_0, f102_0g]; rw [gK_ap0 (enc := rS) (fun _ => rfl) (by omega) (by omega), gK_ap0 (enc := rR) (fun _ => rfl) (by omega) (by omega)]; rfl
theorem f56_eq {s t : List Bool} (h : s.length ≤ 1000000) (h2 : t.length ≤ 1000000) {k : Rows → Rows → Option α} : f56_0 α (s.map rB1) (t.map rB1) k = k (s.map rB1) (t.map rB1) := by
  simp only [f56_0, f56_0g]; rw [f48_eq h, f48_eq h2]
theorem f53_eq {s : List Bool} {x : Int} (h : s.length ≤ 1000000) (h0 : 0 ≤ x) (h1 : x < (s.length : Int)) {k : Rows → Option α} : f53_0 α (s.map rB1) x k = k ((flp s x.toNat).map rB1) := by
  have h2 : x.toNat < s.length := by omega
  simp only [f53_0, f53_0g, List.nil_append]
  rw [gK_ap0 (enc := rB1) (fun _ => rfl) (by omega) (by omega), ixK_m (enc := rB1) (fun _ => rfl) h0 h1, ldK_B h2, ixK_m (enc := rB1) (fun _ => rfl) h0 h1, stK_B h2, set_B h2]; rfl
theorem f54_eq {s t : List Bool} (h : s.length ≤ 1000) {k : Bool → Option α} : f54_0 α (s.map rB1) (t.map rB1) k = k (s == t) := by
  simp only [f54_0, f54_0g, L54_0_0, List.length_map]
  by_cases hl : s.length = t.length
  · have e : (((s.length : Nat) : Int) != ((t.length : Nat) : Int)) = false := by simp [hl]
    rw [e, cK_false]
    refine (loopS (N := s.length) (R := R54_0_0 α (s.map rB1) (t.map rB1) (k false) (fun _ _ => k true)) (p := fun i => if (!(s.getD i false == t.getD i false)) = true then some () else none) (yes := fun _ => k false) (no := k true) (by omega) (fun n i hi => ?_) (fun n => ?_)).trans ?_
    · simp only [R54_0_0, S54_0_0, S54_0_0g, List.length_map, lt_len, hi, decide_true, cK_true]
      rw [rowK_B (by omega) (by omega), rowK_B (by omega) (by omega), w64_su hi (by omega), orK_if, Int.toNat_natCast]
    · simp only [R54_0_0, S54_0_0, S54_0_0g, List.length_map, Int.lt_irrefl, decide_false, cK_false]
    · cases hq : srch (fun i => if (!(s.getD i false == t.getD i false)) = true then some () else none) s.length 0 with
      | none =>
        have h1 := srch_none.1 hq
        have : s = t := by
          refine List.ext_getElem hl fun j h2 h3 => ?_
          have := h1 j (by omega) (by omega)
          rw [gD h2, gD h3] at this
          by_cases hh : s[j] = t[j]
          · exact hh
          · have hh' : (s[j] == t[j]) = false := by simpa using hh
            rw [hh'] at this; simp at this
        subst this; simp
      | some u =>
        obtain ⟨j, _, h2, h3, _⟩ := srch_some hq
        have : ¬ s = t := by
          intro he; subst he; simp at h3
        have e2 : (s == t) = false := by simpa using this
        rw [e2]; rfl
  · have e : (((s.length : Nat) : Int) != ((t.length : Nat) : Int)) = true := by simp; omega
    have : ¬ s = t := fun he => hl (by rw [he])
    have e2 : (s == t) = false := by simpa using this
    rw [e, e2, cK_true]
theorem f51_eq {D R s : Rows} {k : Int → Option α} : f51_0 α D R s k = k (if s.length = D.length then 0 else 12) := by
  simp only [f51_0, f51_0g]
  by_cases h : s.length = D.length
  · simp [h]
  · have : (((s.length : Nat) : Int) != ((D.length : Nat) : Int)) = true := by simp; omega
    rw [this, if_neg h]; rfl

end Go.AM.K
