/- Chapter 8: changes and sequences; GrowBack. -/
import Derived.Test.YtcidonjhifjpaaaKC5
namespace Go.AM.K
variable {α : Type}
set_option linter.unusedVariables false
set_option linter.unusedSimpArgs false

def chE (D : List ByteArray) (R : List Rule) (s t : List Bool) : Int :=
  if (chkC D R).2 ≠ 0 then (chkC D R).2 else if s.length ≠ D.length ∨ t.length ≠ D.length then 12 else if sfN R (num s) = false ∨ sfN R (num t) = false then 24 else 0
structure CE (D : List ByteArray) (R : List Rule) (s t : List Bool) : Prop where
  chk : (chkC D R).2 = 0
  gc : GC D R
  ls : s.length = D.length
  lt : t.length = D.length
  ss : sfN R (num s) = true
  st : sfN R (num t) = true
theorem chE_ok {D : List ByteArray} {R : List Rule} {s t : List Bool} (h : chE D R s t = 0) : CE D R s t := by
  unfold chE at h
  split at h
  · exact absurd h (by assumption)
  · rename_i h1
    split at h
    · cases h
    · rename_i h2
      split at h
      · cases h
      · rename_i h3
        have h1 : (chkC D R).2 = 0 := by simpa using h1
        exact ⟨h1, (chkC_ok h1).1, by omega, by omega, by cases hq : sfN R (num s) <;> simp_all, by cases hq : sfN R (num t) <;> simp_all⟩
theorem CE.zero {D : List ByteArray} {R : List Rule} {s t : List Bool} (h : CE D R s t) : chE D R s t = 0 := by
  unfold chE
  rw [if_neg (by simp [h.chk]), if_neg (by simp [h.ls, h.lt]), if_neg (by simp [h.ss, h.st])]
theorem CE.symm {D : List ByteArray} {R : List Rule} {s t : List Bool} (h : CE D R s t) : CE D R t s := ⟨h.chk, h.gc, h.lt, h.ls, h.st, h.ss⟩
theorem CE.sn {D : List ByteArray} {R : List Rule} {s t : List Bool} (h : CE D R s t) : num s < 2 ^ D.length := by rw [← h.ls]; exact num_lt s

section
variable {D : List ByteArray} {R : List Rule} {s t : List Bool}

theorem f109_eq (hR : R.length < 1000) (hb : ∀ x ∈ D, x.size ≤ 9223372036854775807) {k1 : Int → Option α} {k2 : Rows → Rows → Int → Int → Option α} :
    f109_0 α (D.map rS) (R.map rR) (s.map rB1) (t.map rB1) k1 k2 = if chE D R s t ≠ 0 then k1 (chE D R s t) else k2 (D.map rS) (R.map rR) (num s : Int) (num t : Int) := by
  simp only [f109_0, f109_0g, J109_0_0, J109_0_0g]
  by_cases he : (chkC D R).2 = 0
  · obtain ⟨hg, _⟩ := chkC_ok he
    have e := fun (k1 : Int → Option α) (k2 : Rows → Rows → Rows → Option α) => f103_ok (S := [s, t]) hR hb he (by simp) (k1 := k1) (k2 := k2)
    simp only [List.map_cons, List.map_nil] at e
    rw [e]
    by_cases hl : s.length ≠ D.length ∨ t.length ≠ D.length
    · have hc : chE D R s t = 12 := by unfold chE; rw [if_neg (by simp [he]), if_pos hl]
      rw [hc, if_pos (by rcases hl with h | h; exact ⟨s, by simp, h⟩; exact ⟨t, by simp, h⟩), if_pos (by decide)]; rfl
    · have hn : num s < 2 ^ D.length := by rw [show D.length = s.length by omega]; exact num_lt s
      have hm : num t < 2 ^ D.length := by rw [show D.length = t.length by omega]; exact num_lt t
      rw [if_neg (by rintro ⟨x, hx, hx2⟩; simp only [List.mem_cons, List.not_mem_nil, or_false] at hx; rcases hx with rfl | rfl <;> omega)]
      rw [show ixK [rI1 (num s : Int), rI1 (num t : Int)] 0 1 = fun x : Option α => x from rfl, show ldK [rI1 (num s : Int), rI1 (num t : Int)] 0 0 [.int .i64] = fun f : Int → Option α => f (num s : Int) from rfl,
        show ixK [rI1 (num s : Int), rI1 (num t : Int)] 1 1 = fun x : Option α => x from rfl, show ldK [rI1 (num s : Int), rI1 (num t : Int)] 1 0 [.int .i64] = fun f : Int → Option α => f (num t : Int) from rfl]
      simp only
      have hcE : chE D R s t = if sfN R (num s) = false ∨ sfN R (num t) = false then 24 else 0 := by unfold chE; rw [if_neg (by simp [he]), if_neg hl]
      rw [f116_n hg.rin hg.d8 hn hR, hcE]
      cases h1 : sfN R (num s) with
      | false => simp
      | true =>
        simp only [Bool.not_true, cK_false]
        rw [f116_n hg.rin hg.d8 hm hR]
        cases h2 : sfN R (num t) with
        | false => simp
        | true => simp
  · rw [f103_err hR hb he]
    have : ((chkC D R).2 != 0) = true := by simpa using he
    have hc : chE D R s t = (chkC D R).2 := by unfold chE; rw [if_pos he]
    rw [hc, if_pos he]
    simp only [fl3, this, cK_true]

theorem f57_eq (hR : R.length < 1000) {k : Int → Option α} : f57_0 α (D.map rS) (R.map rR) (s.map rB1) (t.map rB1) k = k (chE D R s t) := by
  simp only [f57_0, f57_0g]
  rw [f50_eq hR]
  unfold chE
  by_cases he : (chkC D R).2 = 0
  · obtain ⟨hg, _⟩ := chkC_ok he
    simp only [he, bne_self_eq_false, cK_false, f112_0, f112_0g, ne_eq, not_true_eq_false, if_false]
    rw [f51_eq]
    simp only [List.length_map]
    by_cases h1 : s.length = D.length
    · simp only [h1, if_true, bne_self_eq_false, cK_false]
      rw [f51_eq]
      simp only [List.length_map]
      by_cases h2 : t.length = D.length
      · simp only [h2, if_true, bne_self_eq_false, cK_false, not_true_eq_false, or_false, if_false]
        rw [f52_n h1 hg.rin hR, brkI_pos]
        show cK (!sfN R (num s)) _ _ = _
        cases h3 : sfN R (num s) with
        | false => simp
        | true =>
          simp only [Bool.not_true, cK_false]
          rw [f52_n h2 hg.rin hR, brkI_pos]
          show cK (!sfN R (num t)) _ _ = _
          cases h4 : sfN R (num t) <;> simp
      · simp [h2]
    · simp [h1]
  · have : ((chkC D R).2 != 0) = true := by simpa using he
    simp [he, this]

/-! ### Sequences -/

def wlk (R : List Rule) (d : Nat) : List Int → Nat → Int ⊕ Nat
  | [], n => .inr n
  | x :: r, n => if inW x 0 ((d : Int) - 1) = false then .inl 6 else if sfN R (n ^^^ 2 ^ x.toNat) = false then .inl 24 else wlk R d r (n ^^^ 2 ^ x.toNat)
def pth (R : List Rule) (d : Nat) : List Int → Nat → Nat → Prop
  | [], n, m => n = m
  | x :: r, n, m => (0 ≤ x ∧ x < (d : Int)) ∧ sfN R (n ^^^ 2 ^ x.toNat) = true ∧ pth R d r (n ^^^ 2 ^ x.toNat) m
theorem inW_f {x : Int} {d : Nat} : inW x 0 ((d : Int) - 1) = false ↔ ¬ (0 ≤ x ∧ x < (d : Int)) := by
  unfold inW
  by_cases h : 0 ≤ x ∧ x < (d : Int)
  · have h2 : x ≤ (d : Int) - 1 := by omega
    simp [h, h2]
  · simp only [h, not_false_eq_true, iff_true, Bool.and_eq_false_iff, decide_eq_false_iff_not]; omega
theorem wlk_pth {d : Nat} {m : Nat} : ∀ {l : List Int} {n : Nat}, wlk R d l n = .inr m ↔ pth R d l n m
  | [], n => by simp [wlk, pth]
  | x :: r, n => by
    simp only [wlk, pth]
    by_cases hx : inW x 0 ((d : Int) - 1) = false
    · rw [if_pos hx]; simp [inW_f.1 hx]
    · have hx2 : 0 ≤ x ∧ x < (d : Int) := by
        by_cases h : 0 ≤ x ∧ x < (d : Int)
        · exact h
        · exact absurd (inW_f.2 h) hx
      rw [if_neg hx]
      cases hs : sfN R (n ^^^ 2 ^ x.toNat) with
      | false => simp
      | true => simp [hx2, wlk_pth (l := r)]
theorem pth_app {d m : Nat} {b : List Int} : ∀ {a : List Int} {n : Nat}, pth R d (a ++ b) n m ↔ ∃ p, pth R d a n p ∧ pth R d b p m
  | [], n => by simp [pth]
  | x :: r, n => by
    simp only [List.cons_append, pth, pth_app (a := r)]
    constructor
    · rintro ⟨h1, h2, p, h3, h4⟩; exact ⟨p, ⟨h1, h2, h3⟩, h4⟩
    · rintro ⟨p, ⟨h1, h2, h3⟩, h4⟩; exact ⟨h1, h2, p, h3, h4⟩
theorem xor_back {n i : Nat} : n ^^^ 2 ^ i ^^^ 2 ^ i = n := by rw [Nat.xor_assoc, Nat.xor_self, Nat.xor_zero]
theorem pth_rev {d m : Nat} : ∀ {l : List Int} {n : Nat}, sfN R n = true → pth R d l n m → pth R d l.reverse m n
  | [], n, _, h => h.symm
  | x :: r, n, hn, ⟨h1, h2, h3⟩ => by
    rw [List.reverse_cons, pth_app]
    refine ⟨_, pth_rev h2 h3, h1, ?_, ?_⟩
    · rw [xor_back]; exact hn
    · exact xor_back
theorem pth_lt {d m : Nat} : ∀ {l : List Int} {n : Nat}, n < 2 ^ d → pth R d l n m → m < 2 ^ d
  | [], n, hn, h => by rw [← h]; exact hn
  | x :: r, n, hn, ⟨h1, h2, h3⟩ => pth_lt (xor_lt hn (by omega)) h3

def seqR (R : List Rule) (d : Nat) (l : List Int) (n m : Nat) : Int × Int :=
  if 1000 < l.length then (0, 8) else match wlk R d l n with
    | .inl e => (0, e)
    | .inr p => if p = m then ((l.length : Int), 0) else (0, 23)

theorem dN {l : List Int} {i : Nat} (h : i < l.length) : l.drop i = l.getD i 0 :: l.drop (i + 1) := by rw [gD h]; exact List.drop_eq_getElem_cons h

theorem R62 {d : Nat} {l : List Int} (hg : GC D R) (hd : D.length = d) (hl : l.length ≤ 1000) {k1 : Int → Option α} {k2 : Int → Int → Bool → Option α} {fin : Int → Option α} (hk : ∀ a b c, k2 a b c = fin a) : ∀ (m i n st : Nat), i + m = l.length → m < n → st < 2 ^ d →
    R62_0_2 α (l.map rI1) ((l.length : Nat) : Int) (D.map rS) (D.map rS) (R.map rR) k1 k2 n (st : Int) (i : Int) = match wlk R d (l.drop i) st with | .inl e => k1 e | .inr p => fin (p : Int) := by
  have h8 := hg.d8
  have hr := hg.r30
  intro m
  induction m with
  | zero =>
    intro i n st h1 h2 h3
    obtain ⟨n, rfl⟩ : ∃ k, n = k + 1 := ⟨n - 1, by omega⟩
    rw [List.drop_eq_nil_of_le (by omega)]
    have : ¬ i < l.length := by omega
    simp only [R62_0_2, S62_0_2, S62_0_2g, lt_len, this, decide_false, cK_false, hk, wlk]
  | succ m ih =>
    intro i n st h1 h2 h3
    obtain ⟨n, rfl⟩ : ∃ k, n = k + 1 := ⟨n - 1, by omega⟩
    have hi : i < l.length := by omega
    rw [dN hi]
    simp only [R62_0_2, S62_0_2, S62_0_2g, lt_len, hi, decide_true, cK_true, List.length_map, wlk]
    rw [rowK_N (by omega) (by omega), Int.toNat_natCast, f78_eq, w64_in (n := (D.length : Int) - 1) (by omega) (by omega), hd]
    show cK (!inW (l.getD i 0) 0 ((d : Int) - 1)) _ _ = _
    by_cases hx : inW (l.getD i 0) 0 ((d : Int) - 1) = false
    · rw [hx]; rfl
    · have hx2 : 0 ≤ l.getD i 0 ∧ l.getD i 0 < (d : Int) := by
        by_cases h : 0 ≤ l.getD i 0 ∧ l.getD i 0 < (d : Int)
        · exact h
        · exact absurd (inW_f.2 h) hx
      have hx3 : inW (l.getD i 0) 0 ((d : Int) - 1) = true := by simpa using hx
      rw [hx3]
      simp only [Bool.not_true, cK_false, Bool.true_eq_false, if_false]
      generalize l.getD i 0 = x at *
      obtain ⟨j, rfl⟩ : ∃ j : Nat, x = j := ⟨x.toNat, by omega⟩
      have hd8 : d ≤ 8 := by omega
      rw [f105_n (Nat.lt_of_lt_of_le h3 (pow8 hd8)) (by omega), Int.toNat_natCast]
      have h4 : st ^^^ 2 ^ j < 2 ^ d := xor_lt h3 (by omega)
      rw [f116_n (hd ▸ hg.rin) hd8 h4 (by omega)]
      cases sfN R (st ^^^ 2 ^ j) with
      | false => rfl
      | true =>
        simp only [Bool.not_true, cK_false, Bool.true_eq_false, if_false]
        rw [w64_su hi (by omega)]
        exact ih (i + 1) n _ (by omega) (by omega) h4

theorem f62_eq {l : List Int} (hR : R.length < 1000) (hb : ∀ x ∈ D, x.size ≤ 9223372036854775807) {k : Int → Int → Option α} :
    f62_0 α (D.map rS) (R.map rR) (s.map rB1) (t.map rB1) (l.map rI1) k = if chE D R s t ≠ 0 then k 0 (chE D R s t) else k (seqR R D.length l (num s) (num t)).1 (seqR R D.length l (num s) (num t)).2 := by
  simp only [f62_0, f62_0g, J62_0_0, J62_0_0g]
  rw [f109_eq hR hb]
  by_cases he : chE D R s t = 0
  · rw [if_neg (by simp [he]), if_neg (by simp [he])]
    have hc := chE_ok he
    simp only [List.length_map, seqR]
    by_cases h1 : 1000 < l.length
    · have : (1000 : Int) < (l.length : Int) := by omega
      simp [h1, this]
    · have h1' : ¬ (1000 : Int) < (l.length : Int) := by omega
      simp only [h1, h1', decide_false, cK_false, if_false, L62_0_2]
      have hf := fuel_ge
      have := R62 (α := α) (D := D) (R := R) hc.gc rfl (l := l) (by omega) (k1 := fun x60 => k 0 x60) (fin := fun x61 => cK (x61 != (num t : Int)) (k 0 23) (k ((l.length : Nat) : Int) 0)) (fun _ _ _ => rfl) l.length 0 fuel (num s) (by omega) (by omega) hc.sn
      refine Eq.trans this ?_
      rw [List.drop_zero]
      cases wlk R D.length l (num s) with
      | inl e => rfl
      | inr p =>
        simp only
        by_cases hp : p = num t
        · subst hp; simp
        · have : ((p : Int) != (num t : Int)) = true := by simp; omega
          rw [this, if_neg hp]; rfl
  · rw [if_pos he, if_pos he]
    have : (chE D R s t != 0) = true := by simpa using he
    rw [this]; rfl

end

/-! ### GrowBack -/

section
variable {D : List ByteArray} {R : List Rule}

theorem rowK_last {l : List Int} {i : Nat} (h : i < l.length) (hl : l.length < 1000000) {f : Int → Option α} : rowK (l.map rI1) (w64 (w64 (((l.length : Nat) : Int) - 1) - (i : Int))) [.int .i64] f = f (l.reverse.getD i 0) := by
  rw [w64_in (n := ((l.length : Nat) : Int) - 1) (by omega) (by omega), w64_in (by omega) (by omega), rowK_N (by omega) (by omega)]
  congr 1
  rw [gD (by omega), gD (by simpa using h), List.getElem_reverse]
  congr 1; omega

theorem R12 {l : List Int} {m : Nat} (hg : GC D R) (hc : (chkC D R).2 = 0) (hb : ∀ x ∈ D, x.size ≤ 9223372036854775807) (hl : l.length ≤ 40) {k1 : Option α} {k2 : Int → Bool → Rows → Rows → Option α} {fin : Rows → Rows → Option α} (hk : ∀ a b c e, k2 a b c e = fin c e) : ∀ (q i n st : Nat), i + q = l.length → q < n → st < 2 ^ D.length → pth R D.length (l.drop i) st m →
    R12_0_0 α (l.map rI1) (D.map rS) (R.map rR) k1 k2 n (i : Int) ((l.reverse.take i).map rI1) ((lst D.length st).map rB1) = fin (l.reverse.map rI1) ((lst D.length m).map rB1) := by
  have h8 := hg.d8
  have hr := hg.r30
  intro q
  induction q with
  | zero =>
    intro i n st h1 h2 h3 h4
    obtain ⟨n, rfl⟩ : ∃ k, n = k + 1 := ⟨n - 1, by omega⟩
    have : ¬ i < l.length := by omega
    rw [List.drop_eq_nil_of_le (by omega)] at h4
    simp only [pth] at h4
    subst h4
    simp only [R12_0_0, S12_0_0, S12_0_0g, List.length_map, lt_len, this, decide_false, cK_false, hk]
    rw [List.take_of_length_le (by simp; omega)]
  | succ q ih =>
    intro i n st h1 h2 h3 h4
    obtain ⟨n, rfl⟩ : ∃ k, n = k + 1 := ⟨n - 1, by omega⟩
    have hi : i < l.length := by omega
    rw [dN hi] at h4
    obtain ⟨h5, h6, h7⟩ := h4
    simp only [R12_0_0, S12_0_0, S12_0_0g, List.length_map, lt_len, hi, decide_true, cK_true]
    rw [f46_eq (by omega) (by omega), rowK_N (by omega) (by omega), Int.toNat_natCast]
    have h9 : st ^^^ 2 ^ (l.getD i 0).toNat < 2 ^ D.length := xor_lt h3 (by omega)
    have hbr : brkI R (st ^^^ 2 ^ (l.getD i 0).toNat).testBit < 0 := by
      have : safe R (st ^^^ 2 ^ (l.getD i 0).toNat).testBit = true := h6
      rw [← brkI_neg] at this
      exact of_decide_eq_true this
    rw [f49_eq (by omega) hb, if_neg (by simp [hc]), if_neg (by simp), if_neg (by intro h; exact inW_f.1 h h5), lst_flp h3 (by omega), num_lst h9, if_pos hbr, flB, f46_eq (by omega) (by omega), f48_eq (by simp; omega), flB, f47_eq (by omega) hb, if_neg (by simp [hc]), if_neg (by simp), num_lst h9, if_pos hbr]
    simp only [bne_self_eq_false, cK_false]
    have hr1 : i < l.reverse.length := by simpa using hi
    have htk : l.reverse.take (i + 1) = l.reverse.take i ++ [l.reverse.getD i 0] := by
      have h4 : ∀ (S : List Int) (hi : i < S.length), S.take (i + 1) = S.take i ++ [S[i]'hi] := fun S hi => by simp
      rw [gD hr1]; exact h4 _ hr1
    have hlr : (l.reverse.take i).length ≤ 40 := by rw [List.length_take]; simp; omega
    rw [rowK_last hi (by omega), show [[DC.v (Value.int .i64 (l.reverse.getD i 0))]] = [l.reverse.getD i 0].map rI1 from rfl,
      apOk_of (enc := rI1) (l := [l.reverse.getD i 0]) (fun _ => rfl) (by simp; omega) (by simp; omega), gK_true, w64_su hi (by omega), ← List.map_append, ← htk]
    exact ih (i + 1) n _ (by omega) (by omega) h9 h7

theorem law12 {s t : List Bool} {l : List Int} (hb : ∀ x ∈ D, x.size ≤ 9223372036854775807) {k : Bool → Option α} : f12_0 α (D.map rS) (R.map rR) (s.map rB1) (t.map rB1) (l.map rI1) k = k true := by
  simp only [f12_0, f12_0g, f14_0]
  rw [f44_eq]
  simp only [List.length_map]
  cases hsm : (decide (D.length ≤ 5) || (decide (8 < D.length) && decide (D.length ≤ 10))) && decide (R.length ≤ 32) with
  | false => rfl
  | true =>
    simp only [Bool.and_eq_true, Bool.or_eq_true, decide_eq_true_eq] at hsm
    simp only [Bool.not_true, cK_false]
    by_cases hs12 : (12 : Int) < ((s.length : Nat) : Int)
    · simp [hs12]
    by_cases ht12 : (12 : Int) < ((t.length : Nat) : Int)
    · simp [hs12, ht12]
    by_cases hl40 : (40 : Int) < ((l.length : Nat) : Int)
    · simp [hs12, ht12, hl40]
    simp only [hs12, ht12, hl40, decide_false, cK_false]
    have hR : R.length < 1000 := by omega
    have hD : D.length ≤ 1000000 := by omega
    rw [f46_eq hD (by omega), f56_eq (by omega) (by omega), f61_eq (by omega), f62_eq hR hb]
    by_cases he : chE D R s t = 0
    · rw [if_neg (by simp [he])]
      have hc := chE_ok he
      have hl1 : ¬ 1000 < l.length := by omega
      unfold seqR
      rw [if_neg hl1]
      cases hw : wlk R D.length l (num s) with
      | inl e =>
        simp only
        have : (e != 0) = true := by
          have key : ∀ (l : List Int) (n : Nat), wlk R D.length l n = .inl e → e ≠ 0 := by
            intro l
            induction l with
            | nil => intro n h; cases h
            | cons x r ih =>
              intro n h
              simp only [wlk] at h
              split at h
              · cases h; decide
              · split at h
                · cases h; decide
                · exact ih _ h
          simpa using key l _ hw
        rw [this]; rfl
      | inr p =>
        simp only
        by_cases hp : p = num t
        · subst hp
          rw [if_pos rfl]
          simp only [bne_self_eq_false, cK_false]
          have hpt := wlk_pth.1 hw
          rw [f48_eq (by omega)]
          simp only [L12_0_0]
          have hf := fuel_ge
          have hs : s = lst D.length (num s) := by rw [← hc.ls]; exact lst_num.symm
          have ht : lst D.length (num t) = t := by rw [← hc.lt]; exact lst_num
          have key := R12 (α := α) (D := D) (R := R) hc.gc hc.chk hb (l := l) (m := num t) (by omega) (k1 := k false) (fin := fun x38 x39 => f46_0 α (D.map rS) (R.map rR) fun x41 x42 => f48_0 α (t.map rB1) fun x43 => f48_0 α (s.map rB1) fun x44 => f62_0 α x41 x42 x43 x44 x38 fun x45 x46 => f54_0 α x39 (t.map rB1) fun x47 => cK x47 (cK (x46 == 0) (k (x45 == ((l.length : Nat) : Int))) (k false)) (k false)) (k2 := fun _ _ x38 x39 => f46_0 α (D.map rS) (R.map rR) fun x41 x42 => f48_0 α (t.map rB1) fun x43 => f48_0 α (s.map rB1) fun x44 => f62_0 α x41 x42 x43 x44 x38 fun x45 x46 => f54_0 α x39 (t.map rB1) fun x47 => cK x47 (cK (x46 == 0) (k (x45 == ((l.length : Nat) : Int))) (k false)) (k false)) (fun _ _ _ _ => rfl) l.length 0 fuel (num s) (by omega) (by omega) hc.sn (by simpa using hpt)
          rw [← hs, ht] at key
          refine Eq.trans key ?_
          rw [f46_eq hD (by omega), f48_eq (by omega), f48_eq (by omega), f62_eq hR hb, if_neg (by simp [hc.symm.zero]), f54_eq (by omega)]
          have hrev := wlk_pth.2 (pth_rev hc.ss hpt)
          unfold seqR
          rw [if_neg (by simpa using hl1), hrev]
          simp
        · rw [if_neg hp]; rfl
    · rw [if_pos he]
      have : (chE D R s t != 0) = true := by simpa using he
      rw [this]; rfl
end

end Go.AM.K
