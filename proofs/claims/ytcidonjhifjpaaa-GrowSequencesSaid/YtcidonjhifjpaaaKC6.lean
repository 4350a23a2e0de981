/- Chapter 8: changes and sequences. -/
import Derived.Test.YtcidonjhifjpaaaKC5
namespace Go.AM.K
variable {α : Type}
set_option linter.unusedVariables false
set_option linter.unusedSimpArgs false

def chE (D : List ByteArray) (R : List Rule) (s t : List Bool) : Int :=
  if (chkC D R).2 ≠ 0 then (chkC D R).2 else if s.length ≠ D.length ∨ t.length ≠ D.length then 12 else if sfN R (num s) = false ∨ sfN R (num t) = false then 24 else 0
structure CE (D : List ByteArray) (R : List Rule) (s t : List Bool) : Prop where
  chk : (chkC D R).2 = 0
  gc : GC D R
  ls : s.length = D.length
  lt : t.length = D.length
  ss : sfN R (num s) = true
  st : sfN R (num t) = true
theorem chE_ok {D : List ByteArray} {R : List Rule} {s t : List Bool} (h : chE D R s t = 0) : CE D R s t := by
  unfold chE at h
  split at h
  · exact absurd h (by assumption)
  · rename_i h1
    split at h
    · cases h
    · rename_i h2
      split at h
      · cases h
      · rename_i h3
        have h1 : (chkC D R).2 = 0 := by simpa using h1
        exact ⟨h1, (chkC_ok h1).1, by omega, by omega, by cases hq : sfN R (num s) <;> simp_all, by cases hq : sfN R (num t) <;> simp_all⟩
theorem CE.zero {D : List ByteArray} {R : List Rule} {s t : List Bool} (h : CE D R s t) : chE D R s t = 0 := by
  unfold chE
  rw [if_neg (by simp [h.chk]), if_neg (by simp [h.ls, h.lt]), if_neg (by simp [h.ss, h.st])]
theorem CE.symm {D : List ByteArray} {R : List Rule} {s t : List Bool} (h : CE D R s t) : CE D R t s := ⟨h.chk, h.gc, h.lt, h.ls, h.st, h.ss⟩
theorem CE.sn {D : List ByteArray} {R : List Rule} {s t : List Bool} (h : CE D R s t) : num s < 2 ^ D.length := by rw [← h.ls]; exact num_lt s

section
variable {D : List ByteArray} {R : List Rule} {s t : List Bool}

theorem f109_eq (hR : R.length < 1000) (hb : ∀ x ∈ D, x.size ≤ 9223372036854775807) {k1 : Int → Option α} {k2 : Rows → Rows → Int → Int → Option α} :
    f109_0 α (D.map rS) (R.map rR) (s.map rB1) (t.map rB1) k1 k2 = if chE D R s t ≠ 0 then k1 (chE D R s t) else k2 (D.map rS) (R.map rR) (num s : Int) (num t : Int) := by
  simp only [f109_0, f109_0g, J109_0_0, J109_0_0g]
  by_cases he : (chkC D R).2 = 0
  · obtain ⟨hg, _⟩ := chkC_ok he
    have e := fun (k1 : Int → Option α) (k2 : Rows → Rows → Rows → Option α) => f103_ok (S := [s, t]) hR hb he (by simp) (k1 := k1) (k2 := k2)
    simp only [List.map_cons, List.map_nil] at e
    rw [e]
    by_cases hl : s.length ≠ D.length ∨ t.length ≠ D.length
    · have hc : chE D R s t = 12 := by unfold chE; rw [if_neg (by simp [he]), if_pos hl]
      rw [hc, if_pos (by rcases hl with h | h; exact ⟨s, by simp, h⟩; exact ⟨t, by simp, h⟩), if_pos (by decide)]; rfl
    · have hn : num s < 2 ^ D.length := by rw [show D.length = s.length by omega]; exact num_lt s
      have hm : num t < 2 ^ D.length := by rw [show D.length = t.length by omega]; exact num_lt t
      rw [if_neg (by rintro ⟨x, hx, hx2⟩; simp only [List.mem_cons, List.not_mem_nil, or_false] at hx; rcases hx with rfl | rfl <;> omega)]
      rw [show ixK [rI1 (num s : Int), rI1 (num t : Int)] 0 1 = fun x : Option α => x from rfl, show ldK [rI1 (num s : Int), rI1 (num t : Int)] 0 0 [.int .i64] = fun f : Int → Option α => f (num s : Int) from rfl,
        show ixK [rI1 (num s : Int), rI1 (num t : Int)] 1 1 = fun x : Option α => x from rfl, show ldK [rI1 (num s : Int), rI1 (num t : Int)] 1 0 [.int .i64] = fun f : Int → Option α => f (num t : Int) from rfl]
      simp only
      have hcE : chE D R s t = if sfN R (num s) = false ∨ sfN R (num t) = false then 24 else 0 := by unfold chE; rw [if_neg (by simp [he]), if_neg hl]
      rw [f116_n hg.rin hg.d8 hn hR, hcE]
      cases h1 : sfN R (num s) with
      | false => simp
      | true =>
        simp only [Bool.not_true, cK_false]
        rw [f116_n hg.rin hg.d8 hm hR]
        cases h2 : sfN R (num t) with
        | false => simp
        | true => simp
  · rw [f103_err hR hb he]
    have : ((chkC D R).2 != 0) = true := by simpa using he
    have hc : chE D R s t = (chkC D R).2 := by unfold chE; rw [if_pos he]
    rw [hc, if_pos he]
    simp only [fl3, this, cK_true]

theorem f57_eq (hR : R.length < 1000) {k : Int → Option α} : f57_0 α (D.map rS) (R.map rR) (s.map rB1) (t.map rB1) k = k (chE D R s t) := by
  simp only [f57_0, f57_0g]
  rw [f50_eq hR]
  unfold chE
  by_cases he : (chkC D R).2 = 0
  · obtain ⟨hg, _⟩ := chkC_ok he
    simp only [he, bne_self_eq_false, cK_false, f112_0, f112_0g, ne_eq, not_true_eq_false, if_false]
    rw [f51_eq]
    simp only [List.length_map]
    by_cases h1 : s.length = D.length
    · simp only [h1, if_true, bne_self_eq_false, cK_false]
      rw [f51_eq]
      simp only [List.length_map]
      by_cases h2 : t.length = D.length
      · simp only [h2, if_true, bne_self_eq_false, cK_false, not_true_eq_false, or_false, if_false]
        rw [f52_n h1 hg.rin hR, brkI_pos]
        show cK (!sfN R (num s)) _ _ = _
        cases h3 : sfN R (num s) with
        | false => simp
        | true =>
          simp only [Bool.not_true, cK_false]
          rw [f52_n h2 hg.rin hR, brkI_pos]
          show cK (!sfN R (num t)) _ _ = _
          cases h4 : sfN R (num t) <;> simp
      · simp [h2]
    · simp [h1]
  · have : ((chkC D R).2 != 0) = true := by simpa using he
    simp [he, this]

/-! ### Sequences -/

def wlk (R : List Rule) (d : Nat) : List Int → Nat → Int ⊕ Nat
  | [], n => .inr n
  | x :: r, n => if inW x 0 ((d : Int) - 1) = false then .inl 6 else if sfN R (n ^^^ 2 ^ x.toNat) = false then .inl 24 else wlk R d r (n ^^^ 2 ^ x.toNat)
def pth (R : List Rule) (d : Nat) : List Int → Nat → Nat → Prop
  | [], n, m => n = m
  | x :: r, n, m => (0 ≤ x ∧ x < (d : Int)) ∧ sfN R (n ^^^ 2 ^ x.toNat) = true ∧ pth R d r (n ^^^ 2 ^ x.toNat) m
theorem inW_f {x : Int} {d : Nat} : inW x 0 ((d : Int) - 1) = false ↔ ¬ (0 ≤ x ∧ x < (d : Int)) := by
  unfold inW
  by_cases h : 0 ≤ x ∧ x < (d : Int)
  · have h2 : x ≤ (d : Int) - 1 := by omega
    simp [h, h2]
  · simp only [h, not_false_eq_true, iff_true, Bool.and_eq_false_iff, decide_eq_false_iff_not]; omega
theorem wlk_pth {d : Nat} {m : Nat} : ∀ {l : List Int} {n : Nat}, wlk R d l n = .inr m ↔ pth R d l n m
  | [], n => by simp [wlk, pth]
  | x :: r, n => by
    simp only [wlk, pth]
    by_cases hx : inW x 0 ((d : Int) - 1) = false
    · rw [if_pos hx]; simp [inW_f.1 hx]
    · have hx2 : 0 ≤ x ∧ x < (d : Int) := by
        by_cases h : 0 ≤ x ∧ x < (d : Int)
        · exact h
        · exact absurd (inW_f.2 h) hx
      rw [if_neg hx]
      cases hs : sfN R (n ^^^ 2 ^ x.toNat) with
      | false => simp
      | true => simp [hx2, wlk_pth (l := r)]
theorem pth_app {d m : Nat} {b : List Int} : ∀ {a : List Int} {n : Nat}, pth R d (a ++ b) n m ↔ ∃ p, pth R d a n p ∧ pth R d b p m
  | [], n => by simp [pth]
  | x :: r, n => by
    simp only [List.cons_append, pth, pth_app (a := r)]
    constructor
    · rintro ⟨h1, h2, p, h3, h4⟩; exact ⟨p, ⟨h1, h2, h3⟩, h4⟩
    · rintro ⟨p, ⟨h1, h2, h3⟩, h4⟩; exact ⟨h1, h2, p, h3, h4⟩
theorem xor_back {n i : Nat} : n ^^^ 2 ^ i ^^^ 2 ^ i = n := by rw [Nat.xor_assoc, Nat.xor_self, Nat.xor_zero]
theorem pth_rev {d m : Nat} : ∀ {l : List Int} {n : Nat}, sfN R n = true → pth R d l n m → pth R d l.reverse m n
  | [], n, _, h => h.symm
  | x :: r, n, hn, ⟨h1, h2, h3⟩ => by
    rw [List.reverse_cons, pth_app]
    refine ⟨_, pth_rev h2 h3, h1, ?_, ?_⟩
    · rw [xor_back]; exact hn
    · exact xor_back
theorem pth_lt {d m : Nat} : ∀ {l : List Int} {n : Nat}, n < 2 ^ d → pth R d l n m → m < 2 ^ d
  | [], n, hn, h => by rw [← h]; exact hn
  | x :: r, n, hn, ⟨h1, h2, h3⟩ => pth_lt (xor_lt hn (by omega)) h3

def seqR (R : List Rule) (d : Nat) (l : List Int) (n m : Nat) : Int × Int :=
  if 1000 < l.length then (0, 8) else match wlk R d l n with
    | .inl e => (0, e)
    | .inr p => if p = m then ((l.length : Int), 0) else (0, 23)

theorem dN {l : List Int} {i : Nat} (h : i < l.length) : l.drop i = l.getD i 0 :: l.drop (i + 1) := by rw [gD h]; exact List.drop_eq_getElem_cons h

theorem R62 {d : Nat} {l : List Int} (hg : GC D R) (hd : D.length = d) (hl : l.length ≤ 1000) {k1 : Int → Option α} {k2 : Int → Int → Bool → Option α} {fin : Int → Option α} (hk : ∀ a b c, k2 a b c = fin a) : ∀ (m i n st : Nat), i + m = l.length → m < n → st < 2 ^ d →
    R62_0_2 α (l.map rI1) ((l.length : Nat) : Int) (D.map rS) (D.map rS) (R.map rR) k1 k2 n (st : Int) (i : Int) = match wlk R d (l.drop i) st with | .inl e => k1 e | .inr p => fin (p : Int) := by
  have h8 := hg.d8
  have hr := hg.r30
  intro m
  induction m with
  | zero =>
    intro i n st h1 h2 h3
    obtain ⟨n, rfl⟩ : ∃ k, n = k + 1 := ⟨n - 1, by omega⟩
    rw [List.drop_eq_nil_of_le (by omega)]
    have : ¬ i < l.length := by omega
    simp only [R62_0_2, S62_0_2, S62_0_2g, lt_len, this, decide_false, cK_false, hk, wlk]
  | succ m ih =>
    intro i n st h1 h2 h3
    obtain ⟨n, rfl⟩ : ∃ k, n = k + 1 := ⟨n - 1, by omega⟩
    have hi : i < l.length := by omega
    rw [dN hi]
    simp only [R62_0_2, S62_0_2, S62_0_2g, lt_len, hi, decide_true, cK_true, List.length_map, wlk]
    rw [rowK_N (by omega) (by omega), Int.toNat_natCast, f78_eq, w64_in (n := (D.length : Int) - 1) (by omega) (by omega), hd]
    show cK (!inW (l.getD i 0) 0 ((d : Int) - 1)) _ _ = _
    by_cases hx : inW (l.getD i 0) 0 ((d : Int) - 1) = false
    · rw [hx]; rfl
    · have hx2 : 0 ≤ l.getD i 0 ∧ l.getD i 0 < (d : Int) := by
        by_cases h : 0 ≤ l.getD i 0 ∧ l.getD i 0 < (d : Int)
        · exact h
        · exact absurd (inW_f.2 h) hx
      have hx3 : inW (l.getD i 0) 0 ((d : Int) - 1) = true := by simpa using hx
      rw [hx3]
      simp only [Bool.not_true, cK_false, Bool.true_eq_false, if_false]
      generalize l.getD i 0 = x at *
      obtain ⟨j, rfl⟩ : ∃ j : Nat, x = j := ⟨x.toNat, by omega⟩
      have hd8 : d ≤ 8 := by omega
      rw [f105_n (Nat.lt_of_lt_of_le h3 (pow8 hd8)) (by omega), Int.toNat_natCast]
      have h4 : st ^^^ 2 ^ j < 2 ^ d := xor_lt h3 (by omega)
      rw [f116_n (hd ▸ hg.rin) hd8 h4 (by omega)]
      cases sfN R (st ^^^ 2 ^ j) with
      | false => rfl
      | true =>
        simp only [Bool.not_true, cK_false, Bool.true_eq_false, if_false]
        rw [w64_su hi (by omega)]
        exact ih (i + 1) n _ (by omega) (by omega) h4

theorem f62_eq {l : List Int} (hR : R.length < 1000) (hb : ∀ x ∈ D, x.size ≤ 9223372036854775807) {k : Int → Int → Option α} :
    f62_0 α (D.map rS) (R.map rR) (s.map rB1) (t.map rB1) (l.map rI1) k = if chE D R s t ≠ 0 then k 0 (chE D R s t) else k (seqR R D.length l (num s) (num t)).1 (seqR R D.length l (num s) (num t)).2 := by
  simp only [f62_0, f62_0g, J62_0_0, J62_0_0g]
  rw [f109_eq hR hb]
  by_cases he : chE D R s t = 0
  · rw [if_neg (by simp [he]), if_neg (by simp [he])]
    have hc := chE_ok he
    simp only [List.length_map, seqR]
    by_cases h1 : 1000 < l.length
    · have : (1000 : Int) < (l.length : Int) := by omega
      simp [h1, this]
    · have h1' : ¬ (1000 : Int) < (l.length : Int) := by omega
      simp only [h1, h1', decide_false, cK_false, if_false, L62_0_2]
      have hf := fuel_ge
      have := R62 (α := α) (D := D) (R := R) hc.gc rfl (l := l) (by omega) (k1 := fun x60 => k 0 x60) (fin := fun x61 => cK (x61 != (num t : Int)) (k 0 23) (k ((l.length : Nat) : Int) 0)) (fun _ _ _ => rfl) l.length 0 fuel (num s) (by omega) (by omega) hc.sn
      refine Eq.trans this ?_
      rw [List.drop_zero]
      cases wlk R D.length l (num s) with
      | inl e => rfl
      | inr p =>
        simp only
        by_cases hp : p = num t
        · subst hp; simp
        · have : ((p : Int) != (num t : Int)) = true := by simp; omega
          rw [this, if_neg hp]; rfl
  · rw [if_pos he, if_pos he]
    have : (chE D R s t != 0) = true := by simpa using he
    rw [this]; rfl

end

end Go.AM.K
