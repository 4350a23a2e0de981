/- Chapter 8: the distances of both texts. -/
import Derived.Test.YtcidonjhifjpaaaKC7
import Derived.Test.YtcidonjhifjpaaaKD2
namespace Go.AM.K
variable {α : Type}
set_option linter.unusedVariables false
set_option linter.unusedSimpArgs false

section
variable {D : List ByteArray} {R : List Rule} {s t : List Bool}

theorem flN {l : List Int} {x : Option α} : flatK [l.map rI1] x = x := flatK_map (enc := rI1) (fun _ => rfl)
theorem flN2 {l m : List Int} {x : Option α} : flatK [l.map rI1, m.map rI1] x = x := by
  have h : ∀ l : List Int, flatRows (l.map rI1) = true := fun l => by simp only [flatRows, List.all_map]; exact List.all_eq_true.2 fun a _ => rfl
  simp [flatK, h]
theorem rep_set {N i : Nat} (h : i < N) {a b : Int} : (List.replicate i a ++ List.replicate (N - i) b).set i a = List.replicate (i + 1) a ++ List.replicate (N - (i + 1)) b := by
  rw [List.set_append_right _ _ (by simp), List.length_replicate, Nat.sub_self, show N - i = (N - (i + 1)) + 1 by omega, List.replicate_succ, List.set_cons_zero, List.replicate_succ', List.append_assoc]; rfl

/-! ### The document's -/

def Rg (N : Nat) (L : List Int) : Prop := L.length = N ∧ ∀ x, x < N → 0 ≤ lb L x ∧ lb L x ≤ 1000
theorem Rg.inS {d n j : Nat} {p : Bool × List Int} (hn : n < 2 ^ d) (hj : j < d) (h : Rg (2 ^ d) p.2) : Rg (2 ^ d) (inS n j p).2 := by
  unfold Go.AM.inS
  split
  · have h1 := h.2 n hn
    have h2 := h.2 _ (xor_lt hn hj)
    refine ⟨by simpa using h.1, fun x hx => ?_⟩
    rw [lb, get_set (by rw [h.1]; exact hn)]
    split
    · omega
    · exact h.2 x hx
  · exact h
theorem Rg.itrS {d n : Nat} {p : Bool × List Int} (hn : n < 2 ^ d) (h : Rg (2 ^ d) p.2) (k : Nat) (hk : k ≤ d) : Rg (2 ^ d) (itr (Go.AM.inS n) k p).2 :=
  itr_inv (f := Go.AM.inS n) (I := fun _ p => Rg (2 ^ d) p.2) k (fun j p hj hp => hp.inS hn (by omega)) h
theorem Rg.md {S : Nat → Bool} {d n : Nat} {p : Bool × List Int} (hn : n < 2 ^ d) (h : Rg (2 ^ d) p.2) : Rg (2 ^ d) (mdS S d n p).2 := by
  unfold mdS
  split
  · exact h.itrS hn d (Nat.le_refl d)
  · exact h
theorem Rg.itrM {S : Nat → Bool} {d : Nat} {p : Bool × List Int} (h : Rg (2 ^ d) p.2) (k : Nat) (hk : k ≤ 2 ^ d) : Rg (2 ^ d) (itr (mdS S d) k p).2 :=
  itr_inv (f := mdS S d) (I := fun _ p => Rg (2 ^ d) p.2) k (fun j p hj hp => hp.md (by omega)) h

theorem ixK_N {L : List Int} {i : Nat} (h : i < L.length) {x : Option α} : ixK (L.map rI1) (i : Int) 1 x = x := ixK_m (enc := rI1) (fun _ => rfl) (by omega) (by omega)

theorem L113_2 (hg : GC D R) {n : Nat} (hn : n < 2 ^ D.length) {p : Bool × List Int} (h : Rg (2 ^ D.length) p.2) {k1 : Bool → Int → Bool → Rows → Option α} {fin : Bool → Rows → Option α} (hk : ∀ a b c e, k1 a b c e = fin a e) :
    L113_0_2 α (n : Int) (D.map rS) ((lst D.length n).map rB1) k1 p.1 0 (p.2.map rI1) = fin (itr (Go.AM.inS n) D.length p).1 ((itr (Go.AM.inS n) D.length p).2.map rI1) := by
  have h8 := hg.d8
  simp only [L113_0_2]
  refine loopF0 (N := D.length) (R := fun m i (q : Bool × Rows) => R113_0_2 α (n : Int) (D.map rS) ((lst D.length n).map rB1) k1 m q.1 i q.2) (st := fun i => ((itr (Go.AM.inS n) i p).1, (itr (Go.AM.inS n) i p).2.map rI1)) (by omega) (fun m j hj => ?_) (fun m => ?_)
  · simp only [R113_0_2, S113_0_2, S113_0_2g, List.length_map, lt_len, hj, decide_true, cK_true]
    have hr := h.itrS hn j (by omega)
    have hm := xor_lt hn hj
    have e : itr (Go.AM.inS n) (j + 1) p = Go.AM.inS n j (itr (Go.AM.inS n) j p) := rfl
    rw [e]
    generalize itr (Go.AM.inS n) j p = q at hr ⊢
    have h1 : 0 ≤ q.2.getD n 0 ∧ q.2.getD n 0 ≤ 1000 := hr.2 n hn
    have h2 : 0 ≤ q.2.getD (n ^^^ 2 ^ j) 0 ∧ q.2.getD (n ^^^ 2 ^ j) 0 ≤ 1000 := hr.2 _ hm
    have hl1 : n < q.2.length := by rw [hr.1]; exact hn
    have hl2 : n ^^^ 2 ^ j < q.2.length := by rw [hr.1]; exact hm
    rw [f53_eq (by simp; omega) (by omega) (by simp; omega), Int.toNat_natCast, lst_flp hn hj, flB, f114_eq (by simp; omega), num_lst hm, ixK_N hl2, Int.toNat_natCast, ldK_N hl2, ixK_N hl1, Int.toNat_natCast, ldK_N hl1, w64_su hj (by omega), w64_in (n := q.2.getD n 0 - 1) (by omega) (by omega)]
    unfold Go.AM.inS
    by_cases hc : lb q.2 (n ^^^ 2 ^ j) < lb q.2 n - 1
    · rw [if_pos hc, decide_eq_true hc, cK_true, ixK_N hl2, ldK_N hl2, ixK_N hl1, stK_N hl1, set_N hl1, w64_in (n := q.2.getD (n ^^^ 2 ^ j) 0 + 1) (by omega) (by omega)]
    · rw [if_neg hc, decide_eq_false hc, cK_false]
  · simp only [R113_0_2, S113_0_2, S113_0_2g, List.length_map, Int.lt_irrefl, decide_false, cK_false, hk]

theorem L113_3 (hg : GC D R) {p : Bool × List Int} (h : Rg (2 ^ D.length) p.2) {k1 : Bool → Int → Bool → Rows → Option α} {fin : Bool → Rows → Option α} (hk : ∀ a b c e, k1 a b c e = fin a e) :
    L113_0_3 α ((2 ^ D.length : Nat) : Int) (D.map rS) (R.map rR) k1 p.1 0 (p.2.map rI1) = fin (itr (mdS (sfN R) D.length) (2 ^ D.length) p).1 ((itr (mdS (sfN R) D.length) (2 ^ D.length) p).2.map rI1) := by
  have h8 := hg.d8
  have hr30 := hg.r30
  have h256 := pow8 h8
  simp only [L113_0_3]
  refine loopF0 (N := 2 ^ D.length) (R := fun m i (q : Bool × Rows) => R113_0_3 α ((2 ^ D.length : Nat) : Int) (D.map rS) (R.map rR) k1 m q.1 i q.2) (st := fun i => ((itr (mdS (sfN R) D.length) i p).1, (itr (mdS (sfN R) D.length) i p).2.map rI1)) (by omega) (fun m n hn => ?_) (fun m => ?_)
  · simp only [R113_0_3, S113_0_3, S113_0_3g, List.length_map, lt_len, hn, decide_true, cK_true]
    have hr := h.itrM (S := sfN R) n (by omega)
    have e : itr (mdS (sfN R) D.length) (n + 1) p = mdS (sfN R) D.length n (itr (mdS (sfN R) D.length) n p) := rfl
    rw [e]
    generalize itr (mdS (sfN R) D.length) n p = q at hr ⊢
    rw [f115_eq (by omega) (by omega), f52_n (by simp) hg.rin (by omega), num_lst hn, brkI_pos, w64_su hn (by omega)]
    show cK (!sfN R n) _ _ = _
    unfold mdS
    cases hs : sfN R n with
    | false => simp
    | true =>
      simp only [Bool.not_true, cK_false, if_true]
      exact L113_2 hg hn hr (fin := fun a e => R113_0_3 α ((2 ^ D.length : Nat) : Int) (D.map rS) (R.map rR) k1 m a ((n + 1 : Nat) : Int) e) (fun _ _ _ _ => rfl)
  · simp only [R113_0_3, S113_0_3, S113_0_3g, Int.lt_irrefl, decide_false, cK_false, hk]

theorem R113_4 (hg : GC D R) {src : Nat} {Ls : List Int} (hL : IsD (sfN R) D.length Ls src) {k1 k2 : Int → Bool → Rows → Option α} {fin : Rows → Option α} (hk : ∀ a b c, k1 a b c = fin c) (hk2 : ∀ a b c, k2 a b c = fin c) : ∀ (m r n : Nat) (L : List Int), r + m = 2 ^ D.length → m < n → Inv (sfN R) D.length L src → RelD (sfN R) D.length L r →
    R113_0_4 α ((2 ^ D.length : Nat) : Int) (D.map rS) (R.map rR) k1 k2 n (r : Int) (L.map rI1) = fin (Ls.map rI1) := by
  have h256 := pow8 hg.d8
  intro m
  induction m with
  | zero =>
    intro r n L h1 h2 hi hr
    obtain ⟨n, rfl⟩ : ∃ k, n = k + 1 := ⟨n - 1, by omega⟩
    have : r = 2 ^ D.length := by omega
    subst this
    have := (hi.isD (hi.full hr)).eq hL
    subst this
    simp only [R113_0_4, S113_0_4, S113_0_4g, Int.lt_irrefl, decide_false, cK_false, hk2]
  | succ m ih =>
    intro r n L h1 h2 hi hr
    obtain ⟨n, rfl⟩ : ∃ k, n = k + 1 := ⟨n - 1, by omega⟩
    have hlt : r < 2 ^ D.length := by omega
    simp only [R113_0_4, S113_0_4, S113_0_4g, lt_len, hlt, decide_true, cK_true]
    have hrd := rnd_ok hi hr
    rw [L113_3 hg (p := (false, L)) ⟨hi.len, hi.rng⟩ (fin := fun c L' => cK (!c) (fin L') (R113_0_4 α ((2 ^ D.length : Nat) : Int) (D.map rS) (R.map rR) k1 k2 n ((r + 1 : Nat) : Int) L')) (fun a b c e => by rw [hk, w64_su hlt (by omega)])]
    show cK (!(rnd (sfN R) D.length L).1) (fin ((rnd (sfN R) D.length L).2.map rI1)) (R113_0_4 α _ _ _ _ _ n _ ((rnd (sfN R) D.length L).2.map rI1)) = _
    cases hc : (rnd (sfN R) D.length L).1 with
    | false =>
      simp only [Bool.not_false, cK_true]
      obtain ⟨e1, e2⟩ := hrd.2.2 hc
      rw [e1, (hi.isD e2).eq hL]
    | true =>
      simp only [Bool.not_true, cK_false]
      exact ih (r + 1) n _ (by omega) (by omega) hrd.1 (by have := hrd.2.1; rwa [show ((r : Int) + 1) = ((r + 1 : Nat) : Int) by omega] at this)

theorem f113_eq (hg : GC D R) (ht : t.length = D.length) (hss : sfN R (num t) = true) {L : List Int} (hL : IsD (sfN R) D.length L (num t)) {k : Rows → Option α} : f113_0 α (D.map rS) (R.map rR) (t.map rB1) k = k (L.map rI1) := by
  have h8 := hg.d8
  have h256 := pow8 h8
  have hp := Nat.two_pow_pos D.length
  simp only [f113_0, f113_0g, L113_0_0]
  refine loopF0 (N := D.length) (R := fun n i acc => R113_0_0 α (D.map rS) _ n acc i) (st := fun i => ((2 ^ i : Nat) : Int)) (by omega) (fun n i hi => ?_) (fun n => ?_)
  · simp only [R113_0_0, S113_0_0, S113_0_0g, List.length_map, lt_len, hi, decide_true, cK_true]
    have h20 : 2 ^ i ≤ 2 ^ 8 := Nat.pow_le_pow_right (by decide) (by omega)
    have hp := Nat.two_pow_pos i
    rw [w64_su hi (by omega), show w64 (2 * ((2 ^ i : Nat) : Int)) = ((2 ^ (i + 1) : Nat) : Int) by rw [w64_in (by omega) (by omega), Nat.pow_succ]; omega]
  · simp only [R113_0_0, S113_0_0, S113_0_0g, List.length_map, Int.lt_irrefl, decide_false, cK_false]
    have hgk : decide ((0 : Int) ≤ ((2 ^ D.length : Nat) : Int) ∧ ((2 ^ D.length : Nat) : Int) ≤ ((2 ^ D.length : Nat) : Int) ∧ 8 * ((2 ^ D.length : Nat) : Int) ≤ 140737488355328 ∧ ((2 ^ D.length : Nat) : Int) ≤ 9223372036854775807) = true := decide_eq_true ⟨by omega, by omega, by omega, by omega⟩
    rw [hgk, gK_true, Int.toNat_natCast]
    simp only [L113_0_1]
    have e := loopF0 (N := 2 ^ D.length) (R := fun n i (q : Rows) => R113_0_1 α ((2 ^ D.length : Nat) : Int) (fun _ _ x23 => f114_0 α (t.map rB1) fun x25 => ixK x23 x25 1 (stK x23 (Int.toNat x25) 0 1 (L113_0_4 α ((2 ^ D.length : Nat) : Int) (D.map rS) (R.map rR) (fun _ _ x69 => k x69) (fun _ _ x72 => k x72) 0 (List.set x23 (Int.toNat x25) (splice (rowAt x23 (Int.toNat x25)) 0 [DC.v (.int .i64 0)]))))) n i q) (st := fun i => (List.replicate i (1000 : Int) ++ List.replicate (2 ^ D.length - i) 0).map rI1) (fin := k (L.map rI1)) (by omega) (fun n i hi => ?_) (fun n => ?_)
    · simpa using e
    · have hl : i < (List.replicate i (1000 : Int) ++ List.replicate (2 ^ D.length - i) 0).length := by simp; omega
      simp only [R113_0_1, S113_0_1, S113_0_1g, lt_len, hi, decide_true, cK_true, Int.toNat_natCast]
      rw [ixK_N hl, stK_N hl, set_N hl, rep_set hi, w64_su hi (by omega)]
    · simp only [R113_0_1, S113_0_1, S113_0_1g, Int.lt_irrefl, decide_false, cK_false, Nat.sub_self, List.replicate_zero, List.append_nil]
      have hnt : num t < 2 ^ D.length := by rw [← ht]; exact num_lt t
      have hl : num t < (List.replicate (2 ^ D.length) (1000 : Int)).length := by simpa using hnt
      rw [f114_eq (by omega), Int.toNat_natCast, ixK_N hl, stK_N hl, set_N hl]
      simp only [L113_0_4]
      have hf := fuel_ge
      have h0 := InE.init (S := sfN R) hnt hss
      exact R113_4 hg hL (fin := k) (fun _ _ _ => rfl) (fun _ _ _ => rfl) (2 ^ D.length) 0 fuel _ (by omega) (by omega) h0.inv (fun n i hn hi h1 h2 h3 => by have := h0.rng _ (xor_lt hn hi); omega)

/-! ### The program's -/

theorem V110 {d x : Nat} (hx : x < 2 ^ d) (hd : d ≤ 8) {L : List Int} {q : List Nat} (hall : ∀ j, j ≤ d → (itr (bst (sfN R) x) j (L, q)).1.length = 2 ^ d ∧ 0 ≤ lb (itr (bst (sfN R) x) j (L, q)).1 x ∧ lb (itr (bst (sfN R) x) j (L, q)).1 x ≤ 1000 ∧ (itr (bst (sfN R) x) j (L, q)).2.length ≤ 1000000) {k1 : Rows → Rows → Option α} : ∀ (m j : Nat), j + m = d →
    V110_0_0 α (x : Int) k1 ((List.range' j m).filterMap (nxF R x)) ((itr (bst (sfN R) x) j (L, q)).1.map rI1) (((itr (bst (sfN R) x) j (L, q)).2.map fun n : Nat => (n : Int)).map rI1) =
      k1 ((itr (bst (sfN R) x) d (L, q)).1.map rI1) (((itr (bst (sfN R) x) d (L, q)).2.map fun n : Nat => (n : Int)).map rI1)
  | 0, j, h => by
    have : j = d := by omega
    subst this; rfl
  | m + 1, j, h => by
    have ih := V110 hx hd hall (k1 := k1) m (j + 1) (by omega)
    have hj : j < d := by omega
    have hm := xor_lt hx hj
    obtain ⟨h1, h2, h3, h4⟩ := hall j (by omega)
    have e : itr (bst (sfN R) x) (j + 1) (L, q) = bst (sfN R) x j (itr (bst (sfN R) x) j (L, q)) := rfl
    rw [e] at ih
    generalize itr (bst (sfN R) x) j (L, q) = p at h1 h2 h3 h4 ih ⊢
    have h2' : 0 ≤ p.1.getD x 0 := h2
    have h3' : p.1.getD x 0 ≤ 1000 := h3
    have hl1 : x < p.1.length := by rw [h1]; exact hx
    have hl2 : x ^^^ 2 ^ j < p.1.length := by rw [h1]; exact hm
    rw [List.range'_succ]
    unfold bst at ih
    cases hs : sfN R (x ^^^ 2 ^ j) with
    | false =>
      have e : nxF R x j = none := by unfold nxF; rw [hs]; rfl
      rw [List.filterMap_cons_none e]
      rw [if_neg (by simp [hs])] at ih
      exact ih
    | true =>
      have e : nxF R x j = some (prI (j : Int) ((x ^^^ 2 ^ j : Nat) : Int)) := by unfold nxF; rw [hs]; rfl
      rw [List.filterMap_cons_some e]
      rw [if_pos hs] at ih
      simp only [V110_0_0, S110_0_0, S110_0_0g, prI]
      rw [ixK_N hl2, Int.toNat_natCast, ldK_N hl2]
      by_cases hq : lb p.1 (x ^^^ 2 ^ j) = 1000
      · rw [if_pos hq] at ih
        have hq' : (p.1.getD (x ^^^ 2 ^ j) 0 == 1000) = true := beq_iff_eq.2 hq
        rw [hq', cK_true, ixK_N hl1, Int.toNat_natCast, ldK_N hl1, ixK_N hl2, stK_N hl2, set_N hl2, w64_in (n := p.1.getD x 0 + 1) (by omega) (by omega),
          show [[DC.v (Value.int .i64 ((x ^^^ 2 ^ j : Nat) : Int))]] = [((x ^^^ 2 ^ j : Nat) : Int)].map rI1 from rfl, apOk_of (enc := rI1) (fun _ => rfl) (by simp; omega) (by simp; omega), gK_true]
        simp only [List.map_append] at ih ⊢
        exact ih
      · rw [if_neg hq] at ih
        have hq' : (p.1.getD (x ^^^ 2 ^ j) 0 == 1000) = false := beq_false_of_ne hq
        rw [hq', cK_false]
        exact ih

theorem R110 (hg : GC D R) {src : Nat} {Ls : List Int} (hL : IsD (sfN R) D.length Ls src) {k1 : Bool → Rows → Rows → Option α} {fin : Rows → Option α} (hk : ∀ a b c, k1 a b c = fin b) : ∀ (mu n : Nat) (L : List Int) (q : List Nat), mu < n → mu ≤ 1000 → BI (sfN R) D.length src L q → q.length + far L = mu →
    R110_0_1 α (D.map rS) (R.map rR) k1 n (L.map rI1) ((q.map fun n : Nat => (n : Int)).map rI1) = fin (Ls.map rI1) := by
  have h8 := hg.d8
  have h256 := pow8 h8
  intro mu
  induction mu with
  | zero =>
    intro n L q hn hmu b h
    obtain ⟨n, rfl⟩ : ∃ k, n = k + 1 := ⟨n - 1, by omega⟩
    have : q = [] := List.length_eq_zero_iff.1 (by omega)
    subst this
    rw [b.fin.eq hL]
    simp only [R110_0_1, S110_0_1, S110_0_1g, List.map_nil, List.length_nil, hk]
    rfl
  | succ mu ih =>
    intro n L q hn hmu b h
    obtain ⟨n, rfl⟩ : ∃ k, n = k + 1 := ⟨n - 1, by omega⟩
    cases q with
    | nil =>
      rw [b.fin.eq hL]
      simp only [R110_0_1, S110_0_1, S110_0_1g, List.map_nil, List.length_nil, hk]
      rfl
    | cons x q =>
      obtain ⟨h1, h2⟩ := b.pop h256
      obtain ⟨h', A, hh, hall⟩ := b.bj h256
      obtain ⟨hx, hxb⟩ := b.el x (by simp)
      have hpos : (0 : Int) < (((x :: q).length : Nat) : Int) := by simp only [List.length_cons]; omega
      simp only [List.length_cons] at h
      simp only [R110_0_1, S110_0_1, S110_0_1g, List.length_map, hpos, decide_true, cK_true]
      have hgk : decide ((0 : Int) ≤ 1 ∧ 1 ≤ (((x :: q).length : Nat) : Int) ∧ (((x :: q).length : Nat) : Int) ≤ (((x :: q).length : Nat) : Int)) = true := decide_eq_true ⟨by omega, by omega, by omega⟩
      rw [ixK_m (enc := rI1) (l := (x :: q).map fun n : Nat => (n : Int)) (x := 0) (fun _ => rfl) (by omega) (by simp), ldK_N (s := (x :: q).map fun n : Nat => (n : Int)) (i := 0) (by simp), hgk, gK_true]
      simp only [f111_0, f111_0g, List.map_cons, List.getD_cons_zero, Int.toNat_natCast]
      rw [q_eq hg hx, show List.drop 1 (List.take (x :: q).length (rI1 (x : Int) :: List.map rI1 (List.map (fun n : Nat => (n : Int)) q))) = List.map rI1 (List.map (fun n : Nat => (n : Int)) q) by
        rw [List.take_of_length_le (by simp)]; rfl]
      have hv := V110 (R := R) (x := x) hx h8 (L := L) (q := q) (fun j hj => by
        have b := hall j hj
        have h3 := b.inv.rng x hx
        have h4 := b.mu
        exact ⟨b.inv.len, h3.1, h3.2, by omega⟩) (k1 := fun x32 x33 => R110_0_1 α (D.map rS) (R.map rR) k1 n x32 x33) D.length 0 (by omega)
      refine Eq.trans hv ?_
      exact ih n _ _ (by omega) (by omega) h1 (by omega)

theorem f130_eq {d : Nat} (hd : d ≤ 5) {k : Rows → Option α} : f130_0 α [[DC.v (.int .i64 1000)]] ((2 ^ d : Nat) : Int) k = k ((List.replicate (2 ^ d) (1000 : Int)).map rI1) := by
  obtain ⟨m, hm⟩ : ∃ m, fuel = m + 10 := ⟨fuel - 10, by have := fuel_ge; omega⟩
  simp only [f130_0, f130_0g, L130_0_0, hm]
  have hd' : d = 0 ∨ d = 1 ∨ d = 2 ∨ d = 3 ∨ d = 4 ∨ d = 5 := by omega
  rcases hd' with rfl | rfl | rfl | rfl | rfl | rfl
  · rfl
  · rfl
  · rfl
  · rfl
  · rfl
  · rfl

theorem f110_eq (hg : GC D R) (h5 : D.length ≤ 5) {src : Nat} (hs : src < 2 ^ D.length) (hss : sfN R src = true) {L : List Int} (hL : IsD (sfN R) D.length L src) {k : Rows → Option α} : f110_0 α (D.map rS) (R.map rR) (src : Int) k = k (L.map rI1) := by
  have h256 := pow8 hg.d8
  simp only [f110_0, f110_0g, List.length_map]
  rw [(pow_w (α := α) (d := D.length) (by omega)).1, (pow_w (α := α) (d := D.length) (by omega)).2, f130_eq h5, flN]
  have hl : src < (List.replicate (2 ^ D.length) (1000 : Int)).length := by simpa using hs
  rw [ixK_N hl, Int.toNat_natCast, stK_N hl, set_N hl]
  simp only [L110_0_1]
  have hf := fuel_ge
  have b := BI.init (S := sfN R) hs hss
  have hfar : far ((List.replicate (2 ^ D.length) (1000 : Int)).set src 0) ≤ 2 ^ D.length := by
    have := List.count_le_length (a := (1000 : Int)) (l := (List.replicate (2 ^ D.length) (1000 : Int)).set src 0)
    simpa [far] using this
  exact R110 hg hL (fin := k) (fun _ _ _ => rfl) ([src].length + far ((List.replicate (2 ^ D.length) (1000 : Int)).set src 0)) fuel _ [src] (by simp only [List.length_singleton]; omega) (by simp only [List.length_singleton]; omega) b rfl
end

end Go.AM.K
