/- Distances in a graph of switches. Plain: no program. -/
import Derived.Test.YtcidonjhifjpaaaKC2
namespace Go.AM
set_option linter.unusedVariables false
set_option linter.unusedSimpArgs false

/-- As many different numbers want as many places. -/
theorem pig : ∀ (k : Nat) (l : List Int), (∀ j, j < k → ((j : Nat) : Int) ∈ l) → k ≤ l.length
  | 0, l, _ => Nat.zero_le _
  | k + 1, l, h => by
    have hk := h k (by omega)
    have := pig k (l.erase (k : Int)) fun j hj => (List.mem_erase_of_ne (by omega)).2 (h j (by omega))
    rw [List.length_erase_of_mem hk] at this
    have : 0 < l.length := List.length_pos_of_mem hk
    omega
theorem mem_get {L : List Int} {n : Nat} (h : n < L.length) : L.getD n 0 ∈ L := by
  rw [List.getD_eq_getElem?_getD, List.getElem?_eq_getElem h]; exact List.getElem_mem h
theorem get_set {L : List Int} {n m : Nat} {v : Int} (h : n < L.length) : (L.set n v).getD m 0 = if m = n then v else L.getD m 0 := by
  simp only [List.getD_eq_getElem?_getD, List.getElem?_set]
  by_cases hm : n = m
  · subst hm; simp [h]
  · have : ¬ m = n := fun h' => hm h'.symm
    simp [hm, this]
theorem ext_get {L M : List Int} (hl : L.length = M.length) (h : ∀ n, n < L.length → L.getD n 0 = M.getD n 0) : L = M := by
  refine List.ext_getElem hl fun j h1 h2 => ?_
  have := h j h1
  rwa [List.getD_eq_getElem?_getD, List.getD_eq_getElem?_getD, List.getElem?_eq_getElem h1, List.getElem?_eq_getElem h2] at this
theorem xor_bk (n i : Nat) : n ^^^ 2 ^ i ^^^ 2 ^ i = n := by rw [Nat.xor_assoc, Nat.xor_self, Nat.xor_zero]
theorem xor_ne (n i : Nat) : n ^^^ 2 ^ i ≠ n := by
  intro h
  have h1 : (n ^^^ 2 ^ i).testBit i = n.testBit i := by rw [h]
  rw [Nat.testBit_xor, Nat.testBit_two_pow] at h1
  cases hb : n.testBit i <;> simp [hb] at h1

section
variable {S : Nat → Bool} {d : Nat}

/-- The label of a state. -/
abbrev lb (L : List Int) (n : Nat) : Int := L.getD n 0

structure IsD (S : Nat → Bool) (d : Nat) (L : List Int) (src : Nat) : Prop where
  len : L.length = 2 ^ d
  rng : ∀ n, n < 2 ^ d → 0 ≤ lb L n ∧ lb L n ≤ 1000
  src0 : lb L src = 0
  srcN : src < 2 ^ d
  relax : ∀ n i, n < 2 ^ d → i < d → S n = true → S (n ^^^ 2 ^ i) = true → lb L (n ^^^ 2 ^ i) ≤ lb L n + 1
  pred : ∀ n, n < 2 ^ d → lb L n < 1000 → S n = true ∧ (n = src ∨ ∃ i, i < d ∧ S (n ^^^ 2 ^ i) = true ∧ lb L (n ^^^ 2 ^ i) + 1 = lb L n)

theorem IsD.le {L M : List Int} {src : Nat} (f : IsD S d L src) (g : IsD S d M src) : ∀ (k n : Nat), n < 2 ^ d → lb M n = k → lb L n ≤ k := by
  intro k
  induction k with
  | zero =>
    intro n hn hk
    obtain ⟨h1, h2⟩ := g.pred n hn (by omega)
    rcases h2 with rfl | ⟨i, h3, h4, h5⟩
    · rw [f.src0]; omega
    · have := (g.rng _ (xor_lt hn h3)).1; omega
  | succ k ih =>
    intro n hn hk
    by_cases hb : lb M n < 1000
    · obtain ⟨h1, h2⟩ := g.pred n hn hb
      rcases h2 with rfl | ⟨i, h3, h4, h5⟩
      · rw [f.src0]; omega
      · have h6 := ih _ (xor_lt hn h3) (by omega)
        have h7 := f.relax (n ^^^ 2 ^ i) i (xor_lt hn h3) h3 h4 (by rw [xor_bk]; exact h1)
        rw [xor_bk] at h7
        omega
    · have := (f.rng n hn).2; omega
theorem IsD.eq {L M : List Int} {src : Nat} (f : IsD S d L src) (g : IsD S d M src) : L = M := by
  refine ext_get (by rw [f.len, g.len]) fun n hn => ?_
  rw [f.len] at hn
  have h1 := (f.rng n hn).1
  have h2 := (g.rng n hn).1
  have h3 := f.le g (lb M n).toNat n hn (by omega)
  have h4 := g.le f (lb L n).toNat n hn (by omega)
  have : lb L n = lb M n := by omega
  exact this

/-- Both ways are as long. -/
theorem IsD.sym_le {L M : List Int} {a b : Nat} (f : IsD S d L a) (g : IsD S d M b) (hb : S b = true) : ∀ (k n : Nat), n < 2 ^ d → lb L n = k → k < 1000 → lb M a ≤ lb M n + k := by
  intro k
  induction k with
  | zero =>
    intro n hn hk hk2
    obtain ⟨h1, h2⟩ := f.pred n hn (by omega)
    rcases h2 with rfl | ⟨i, h3, h4, h5⟩
    · omega
    · have := (f.rng _ (xor_lt hn h3)).1; omega
  | succ k ih =>
    intro n hn hk hk2
    obtain ⟨h1, h2⟩ := f.pred n hn (by omega)
    rcases h2 with rfl | ⟨i, h3, h4, h5⟩
    · have := f.src0; omega
    · have h6 := ih _ (xor_lt hn h3) (by omega) (by omega)
      have h7 := g.relax n i hn h3 h1 h4
      omega
theorem IsD.sym {L M : List Int} {a b : Nat} (f : IsD S d L a) (g : IsD S d M b) (ha : S a = true) (hb : S b = true) : lb L b = lb M a := by
  have h1 := f.rng b g.srcN
  have h2 := g.rng a f.srcN
  have h3 : lb M a ≤ lb L b := by
    by_cases h : lb L b < 1000
    · have := f.sym_le g hb (lb L b).toNat b g.srcN (by omega) (by omega)
      rw [g.src0] at this; omega
    · omega
  have h4 : lb L b ≤ lb M a := by
    by_cases h : lb M a < 1000
    · have := g.sym_le f ha (lb M a).toNat a f.srcN (by omega) (by omega)
      rw [f.src0] at this; omega
    · omega
  omega

/-! ### What holds on the way -/

/-- Labels so far: each has one that is at least one less behind a switch. -/
structure Inv (S : Nat → Bool) (d : Nat) (L : List Int) (src : Nat) : Prop where
  len : L.length = 2 ^ d
  rng : ∀ n, n < 2 ^ d → 0 ≤ lb L n ∧ lb L n ≤ 1000
  src0 : lb L src = 0
  srcN : src < 2 ^ d
  pred : ∀ n, n < 2 ^ d → lb L n < 1000 → S n = true ∧ (n = src ∨ ∃ i, i < d ∧ S (n ^^^ 2 ^ i) = true ∧ lb L (n ^^^ 2 ^ i) + 1 ≤ lb L n)
/-- Up to a number nothing is too great. -/
def RelD (S : Nat → Bool) (d : Nat) (L : List Int) (r : Int) : Prop := ∀ n i, n < 2 ^ d → i < d → S n = true → S (n ^^^ 2 ^ i) = true → lb L (n ^^^ 2 ^ i) < r → lb L n ≤ lb L (n ^^^ 2 ^ i) + 1

theorem Inv.lvl {L : List Int} {src : Nat} (h : Inv S d L src) {r : Nat} (hr : RelD S d L r) {k : Nat} (hk : k ≤ r) : ∀ (v n : Nat), n < 2 ^ d → lb L n = v → v < 1000 → k ≤ v → ∃ y, y < 2 ^ d ∧ lb L y = k := by
  intro v
  induction v using Nat.strongRecOn with
  | _ v ih =>
    intro n hn hv hv2 hkv
    by_cases he : k = v
    · exact ⟨n, hn, by rw [he]; exact hv⟩
    · obtain ⟨h1, h2⟩ := h.pred n hn (by omega)
      rcases h2 with rfl | ⟨i, h3, h4, h5⟩
      · have := h.src0; omega
      · have h6 := h.rng _ (xor_lt hn h3)
        by_cases hq : (k : Int) ≤ lb L (n ^^^ 2 ^ i)
        · exact ih (lb L (n ^^^ 2 ^ i)).toNat (by omega) _ (xor_lt hn h3) (by omega) (by omega) (by omega)
        · have := hr n i hn h3 h1 h4 (by omega)
          omega
/-- Relaxed up to the number of states: relaxed. -/
theorem Inv.full {L : List Int} {src : Nat} (h : Inv S d L src) (hr : RelD S d L (2 ^ d : Nat)) : RelD S d L 1000 := by
  intro n i hn hi h1 h2 h3
  by_cases hq : lb L (n ^^^ 2 ^ i) < ((2 ^ d : Nat) : Int)
  · exact hr n i hn hi h1 h2 hq
  · exfalso
    have h4 := h.rng _ (xor_lt hn hi)
    have h5 := pig (2 ^ d + 1) L fun j hj => by
      obtain ⟨y, h6, h7⟩ := h.lvl (r := 2 ^ d) hr (k := j) (by omega) (lb L (n ^^^ 2 ^ i)).toNat _ (xor_lt hn hi) (by omega) (by omega) (by omega)
      rw [← h7]; exact mem_get (by rw [h.len]; exact h6)
    rw [h.len] at h5
    omega
theorem Inv.isD {L : List Int} {src : Nat} (h : Inv S d L src) (hr : RelD S d L 1000) : IsD S d L src := by
  refine ⟨h.len, h.rng, h.src0, h.srcN, fun n i hn hi h1 h2 => ?_, fun n hn hb => ?_⟩
  · by_cases hq : lb L n < 1000
    · have := hr (n ^^^ 2 ^ i) i (xor_lt hn hi) hi h2 (by rw [xor_bk]; exact h1) (by rw [xor_bk]; exact hq)
      rw [xor_bk] at this; exact this
    · have := (h.rng _ (xor_lt hn hi)).2; omega
  · obtain ⟨h1, h2⟩ := h.pred n hn hb
    refine ⟨h1, ?_⟩
    rcases h2 with h2 | ⟨i, h3, h4, h5⟩
    · exact .inl h2
    · have := hr n i hn h3 h1 h4 (by omega)
      exact .inr ⟨i, h3, h4, by omega⟩

/-! ### Rounds -/

def itr {σ : Type} (f : Nat → σ → σ) : Nat → σ → σ
  | 0, s => s
  | i + 1, s => f i (itr f i s)
theorem itr_inv {σ : Type} {f : Nat → σ → σ} {I : Nat → σ → Prop} {s : σ} : ∀ (N : Nat), (∀ i s, i < N → I i s → I (i + 1) (f i s)) → I 0 s → I N (itr f N s)
  | 0, _, h => h
  | N + 1, hs, h => hs N _ (by omega) (itr_inv N (fun i s hi => hs i s (by omega)) h)

def inS (n : Nat) (j : Nat) (p : Bool × List Int) : Bool × List Int := if lb p.2 (n ^^^ 2 ^ j) < lb p.2 n - 1 then (true, p.2.set n (lb p.2 (n ^^^ 2 ^ j) + 1)) else p
def mdS (S : Nat → Bool) (d : Nat) (n : Nat) (p : Bool × List Int) : Bool × List Int := if S n = true then itr (inS n) d p else p
def rnd (S : Nat → Bool) (d : Nat) (L : List Int) : Bool × List Int := itr (mdS S d) (2 ^ d) (false, L)

structure RI (S : Nat → Bool) (d : Nat) (src : Nat) (r : Int) (L0 : List Int) (n j : Nat) (p : Bool × List Int) : Prop where
  inv : Inv S d p.2 src
  le : ∀ x, x < 2 ^ d → lb p.2 x ≤ lb L0 x
  ch : ∀ x, x < 2 ^ d → lb p.2 x ≠ lb L0 x → r + 1 ≤ lb p.2 x
  done : ∀ n' j', n' < 2 ^ d → j' < d → S n' = true → (n' < n ∨ n' = n ∧ j' < j) → (lb L0 (n' ^^^ 2 ^ j') ≤ r → lb p.2 n' ≤ lb L0 (n' ^^^ 2 ^ j') + 1) ∧ (p.1 = false → lb L0 n' ≤ lb L0 (n' ^^^ 2 ^ j') + 1)
  same : p.1 = false → p.2 = L0

theorem RI.step {src : Nat} {r : Int} {L0 : List Int} (hr : RelD S d L0 r) {n j : Nat} (hn : n < 2 ^ d) (hj : j < d) (hs : S n = true) {p : Bool × List Int} (h : RI S d src r L0 n j p) : RI S d src r L0 n (j + 1) (inS n j p) := by
  have hm := xor_lt hn hj
  have hne := xor_ne n j
  have hlen : n < p.2.length := by rw [h.inv.len]; exact hn
  have hrm := h.inv.rng _ hm
  have hrn := h.inv.rng _ hn
  unfold inS
  by_cases hc : lb p.2 (n ^^^ 2 ^ j) < lb p.2 n - 1
  · rw [if_pos hc]
    have hg : ∀ x, lb (p.2.set n (lb p.2 (n ^^^ 2 ^ j) + 1)) x = if x = n then lb p.2 (n ^^^ 2 ^ j) + 1 else lb p.2 x := fun x => get_set hlen
    have hsm := (h.inv.pred _ hm (by omega)).1
    have hnsrc : n ≠ src := by intro he; rw [he, h.inv.src0] at hc; rw [he] at hrm; omega
    have hv : r ≤ lb p.2 (n ^^^ 2 ^ j) := by
      by_cases hq : r ≤ lb p.2 (n ^^^ 2 ^ j)
      · exact hq
      · exfalso
        have h1 : lb p.2 (n ^^^ 2 ^ j) = lb L0 (n ^^^ 2 ^ j) := by
          by_cases he : lb p.2 (n ^^^ 2 ^ j) = lb L0 (n ^^^ 2 ^ j)
          · exact he
          · have := h.ch _ hm he; omega
        have h2 := hr n j hn hj hs hsm (by omega)
        have h3 := h.le n hn
        omega
    refine ⟨⟨by simpa using h.inv.len, fun x hx => ?_, ?_, h.inv.srcN, fun x hx hb => ?_⟩, fun x hx => ?_, fun x hx hne2 => ?_, fun n' j' h1 h2 h3 h4 => ⟨fun h5 => ?_, nofun⟩, nofun⟩
    · simp only [hg]; split
      · omega
      · exact h.inv.rng x hx
    · simp only [hg]; rw [if_neg (fun he => hnsrc he.symm)]; exact h.inv.src0
    · simp only [hg] at hb ⊢
      by_cases hxn : x = n
      · subst hxn
        refine ⟨hs, .inr ⟨j, hj, hsm, ?_⟩⟩
        rw [if_neg hne, if_pos rfl]; omega
      · rw [if_neg hxn] at hb ⊢
        obtain ⟨h1, h2⟩ := h.inv.pred x hx hb
        refine ⟨h1, ?_⟩
        rcases h2 with h2 | ⟨i, h3, h4, h5⟩
        · exact .inl h2
        · refine .inr ⟨i, h3, h4, ?_⟩
          split
          · rename_i he; rw [he] at h5; omega
          · exact h5
    · simp only [hg]; have := h.le x hx; split
      · rename_i he; subst he; omega
      · exact this
    · simp only [hg] at hne2 ⊢
      split
      · omega
      · rename_i he; rw [if_neg he] at hne2; exact h.ch x hx hne2
    · simp only [hg]
      by_cases hxn : n' = n
      · subst hxn
        rw [if_pos rfl]
        rcases Nat.lt_or_ge j' j with hlt | hge
        · have := (h.done n' j' h1 h2 h3 (.inr ⟨rfl, hlt⟩)).1 h5; omega
        · obtain rfl : j' = j := by omega
          have := h.le _ hm; omega
      · rw [if_neg hxn]
        exact (h.done n' j' h1 h2 h3 (by omega)).1 h5
  · rw [if_neg hc]
    refine ⟨h.inv, h.le, h.ch, fun n' j' h1 h2 h3 h4 => ?_, h.same⟩
    by_cases hq : n' < n ∨ n' = n ∧ j' < j
    · exact h.done n' j' h1 h2 h3 hq
    · obtain ⟨rfl, rfl⟩ : n' = n ∧ j' = j := by omega
      refine ⟨fun h5 => ?_, fun h5 => ?_⟩
      · have h6 := h.le _ hm
        by_cases he : lb p.2 (n' ^^^ 2 ^ j') = lb L0 (n' ^^^ 2 ^ j')
        · omega
        · have := h.ch _ hm he; omega
      · rw [h.same h5] at hc; omega
theorem RI.mid {src : Nat} {r : Int} {L0 : List Int} (hr : RelD S d L0 r) {n : Nat} (hn : n < 2 ^ d) {p : Bool × List Int} (h : RI S d src r L0 n 0 p) : RI S d src r L0 (n + 1) 0 (mdS S d n p) := by
  unfold mdS
  by_cases hs : S n = true
  · rw [if_pos hs]
    have := itr_inv (f := inS n) (I := fun j p => RI S d src r L0 n j p) d (fun j p hj hp => hp.step hr hn hj hs) h
    exact ⟨this.inv, this.le, this.ch, fun n' j' h1 h2 h3 h4 => this.done n' j' h1 h2 h3 (by omega), this.same⟩
  · rw [if_neg hs]
    refine ⟨h.inv, h.le, h.ch, fun n' j' h1 h2 h3 h4 => h.done n' j' h1 h2 h3 ?_, h.same⟩
    have : n' ≠ n := by intro he; rw [he] at h3; exact hs h3
    omega
/-- A round. -/
theorem rnd_ok {src : Nat} {r : Int} {L : List Int} (hi : Inv S d L src) (hr : RelD S d L r) : Inv S d (rnd S d L).2 src ∧ RelD S d (rnd S d L).2 (r + 1) ∧ ((rnd S d L).1 = false → (rnd S d L).2 = L ∧ RelD S d L 1000) := by
  have h0 : RI S d src r L 0 0 (false, L) := ⟨hi, fun _ _ => Int.le_refl _, fun x hx h => absurd rfl h, fun n' j' h1 h2 h3 h4 => by omega, fun _ => rfl⟩
  have h := itr_inv (f := mdS S d) (I := fun n p => RI S d src r L n 0 p) (2 ^ d) (fun n p hn hp => hp.mid hr hn) h0
  refine ⟨h.inv, fun n i hn hi' h1 h2 h3 => ?_, fun hc => ⟨h.same hc, fun n i hn hi' h1 h2 h3 => (h.done n i hn hi' h1 (.inl hn)).2 hc⟩⟩
  have hm := xor_lt hn hi'
  have : lb (rnd S d L).2 (n ^^^ 2 ^ i) = lb L (n ^^^ 2 ^ i) := by
    by_cases he : lb (rnd S d L).2 (n ^^^ 2 ^ i) = lb L (n ^^^ 2 ^ i)
    · exact he
    · have := h.ch _ hm he
      simp only [rnd] at h3
      omega
  rw [this]
  exact (h.done n i hn hi' h1 (.inl hn)).1 (by rw [← this]; omega)

end
end Go.AM
