/- Distances by a queue. Plain. -/
import Derived.Test.YtcidonjhifjpaaaKD1
namespace Go.AM
set_option linter.unusedVariables false
set_option linter.unusedSimpArgs false
section
variable {S : Nat → Bool} {d : Nat}

structure InE (S : Nat → Bool) (d : Nat) (L : List Int) (src : Nat) : Prop where
  len : L.length = 2 ^ d
  rng : ∀ n, n < 2 ^ d → 0 ≤ lb L n ∧ lb L n ≤ 1000
  src0 : lb L src = 0
  srcN : src < 2 ^ d
  pred : ∀ n, n < 2 ^ d → lb L n < 1000 → S n = true ∧ (n = src ∨ ∃ i, i < d ∧ S (n ^^^ 2 ^ i) = true ∧ lb L (n ^^^ 2 ^ i) + 1 = lb L n)

theorem InE.lvl {L : List Int} {src : Nat} (h : InE S d L src) {k : Nat} : ∀ (v n : Nat), n < 2 ^ d → lb L n = v → v < 1000 → k ≤ v → ∃ y, y < 2 ^ d ∧ lb L y = k := by
  intro v
  induction v with
  | zero => intro n hn hv _ hk; exact ⟨n, hn, by rw [hv]; congr 1; omega⟩
  | succ v ih =>
    intro n hn hv hv2 hk
    by_cases he : k = v + 1
    · exact ⟨n, hn, by rw [hv, he]⟩
    · obtain ⟨h1, h2⟩ := h.pred n hn (by omega)
      rcases h2 with rfl | ⟨i, h3, h4, h5⟩
      · have := h.src0; omega
      · exact ih _ (xor_lt hn h3) (by omega) (by omega) (by omega)
theorem InE.small {L : List Int} {src : Nat} (h : InE S d L src) {n : Nat} (hn : n < 2 ^ d) (hb : lb L n < 1000) : lb L n + 1 ≤ ((2 ^ d : Nat) : Int) := by
  have h4 := h.rng n hn
  have := pig ((lb L n).toNat + 1) L fun j hj => by
    obtain ⟨y, h6, h7⟩ := h.lvl (k := j) (lb L n).toNat n hn (by omega) (by omega) (by omega)
    rw [← h7]; exact mem_get (by rw [h.len]; exact h6)
  rw [h.len] at this
  omega

def far (L : List Int) : Nat := L.count 1000

structure BI (S : Nat → Bool) (d src : Nat) (L : List Int) (q : List Nat) : Prop where
  inv : InE S d L src
  el : ∀ x ∈ q, x < 2 ^ d ∧ lb L x < 1000
  ord : ∃ (h : Int) (A B : List Nat), q = A ++ B ∧ (∀ x ∈ A, lb L x = h) ∧ (∀ x ∈ B, lb L x = h + 1) ∧ ∀ n, n < 2 ^ d → lb L n < 1000 → lb L n ≤ h + 1
  done : ∀ n, n < 2 ^ d → lb L n < 1000 → n ∉ q → ∀ i, i < d → S (n ^^^ 2 ^ i) = true → lb L (n ^^^ 2 ^ i) ≤ lb L n + 1

structure BJ (S : Nat → Bool) (d src s : Nat) (h : Int) (A : List Nat) (mu j : Nat) (p : List Int × List Nat) : Prop where
  inv : InE S d p.1 src
  sl : lb p.1 s = h
  ord : ∃ B : List Nat, p.2 = A ++ B ∧ (∀ x ∈ A, lb p.1 x = h) ∧ (∀ x ∈ B, lb p.1 x = h + 1)
  el : ∀ x ∈ p.2, x < 2 ^ d ∧ lb p.1 x < 1000
  bnd : ∀ n, n < 2 ^ d → lb p.1 n < 1000 → lb p.1 n ≤ h + 1
  done : ∀ n, n < 2 ^ d → lb p.1 n < 1000 → n ∉ p.2 → n ≠ s → ∀ i, i < d → S (n ^^^ 2 ^ i) = true → lb p.1 (n ^^^ 2 ^ i) ≤ lb p.1 n + 1
  nb : ∀ i, i < j → S (s ^^^ 2 ^ i) = true → lb p.1 (s ^^^ 2 ^ i) < 1000
  mu : p.2.length + far p.1 = mu

def bst (S : Nat → Bool) (s j : Nat) (p : List Int × List Nat) : List Int × List Nat :=
  if S (s ^^^ 2 ^ j) = true then (if lb p.1 (s ^^^ 2 ^ j) = 1000 then (p.1.set (s ^^^ 2 ^ j) (lb p.1 s + 1), p.2 ++ [s ^^^ 2 ^ j]) else p) else p

theorem BJ.step {src s : Nat} {h : Int} {A : List Nat} {mu j : Nat} (hd : 2 ^ d ≤ 256) (hs : s < 2 ^ d) (hss : S s = true) (hh : h < 1000) (hj : j < d) {p : List Int × List Nat} (b : BJ S d src s h A mu j p) : BJ S d src s h A mu (j + 1) (bst S s j p) := by
  have hm := xor_lt hs hj
  have hne := xor_ne s j
  have hsm := b.inv.small hs (by rw [b.sl]; exact hh)
  rw [b.sl] at hsm
  have hlen : s ^^^ 2 ^ j < p.1.length := by rw [b.inv.len]; exact hm
  unfold bst
  by_cases h1 : S (s ^^^ 2 ^ j) = true
  · rw [if_pos h1]
    by_cases h2 : lb p.1 (s ^^^ 2 ^ j) = 1000
    · rw [if_pos h2, b.sl]
      have hg : ∀ x, lb (p.1.set (s ^^^ 2 ^ j) (h + 1)) x = if x = s ^^^ 2 ^ j then h + 1 else lb p.1 x := fun x => get_set hlen
      have h0 : 0 ≤ h := by have := b.inv.rng s hs; rw [b.sl] at this; exact this.1
      obtain ⟨B, hB1, hB2, hB3⟩ := b.ord
      have hmq : ∀ x ∈ p.2, x ≠ s ^^^ 2 ^ j := fun x hx he => by have := (b.el x hx).2; rw [he, h2] at this; omega
      refine ⟨⟨by simpa using b.inv.len, fun x hx => ?_, ?_, b.inv.srcN, fun x hx hb => ?_⟩, ?_, ⟨B ++ [s ^^^ 2 ^ j], ?_, fun x hx => ?_, fun x hx => ?_⟩, fun x hx => ?_, fun x hx hb => ?_, fun x hx hb hq hns i hi hsi => ?_, fun i hi hsi => ?_, ?_⟩
      · simp only [hg]; split
        · omega
        · exact b.inv.rng x hx
      · simp only [hg]; rw [if_neg (fun he => by have := b.inv.src0; rw [he, h2] at this; omega)]; exact b.inv.src0
      · simp only [hg] at hb ⊢
        by_cases hx2 : x = s ^^^ 2 ^ j
        · subst hx2
          refine ⟨h1, .inr ⟨j, hj, by rw [xor_bk]; exact hss, ?_⟩⟩
          rw [xor_bk, if_neg (fun he => hne he.symm), if_pos rfl, b.sl]
        · rw [if_neg hx2] at hb ⊢
          obtain ⟨h3, h4⟩ := b.inv.pred x hx hb
          refine ⟨h3, ?_⟩
          rcases h4 with h4 | ⟨i, h5, h6, h7⟩
          · exact .inl h4
          · refine .inr ⟨i, h5, h6, ?_⟩
            rw [if_neg (fun he => by rw [he, h2] at h7; omega)]; exact h7
      · simp only [hg]; rw [if_neg (fun he => hne he.symm)]; exact b.sl
      · simp only [hB1, List.append_assoc]
      · simp only [hg]
        rw [if_neg (hmq x (by rw [hB1]; exact List.mem_append_left _ hx))]; exact hB2 x hx
      · simp only [hg]
        rcases List.mem_append.1 hx with hx | hx
        · rw [if_neg (hmq x (by rw [hB1]; exact List.mem_append_right _ hx))]; exact hB3 x hx
        · rw [if_pos (List.mem_singleton.1 hx)]
      · simp only [hg]
        rcases List.mem_append.1 hx with hx | hx
        · rw [if_neg (hmq x hx)]; exact b.el x hx
        · rw [List.mem_singleton.1 hx, if_pos rfl]; exact ⟨hm, by omega⟩
      · simp only [hg] at hb ⊢
        split
        · omega
        · rename_i hx2; rw [if_neg hx2] at hb; exact b.bnd x hx hb
      · simp only [hg] at hb ⊢
        have hxm : x ≠ s ^^^ 2 ^ j := fun he => hq (List.mem_append_right _ (by simp [he]))
        have hxq : x ∉ p.2 := fun he => hq (List.mem_append_left _ he)
        rw [if_neg hxm] at hb ⊢
        have h3 := b.done x hx hb hxq hns i hi hsi
        have h4 := b.bnd x hx hb
        rw [if_neg (fun he => by rw [he, h2] at h3; omega)]; exact h3
      · simp only [hg]
        split
        · omega
        · rename_i hi2
          refine b.nb i ?_ hsi
          by_cases hij : i = j
          · subst hij; exact absurd rfl hi2
          · omega
      · have hge : p.1[s ^^^ 2 ^ j]'hlen = 1000 := by have := h2; rwa [lb, List.getD_eq_getElem?_getD, List.getElem?_eq_getElem hlen] at this
        have hc := List.count_set (a := h + 1) (b := (1000 : Int)) (l := p.1) (i := s ^^^ 2 ^ j) hlen
        have hpos : 0 < p.1.count 1000 := List.count_pos_iff.2 (by rw [← hge]; exact List.getElem_mem hlen)
        have e1 : (p.1[s ^^^ 2 ^ j]'hlen == 1000) = true := by rw [hge]; rfl
        have e2 : ((h + 1) == (1000 : Int)) = false := by simp; omega
        rw [e1, e2] at hc
        have := b.mu
        simp only [far, List.length_append, List.length_singleton] at this ⊢
        rw [hc]
        simp only [if_true, Bool.false_eq_true, if_false]
        omega
    · rw [if_neg h2]
      refine ⟨b.inv, b.sl, b.ord, b.el, b.bnd, b.done, fun i hi hsi => ?_, b.mu⟩
      by_cases hij : i = j
      · subst hij; have := b.inv.rng _ hm; omega
      · exact b.nb i (by omega) hsi
  · rw [if_neg h1]
    refine ⟨b.inv, b.sl, b.ord, b.el, b.bnd, b.done, fun i hi hsi => ?_, b.mu⟩
    by_cases hij : i = j
    · subst hij; exact absurd hsi h1
    · exact b.nb i (by omega) hsi

theorem BI.bj {src x : Nat} {q : List Nat} {L : List Int} (hd : 2 ^ d ≤ 256) (b : BI S d src L (x :: q)) : ∃ (h : Int) (A : List Nat), h < 1000 ∧ ∀ j, j ≤ d → BJ S d src x h A (q.length + far L) j (itr (bst S x) j (L, q)) := by
  obtain ⟨hx, hxb⟩ := b.el x (by simp)
  have hss := (b.inv.pred x hx hxb).1
  obtain ⟨h, A, hl, hA, hB⟩ : ∃ (h : Int) (A : List Nat), lb L x = h ∧ (∃ B : List Nat, q = A ++ B ∧ (∀ x ∈ A, lb L x = h) ∧ (∀ x ∈ B, lb L x = h + 1)) ∧ ∀ n, n < 2 ^ d → lb L n < 1000 → lb L n ≤ h + 1 := by
    obtain ⟨h, A, B, h1, h2, h3, h4⟩ := b.ord
    cases A with
    | nil =>
      simp only [List.nil_append] at h1
      rw [← h1] at h3
      exact ⟨h + 1, q, h3 x (by simp), ⟨[], by simp, fun y hy => h3 y (List.mem_cons_of_mem _ hy), by simp⟩, fun n hn hb => by have := h4 n hn hb; omega⟩
    | cons a A =>
      simp only [List.cons_append, List.cons.injEq] at h1
      obtain ⟨rfl, h1⟩ := h1
      exact ⟨h, A, h2 x (by simp), ⟨B, h1, fun y hy => h2 y (List.mem_cons_of_mem _ hy), h3⟩, h4⟩
  have h0 : BJ S d src x h A (q.length + far L) 0 (L, q) := ⟨b.inv, hl, hA, fun y hy => b.el y (List.mem_cons_of_mem _ hy), hB, fun n hn hb hq hns => b.done n hn hb (fun hm => by rcases List.mem_cons.1 hm with h | h; exact hns h; exact hq h), fun i hi => by omega, rfl⟩
  exact ⟨h, A, by omega, fun k hk => itr_inv (f := bst S x) (I := fun j p => BJ S d src x h A (q.length + far L) j p) k (fun j p hj hp => hp.step hd hx hss (by omega) (by omega)) h0⟩
theorem BI.pop {src x : Nat} {q : List Nat} {L : List Int} (hd : 2 ^ d ≤ 256) (b : BI S d src L (x :: q)) : BI S d src (itr (bst S x) d (L, q)).1 (itr (bst S x) d (L, q)).2 ∧ (itr (bst S x) d (L, q)).2.length + far (itr (bst S x) d (L, q)).1 = q.length + far L := by
  obtain ⟨h, A, hh, hall⟩ := b.bj hd
  have hj := hall d (Nat.le_refl d)
  refine ⟨⟨hj.inv, hj.el, ?_, fun n hn hb hq i hi hsi => ?_⟩, hj.mu⟩
  · obtain ⟨B, h1, h2, h3⟩ := hj.ord
    exact ⟨h, A, B, h1, h2, h3, hj.bnd⟩
  · by_cases hns : n = x
    · subst hns
      have := hj.bnd _ (xor_lt hn hi) (hj.nb i hi hsi)
      rw [hj.sl]; exact this
    · exact hj.done n hn hb hq hns i hi hsi
theorem BI.fin {src : Nat} {L : List Int} (b : BI S d src L []) : IsD S d L src := by
  refine ⟨b.inv.len, b.inv.rng, b.inv.src0, b.inv.srcN, fun n i hn hi h1 h2 => ?_, b.inv.pred⟩
  by_cases hq : lb L n < 1000
  · exact b.done n hn hq (by simp) i hi h2
  · have := (b.inv.rng _ (xor_lt hn hi)).2; omega
theorem lb_init {N src n : Nat} (hs : src < N) (hn : n < N) : lb ((List.replicate N (1000 : Int)).set src 0) n = if n = src then 0 else 1000 := by
  rw [lb, get_set (by simpa using hs)]
  split
  · rfl
  · simp [List.getD_eq_getElem?_getD, hn]
theorem InE.init {src : Nat} (hs : src < 2 ^ d) (hss : S src = true) : InE S d ((List.replicate (2 ^ d) (1000 : Int)).set src 0) src := by
  refine ⟨by simp, fun n hn => ?_, by rw [lb_init hs hs, if_pos rfl], hs, fun n hn hb => ?_⟩
  · rw [lb_init hs hn]; split <;> omega
  · rw [lb_init hs hn] at hb
    split at hb
    · rename_i he; subst he; exact ⟨hss, .inl rfl⟩
    · omega
theorem BI.init {src : Nat} (hs : src < 2 ^ d) (hss : S src = true) : BI S d src ((List.replicate (2 ^ d) (1000 : Int)).set src 0) [src] := by
  refine ⟨InE.init hs hss, fun x hx => ?_, ⟨0, [src], [], by simp, fun x hx => ?_, by simp, fun n hn hb => ?_⟩, fun n hn hb hq => ?_⟩
  · obtain rfl := List.mem_singleton.1 hx
    rw [lb_init hs hs, if_pos rfl]; exact ⟨hs, by omega⟩
  · obtain rfl := List.mem_singleton.1 hx
    rw [lb_init hs hs, if_pos rfl]
  · rw [lb_init hs hn] at hb ⊢
    split <;> rename_i he
    · omega
    · rw [if_neg he] at hb; omega
  · rw [lb_init hs hn] at hb
    split at hb
    · rename_i he; subst he; exact absurd (by simp) hq
    · omega
theorem InE.inv {L : List Int} {src : Nat} (h : InE S d L src) : Inv S d L src := ⟨h.len, h.rng, h.src0, h.srcN, fun n hn hb => by
  obtain ⟨h1, h2⟩ := h.pred n hn hb
  refine ⟨h1, ?_⟩
  rcases h2 with h2 | ⟨i, h3, h4, h5⟩
  · exact .inl h2
  · exact .inr ⟨i, h3, h4, by omega⟩⟩

theorem BI.ex {src : Nat} (hd : 2 ^ d ≤ 256) : ∀ (mu : Nat) (L : List Int) (q : List Nat), BI S d src L q → q.length + far L = mu → ∃ L', IsD S d L' src := by
  intro mu
  induction mu with
  | zero =>
    intro L q b h
    have : q = [] := List.length_eq_zero_iff.1 (by omega)
    subst this
    exact ⟨L, b.fin⟩
  | succ mu ih =>
    intro L q b h
    cases q with
    | nil => exact ⟨L, b.fin⟩
    | cons x q =>
      obtain ⟨h1, h2⟩ := b.pop hd
      exact ih _ _ h1 (by rw [h2]; simp only [List.length_cons] at h; omega)
theorem isD_ex {src : Nat} (hd : 2 ^ d ≤ 256) (hs : src < 2 ^ d) (hss : S src = true) : ∃ L, IsD S d L src := BI.ex hd _ _ _ (BI.init hs hss) rfl

/-! ### The way -/

/-- The first switch that leads nearer. -/
def near (S : Nat → Bool) (d : Nat) (L : List Int) (s : Nat) : Option Nat := srch (fun i => if (lb L (s ^^^ 2 ^ i) == lb L s - 1) = true then some i else none) d 0
def way (S : Nat → Bool) (d : Nat) (L : List Int) : Nat → Nat → List Int
  | 0, _ => []
  | k + 1, s => match near S d L s with
    | some i => (i : Int) :: way S d L k (s ^^^ 2 ^ i)
    | none => []
theorem IsD.near_some {L : List Int} {src : Nat} (f : IsD S d L src) {s : Nat} (hs : s < 2 ^ d) (hb : lb L s < 1000) (hne : s ≠ src) : ∃ i, near S d L s = some i ∧ i < d ∧ S (s ^^^ 2 ^ i) = true ∧ lb L (s ^^^ 2 ^ i) + 1 = lb L s := by
  obtain ⟨h1, h2⟩ := f.pred s hs hb
  rcases h2 with h2 | ⟨i, h3, h4, h5⟩
  · exact absurd h2 hne
  · cases hq : near S d L s with
    | none =>
      have := srch_none.1 hq i (by omega) (by omega)
      have e : (lb L (s ^^^ 2 ^ i) == lb L s - 1) = true := by rw [beq_iff_eq]; omega
      rw [e] at this; cases this
    | some k =>
      obtain ⟨j, _, h7, h8, _⟩ := srch_some hq
      have e : (lb L (s ^^^ 2 ^ j) == lb L s - 1) = true := by
        cases he : (lb L (s ^^^ 2 ^ j) == lb L s - 1) with
        | true => rfl
        | false => rw [he] at h8; cases h8
      rw [e] at h8
      simp only [if_true, Option.some.injEq] at h8
      subst h8
      have e2 : lb L (s ^^^ 2 ^ j) = lb L s - 1 := by simpa using e
      exact ⟨j, rfl, by omega, (f.pred _ (xor_lt hs (by omega)) (by omega)).1, by omega⟩
/-- It is the first safe one with a smaller label. -/
theorem IsD.near_lt {L : List Int} {src : Nat} (f : IsD S d L src) {s : Nat} (hs : s < 2 ^ d) (hss : S s = true) (hb : lb L s < 1000) : near S d L s = srch (fun i => if (S (s ^^^ 2 ^ i) && decide (lb L (s ^^^ 2 ^ i) < lb L s)) = true then some i else none) d 0 := by
  refine srch_congr fun i _ hi => ?_
  have hm := xor_lt hs (show i < d by omega)
  have e : (lb L (s ^^^ 2 ^ i) == lb L s - 1) = (S (s ^^^ 2 ^ i) && decide (lb L (s ^^^ 2 ^ i) < lb L s)) := by
    by_cases h1 : lb L (s ^^^ 2 ^ i) = lb L s - 1
    · have h2 := (f.pred _ hm (by omega)).1
      have h3 : lb L (s ^^^ 2 ^ i) < lb L s := by omega
      rw [h2, decide_eq_true h3, beq_iff_eq.2 h1]; rfl
    · rw [beq_false_of_ne h1]
      cases h2 : S (s ^^^ 2 ^ i) with
      | false => rfl
      | true =>
        have h3 := f.relax (s ^^^ 2 ^ i) i hm (by omega) h2 (by rw [xor_bk]; exact hss)
        rw [xor_bk] at h3
        have h4 : ¬ lb L (s ^^^ 2 ^ i) < lb L s := by omega
        rw [decide_eq_false h4]; rfl
  rw [e]
end
end Go.AM
