/- Chapter 8: GrowClaims: no sequence has fewer switches than the label. -/
import Derived.Test.YtcidonjhifjpaaaKC7
namespace Go.AM.K
variable {α : Type}
set_option linter.unusedVariables false
set_option linter.unusedSimpArgs false

section
variable {D : List ByteArray} {R : List Rule} {s t : List Bool}

theorem badN_step {d : Nat} {L : List Int} {n i : Nat} (h : badN R d L n = none) (hs : sfN R n = true) (hi : i < d) (hx : sfN R (n ^^^ 2 ^ i) = true) : L.getD (n ^^^ 2 ^ i) 0 ≤ L.getD n 0 + 1 := by
  unfold badN at h
  rw [if_pos hs] at h
  have := srch_none.1 h i (by omega) (by omega)
  unfold badP at this
  rw [hx] at this
  by_cases hq : L.getD n 0 + 1 < L.getD (n ^^^ 2 ^ i) 0
  · have e : decide (L.getD n 0 + 1 < L.getD (n ^^^ 2 ^ i) 0) = true := decide_eq_true hq
    rw [e] at this; cases this
  · omega
theorem lab_path {d : Nat} {L : List Int} (hb : ∀ n, n < 2 ^ d → badN R d L n = none) {m : Nat} : ∀ (l : List Int) (n : Nat), n < 2 ^ d → sfN R n = true → pth R d l n m → L.getD m 0 ≤ L.getD n 0 + (l.length : Int)
  | [], n, _, _, h => by rw [← h]; simp
  | x :: r, n, hn, hs, ⟨h1, h2, h3⟩ => by
    have hi : x.toNat < d := by omega
    have ih := lab_path hb r _ (xor_lt hn hi) h2 h3
    have := badN_step (hb n hn) hs hi h2
    simp only [List.length_cons]
    omega

theorem law11 {l L : List Int} (hb : ∀ x ∈ D, x.size ≤ 9223372036854775807) {k : Bool → Option α} : f11_0 α (D.map rS) (R.map rR) (s.map rB1) (t.map rB1) (l.map rI1) (L.map rI1) k = k true := by
  simp only [f11_0, f11_0g, f14_0, J11_0_0, J11_0_0g]
  rw [f44_eq]
  simp only [List.length_map]
  cases hsm : (decide (D.length ≤ 5) || (decide (8 < D.length) && decide (D.length ≤ 10))) && decide (R.length ≤ 32) with
  | false => rfl
  | true =>
    simp only [Bool.and_eq_true, Bool.or_eq_true, decide_eq_true_eq] at hsm
    simp only [Bool.not_true, cK_false]
    by_cases hs12 : (12 : Int) < ((s.length : Nat) : Int)
    · simp [hs12]
    by_cases ht12 : (12 : Int) < ((t.length : Nat) : Int)
    · simp [hs12, ht12]
    simp only [hs12, ht12, decide_false, cK_false]
    have hR : R.length < 1000 := by omega
    have hD : D.length ≤ 1000000 := by omega
    have main : l.length ≤ 1002 → L.length ≤ 40 → (f46_0 α (D.map rS) (R.map rR) fun x18 x19 => f56_0 α (s.map rB1) (t.map rB1) fun x20 x21 => f61_0 α (l.map rI1) fun x22 => f62_0 α x18 x19 x20 x21 x22
                (fun (x23 : Int) (x24 : Int) => f46_0 α (D.map rS) (R.map rR)
                  (fun (x25 : Rows) (x26 : Rows) => f56_0 α (s.map rB1) (t.map rB1)
                    (fun (x27 : Rows) (x28 : Rows) => f61_0 α (L.map rI1)
                      (fun (x29 : Rows) => f60_0 α x25 x26 x27 x28 x29
                        (fun (x30 : Int) (x31 : Int) => f57_0 α (D.map rS) (R.map rR) (s.map rB1) (t.map rB1)
                          (fun (x32 : Int) => cK (x32 != 0)
                            (cK (x24 == x32)
                              (cK (x31 == x32)
                                (cK (x23 == 0)
                                  (k (x30 == 0))
                                  (k false))
                                (k false))
                              (k false))
                            (f64_0 α (D.map rS) (R.map rR) (s.map rB1) (t.map rB1) (l.map rI1)
                              (fun (x33 : Int) (x34 : Int) => f59_0 α (D.map rS) (R.map rR) (s.map rB1) (t.map rB1) (L.map rI1)
                                (fun (x35 : Int) (x36 : Int) => cK (x24 == x34)
                                  (cK (x23 == x33)
                                    (cK (x31 == x36)
                                      (cK (x30 == x35)
                                        (cK (x34 != 0)
                                          (k true)
                                          (cK (x36 != 0)
                                            (k true)
                                            (k (decide (x35 ≤ x33)))))
                                        (k false))
                                      (k false))
                                    (k false))
                                  (k false))))))))))) = k true := by
      intro hl hL
      rw [f46_eq hD (by omega), f56_eq (by omega) (by omega), f61_eq (by omega), f62_eq hR hb]
      by_cases he : chE D R s t = 0
      · have hc := chE_ok he
        rw [if_neg (by simp [he]), f46_eq hD (by omega), f56_eq (by omega) (by omega), f61_eq (by omega), f60_eq hR hb, if_neg (by simp [he]), f57_eq hR, he]
        simp only [bne_self_eq_false, cK_false]
        rw [f64_eq hc, f59_eq hc]
        simp only [beq_self_eq_true, cK_true]
        by_cases h1 : (seqR R D.length l (num s) (num t)).2 = 0
        · by_cases h2 : (labR R D.length L (num s) (num t)).2 = 0
          · simp only [h1, h2, bne_self_eq_false, cK_false]
            have key : (labR R D.length L (num s) (num t)).1 ≤ (seqR R D.length l (num s) (num t)).1 := by
              unfold seqR at h1 ⊢
              split at h1
              · cases h1
              · rename_i hl1
                rw [if_neg hl1]
                cases hw : wlk R D.length l (num s) with
                | inl e =>
                  rw [hw] at h1
                  simp only at h1
                  exfalso
                  have key : ∀ (l : List Int) (n : Nat), wlk R D.length l n = .inl e → e ≠ 0 := by
                    intro l
                    induction l with
                    | nil => intro n h; cases h
                    | cons x r ih =>
                      intro n h
                      simp only [wlk] at h
                      split at h
                      · cases h; decide
                      · split at h
                        · cases h; decide
                        · exact ih _ h
                  exact key l _ hw h1
                | inr p =>
                  rw [hw] at h1
                  simp only at h1 ⊢
                  by_cases hp : p = num t
                  · rw [if_pos hp]
                    subst hp
                    have hpt := wlk_pth.1 hw
                    unfold labR at h2 ⊢
                    split at h2
                    · cases h2
                    · rename_i hLl
                      rw [if_neg hLl]
                      cases hrg : srch (rngP L) L.length 0 with
                      | some u => rw [hrg] at h2; cases h2
                      | none =>
                        rw [hrg] at h2
                        simp only at h2 ⊢
                        by_cases hz : L.getD (num s) 0 = 0
                        · rw [if_neg (fun h => h hz)] at h2 ⊢
                          cases hbd : srch (badN R D.length L) L.length 0 with
                          | some u => rw [hbd] at h2; cases h2
                          | none =>
                            simp only
                            have := lab_path (R := R) (d := D.length) (L := L) (fun n hn => srch_none.1 hbd n (by omega) (by omega)) l (num s) hc.sn hc.ss hpt
                            rw [hz] at this
                            omega
                        · rw [if_pos hz] at h2; cases h2
                  · rw [if_neg hp] at h1; cases h1
            simp [key]
          · have h2' : ((labR R D.length L (num s) (num t)).2 != 0) = true := bne_iff_ne.2 h2
            simp [h1, h2']
        · have h1' : ((seqR R D.length l (num s) (num t)).2 != 0) = true := bne_iff_ne.2 h1
          simp [h1']
      · rw [if_pos he, f46_eq hD (by omega), f56_eq (by omega) (by omega), f61_eq (by omega), f60_eq hR hb, if_pos he, f57_eq hR]
        have : (chE D R s t != 0) = true := bne_iff_ne.2 he
        simp [this]
    by_cases h40 : (40 : Int) < ((l.length : Nat) : Int)
    · by_cases h1000 : ((l.length : Nat) : Int) ≤ 1000
      · simp [h40, h1000]
      · by_cases h1002 : (1002 : Int) < ((l.length : Nat) : Int)
        · simp [h40, h1000, h1002]
        · by_cases hL : (40 : Int) < ((L.length : Nat) : Int)
          · simp [h40, h1000, h1002, hL]
          · simp only [h40, h1000, h1002, hL, decide_true, decide_false, cK_true, cK_false]
            exact main (by omega) (by omega)
    · have h1002 : ¬ (1002 : Int) < ((l.length : Nat) : Int) := by omega
      by_cases hL : (40 : Int) < ((L.length : Nat) : Int)
      · simp [h40, h1002, hL]
      · simp only [h40, h1002, hL, decide_true, decide_false, cK_true, cK_false]
        exact main (by omega) (by omega)
end

end Go.AM.K
