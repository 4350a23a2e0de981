/- Chapter 2: which materials are right. -/
import Derived.Test.YtehamglokkjipaaGreatQGP6
import Derived.Test.YtehamglokkjipaaGreatKC1
namespace Go.AM.K
set_option linter.unusedVariables false
set_option linter.unusedSimpArgs false
variable {α : Type}
abbrev rF (a : Nat) : List DC := [.v (.float .f32 a)]
theorem rowK_F {s : List Nat} {x : Int} (h0 : 0 ≤ x) (h1 : x < (s.length : Int)) {f : Nat → Option α} : rowK (s.map rF) x [.flt .f32] f = f (s.getD x.toNat 0) := by
  obtain ⟨i, rfl⟩ := Int.eq_ofNat_of_zero_le h0
  have hi : i < s.length := by omega
  rw [Int.toNat_natCast, gD hi]
  refine (rowK_get (r := rF (s[i]'hi)) ?_).trans rfl
  rw [List.getElem?_map, List.getElem?_eq_getElem hi]; rfl
def rowE (w : Int) (x y : Nat) : Int :=
  if inB w 1000 200000 = false then 2 else
  match wv x, wv y with
  | some n, some m => if inB n 5000 80000 = true ∧ inB m 0 80000 = true then 0 else 2
  | _, _ => 27
theorem clip_in {n lo hi : Int} (h1 : -1000000000 < lo) (h2 : hi < 1000000000) : inB (clip n) lo hi = inB n lo hi := by
  apply Bool.eq_iff_iff.2
  rw [inB_iff, inB_iff]
  unfold clip
  split
  · omega
  · split <;> omega
theorem f80_eq {n : Int} {k : Bool → Option α} : f80_0 α n k = k (inB n 1000 200000) := f51_eq
theorem f169_eq {n : Int} {k : Bool → Option α} : f169_0 α n k = k (inB n 0 80000) := f51_eq
theorem f68_eq {n : Int} {k : Bool → Option α} : f68_0 α n k = k (inB n 1000 200000) := f57_eq
theorem f159_eq {w : Int} {x y : Nat} {k : Int → Option α} : f159_0 α w x y k = k (rowE w x y) := by
  simp only [f159_0, f159_0g, f80_eq, J159_0_0, J159_0_0g, f168_eq, f132_eq, f169_eq]
  unfold rowE
  cases inB w 1000 200000 with
  | false => rfl
  | true =>
    simp only [Bool.not_true, cK_false, Bool.true_eq_false, if_false]
    cases wv x with
    | none => cases wv y <;> rfl
    | some n => cases wv y with
      | none => rfl
      | some m =>
        simp only [Bool.not_true, cK_false]
        rw [clip_in (by decide) (by decide), clip_in (by decide) (by decide)]
        cases inB n 5000 80000 with
        | false => simp
        | true => cases inB m 0 80000 <;> simp
def chkRow (lw : List Int) (lx ly : List Nat) (i : Nat) : Option (Int × Int) :=
  if rowE (lw.getD i 0) (lx.getD i 0) (ly.getD i 0) ≠ 0 then some ((i : Int), rowE (lw.getD i 0) (lx.getD i 0) (ly.getD i 0)) else
  if 0 < i ∧ lw.getD i 0 ≤ lw.getD (i - 1) 0 then some ((i : Int), 10) else none
section
variable {lw : List Int} {lx ly : List Nat} (h1 : lx.length = lw.length) (h2 : ly.length = lw.length) (h3 : lw.length ≤ 64)
include h1 h2 h3
theorem R142_step {k1 : Int → Int → Option α} {k2 : Int → Bool → Option α} (n i : Nat) (hi : i < lw.length) :
    R142_0_1 α (lw.map rI1) (lw.length : Int) (lw.map rI1) (lx.map rF) (ly.map rF) k1 k2 (n + 1) (i : Int) =
      orK (chkRow lw lx ly i) (fun p => k1 p.1 p.2) (R142_0_1 α (lw.map rI1) (lw.length : Int) (lw.map rI1) (lx.map rF) (ly.map rF) k1 k2 n ((i + 1 : Nat) : Int)) := by
  simp only [R142_0_1, S142_0_1, S142_0_1g]
  rw [decide_eq_true (by omega), cK_true, rowK_N (by omega) (by omega), rowK_F (by omega) (by omega), rowK_F (by omega) (by omega), Int.toNat_natCast, f159_eq, w64_in (n := (i : Int) + 1) (by omega) (by omega), show (i : Int) + 1 = ((i + 1 : Nat) : Int) by omega]
  unfold chkRow
  by_cases he : rowE (lw.getD i 0) (lx.getD i 0) (ly.getD i 0) = 0
  · rw [he]
    simp only [bne_self_eq_false, cK_false, ne_eq, not_true_eq_false, if_false]
    by_cases h0 : 0 < i
    · rw [decide_eq_true (by omega), cK_true, w64_in (by omega) (by omega), rowK_N (by omega) (by omega), show ((i : Int) - 1).toNat = i - 1 by omega]
      by_cases hle : lw.getD i 0 ≤ lw.getD (i - 1) 0
      · rw [decide_eq_true hle, if_pos ⟨h0, hle⟩]; rfl
      · rw [decide_eq_false hle, if_neg (fun h => hle h.2)]; rfl
    · rw [decide_eq_false (by omega), if_neg (fun h => h0 h.1)]; rfl
  · rw [show (rowE (lw.getD i 0) (lx.getD i 0) (ly.getD i 0) != 0) = true by simpa using he, if_pos he]; rfl
theorem R21_step {k1 : Int → Int → Option α} {k2 : Int → Bool → Option α} (n i : Nat) (hi : i < lw.length) :
    R21_0_1 α (lw.length : Int) (lw.map rI1) (lx.map rF) (ly.map rF) k1 k2 (n + 1) (i : Int) =
      orK (chkRow lw lx ly i) (fun p => k1 p.1 p.2) (R21_0_1 α (lw.length : Int) (lw.map rI1) (lx.map rF) (ly.map rF) k1 k2 n ((i + 1 : Nat) : Int)) := by
  simp only [R21_0_1, S21_0_1, S21_0_1g]
  rw [decide_eq_true (by omega), cK_true, rowK_N (by omega) (by omega), f68_eq, Int.toNat_natCast]
  have hF : ∀ (f : Nat → Option α), rowK (lx.map rF) (i : Int) [.flt .f32] f = f (lx.getD i 0) := fun f => by rw [rowK_F (by omega) (by omega), Int.toNat_natCast]
  have hG : ∀ (f : Nat → Option α), rowK (ly.map rF) (i : Int) [.flt .f32] f = f (ly.getD i 0) := fun f => by rw [rowK_F (by omega) (by omega), Int.toNat_natCast]
  have hW : ∀ (f : Int → Option α), rowK (lw.map rI1) (i : Int) [.int .i64] f = f (lw.getD i 0) := fun f => by rw [rowK_N (by omega) (by omega), Int.toNat_natCast]
  simp only [hF, hG, hW]
  rw [ref_wv, ref_wv, w64_in (n := (i : Int) + 1) (by omega) (by omega), show (i : Int) + 1 = ((i + 1 : Nat) : Int) by omega]
  unfold chkRow rowE
  cases inB (lw.getD i 0) 1000 200000 with
  | false => rfl
  | true =>
    simp only [Bool.not_true, cK_false, Bool.true_eq_false, if_false]
    cases hx : wv (lx.getD i 0) with
    | none => rfl
    | some a => cases hy : wv (ly.getD i 0) with
      | none => rfl
      | some b =>
        simp only [Option.isSome_some, if_true]
        obtain ⟨o1, o2, _⟩ := ord_w hx
        obtain ⟨_, o4, o5⟩ := ord_w hy
        rw [o1, o2, o4, o5]
        have hin : (inB a 5000 80000 = true ∧ inB b 0 80000 = true) ↔ ¬ a < 5000 ∧ ¬ 80000 < a ∧ ¬ b < 0 ∧ ¬ 80000 < b := by
          rw [inB_iff, inB_iff]; omega
        by_cases g : ¬ a < 5000 ∧ ¬ 80000 < a ∧ ¬ b < 0 ∧ ¬ 80000 < b
        · rw [decide_eq_false g.1, decide_eq_false g.2.1, decide_eq_false g.2.2.1, decide_eq_false g.2.2.2, if_pos (hin.2 g)]
          simp only [cK_false, ne_eq, not_true_eq_false, if_false]
          by_cases h0 : 0 < i
          · rw [decide_eq_true (by omega), cK_true, w64_in (by omega) (by omega), rowK_N (by omega) (by omega), show ((i : Int) - 1).toNat = i - 1 by omega]
            by_cases hle : lw.getD i 0 ≤ lw.getD (i - 1) 0
            · rw [decide_eq_true hle, if_pos ⟨h0, hle⟩]; rfl
            · rw [decide_eq_false hle, if_neg (fun h => hle h.2)]; rfl
          · rw [decide_eq_false (by omega), if_neg (fun h => h0 h.1)]; rfl
        · rw [if_neg (fun h => g (hin.1 h))]
          simp only [ne_eq, show ¬ (2 : Int) = 0 by decide, not_false_eq_true, if_true, orK_some, cK_dec]
          split
          · rfl
          · split
            · rfl
            · split
              · rfl
              · split
                · rfl
                · exact absurd ⟨by assumption, by assumption, by assumption, by assumption⟩ g
end
def tabE (lw : List Int) (lx ly : List Nat) (c0 c1 : Int) : Int × Int :=
  if ¬ (c0 = 0 ∧ c1 = 0) then (0, 13) else
  if lw.length = 0 ∨ lx.length ≠ lw.length ∨ ly.length ≠ lw.length then (0, 12) else
  if 64 < lw.length then (0, 8) else
  match srch (chkRow lw lx ly) lw.length 0 with
  | some p => p
  | none => (0, 0)
def ckG (s : ByteArray) (kd : Int) (lw : List Int) (lx ly : List Nat) (c0 c1 : Int) : Int × Int :=
  if nmB s = false then (0, 3) else
  if kd = 1 then tabE lw lx ly c0 c1 else
  if kd ≠ 2 then (0, 11) else
  if 0 < lw.length + lx.length + ly.length then (0, 13) else
  if inB c0 5000 60000 = true ∧ inB c1 0 20000 = true then (0, 0) else (0, 2)
theorem f142_eq {s : ByteArray} {kd : Int} {lw : List Int} {lx ly : List Nat} {c0 c1 : Int} (hw : lw.length ≤ 1000) (hx : lx.length ≤ 1000) (hy : ly.length ≤ 1000) {k : Int → Int → Option α} :
    f142_0 α s kd (lw.map rI1) (lx.map rF) (ly.map rF) c0 c1 k = k (tabE lw lx ly c0 c1).1 (tabE lw lx ly c0 c1).2 := by
  simp only [f142_0, f142_0g, J142_0_0, J142_0_0g, List.length_map, Bool.and_true]
  unfold tabE
  by_cases hc : c0 = 0 ∧ c1 = 0
  · obtain ⟨rfl, rfl⟩ := hc
    simp only [beq_self_eq_true, Bool.and_self, Bool.not_true, cK_false, and_self, not_true_eq_false, if_false]
    by_cases h0 : lw.length = 0
    · rw [if_pos (.inl h0), show (((lw.length : Nat) : Int) == 0) = true by simpa using h0]; rfl
    · rw [show (((lw.length : Nat) : Int) == 0) = false by simpa using h0, cK_false]
      by_cases h1 : lx.length = lw.length
      · by_cases h2 : ly.length = lw.length
        · rw [show (((lx.length : Nat) : Int) != ((lw.length : Nat) : Int)) = false by simp [h1], cK_false, show (((ly.length : Nat) : Int) != ((lw.length : Nat) : Int)) = false by simp [h2], cK_false, if_neg (by omega)]
          by_cases h3 : 64 < lw.length
          · rw [decide_eq_true (by omega), if_pos h3]; rfl
          · rw [decide_eq_false (by omega), if_neg h3, cK_false]
            simp only [L142_0_1]
            have := loopS (α := α) (N := lw.length) (p := chkRow lw lx ly) (yes := fun p => k p.1 p.2) (no := k 0 0) (R := R142_0_1 α (lw.map rI1) (lw.length : Int) (lw.map rI1) (lx.map rF) (ly.map rF) (fun x35 x36 => k x35 x36) (fun _ _ => k 0 0)) (by omega)
              (fun n i hi => R142_step h1 h2 (by omega) n i hi) (fun n => by simp only [R142_0_1, S142_0_1, S142_0_1g]; rw [decide_eq_false (by omega)]; rfl)
            rw [this]
            cases srch (chkRow lw lx ly) lw.length 0 <;> rfl
        · rw [show (((lx.length : Nat) : Int) != ((lw.length : Nat) : Int)) = false by simp [h1], cK_false, show (((ly.length : Nat) : Int) != ((lw.length : Nat) : Int)) = true by simp; omega, if_pos (.inr (.inr h2))]; rfl
      · rw [show (((lx.length : Nat) : Int) != ((lw.length : Nat) : Int)) = true by simp; omega, if_pos (.inr (.inl h1))]; rfl
  · have : ((c0 == 0) && (c1 == 0)) = false := by
      cases h : ((c0 == 0) && (c1 == 0)) with
      | false => rfl
      | true => simp at h; exact absurd h hc
    rw [this, if_pos hc]; rfl
theorem f143_eq {a b : Int} {k : Bool → Option α} : f143_0 α a b k = k (inB a 5000 60000 && inB b 0 20000) := by
  simp only [f143_0, f143_0g, f51_eq]
  cases inB a 5000 60000 <;> rfl
theorem f67_eq {a b : Int} {k : Bool → Option α} : f67_0 α a b k = k (inB a 5000 60000 && inB b 0 20000) := by
  simp only [f67_0, f67_0g, f57_eq]
  cases inB a 5000 60000 <;> rfl
theorem f113_eq {s : ByteArray} (hs : s.size ≤ 9223372036854775807) {kd : Int} {lw : List Int} {lx ly : List Nat} {c0 c1 : Int} (hw : lw.length ≤ 1000) (hx : lx.length ≤ 1000) (hy : ly.length ≤ 1000) {k : Int → Int → Option α} :
    f113_0 α s kd (lw.map rI1) (lx.map rF) (ly.map rF) c0 c1 k = k (ckG s kd lw lx ly c0 c1).1 (ckG s kd lw lx ly c0 c1).2 := by
  simp only [f113_0, f113_0g, f141_eq hs, f142_eq hw hx hy, f143_eq, List.length_map]
  unfold ckG
  cases nmB s with
  | false => rfl
  | true =>
    simp only [Bool.not_true, cK_false, Bool.true_eq_false, if_false]
    by_cases h1 : kd = 1
    · rw [show (kd == 1) = true by simpa using h1, if_pos h1]; rfl
    · rw [show (kd == 1) = false by simpa using h1, if_neg h1, cK_false]
      by_cases h2 : kd = 2
      · rw [show (kd != 2) = false by simpa using h2, if_neg (fun h => h h2), cK_false, w64_in (n := ((lw.length : Nat) : Int) + ((lx.length : Nat) : Int)) (by omega) (by omega), w64_in (by omega) (by omega)]
        by_cases h3 : 0 < lw.length + lx.length + ly.length
        · rw [decide_eq_true (by omega), if_pos h3]; rfl
        · rw [decide_eq_false (by omega), if_neg h3, cK_false]
          cases inB c0 5000 60000 <;> cases inB c1 0 20000 <;> rfl
      · rw [show (kd != 2) = true by simpa using h2, if_pos h2]; rfl
theorem f21_eq {s : ByteArray} {kd : Int} {lw : List Int} {lx ly : List Nat} {c0 c1 : Int} (hw : lw.length ≤ 1000) (hx : lx.length ≤ 1000) (hy : ly.length ≤ 1000) {k : Int → Int → Option α} :
    f21_0 α s kd (lw.map rI1) (lx.map rF) (ly.map rF) c0 c1 k = k (ckG s kd lw lx ly c0 c1).1 (ckG s kd lw lx ly c0 c1).2 := by
  simp only [f21_0, f21_0g, f66_eq, f67_eq, J21_0_0, J21_0_0g, List.length_map, Bool.and_true]
  unfold ckG
  cases nmB s with
  | false => rfl
  | true =>
    simp only [Bool.not_true, cK_false, Bool.true_eq_false, if_false]
    by_cases h1 : kd = 1
    · subst h1
      simp only [bne_self_eq_false, cK_false, if_true, show ((1 : Int) == 2) = false by decide]
      unfold tabE
      by_cases hc : c0 = 0 ∧ c1 = 0
      · obtain ⟨rfl, rfl⟩ := hc
        simp only [beq_self_eq_true, Bool.and_self, Bool.not_true, cK_false, and_self, not_true_eq_false, if_false]
        by_cases h0 : lw.length = 0
        · rw [if_pos (.inl h0), show (((lw.length : Nat) : Int) == 0) = true by simpa using h0]; rfl
        · rw [show (((lw.length : Nat) : Int) == 0) = false by simpa using h0, cK_false]
          by_cases h1 : lx.length = lw.length
          · by_cases h2 : ly.length = lw.length
            · rw [show (((lx.length : Nat) : Int) != ((lw.length : Nat) : Int)) = false by simp [h1], cK_false, show (((ly.length : Nat) : Int) != ((lw.length : Nat) : Int)) = false by simp [h2], cK_false, if_neg (by omega)]
              by_cases h3 : 64 < lw.length
              · rw [decide_eq_true (by omega), if_pos h3]; rfl
              · rw [decide_eq_false (by omega), if_neg h3, cK_false]
                simp only [L21_0_1]
                have := loopS (α := α) (N := lw.length) (p := chkRow lw lx ly) (yes := fun p => k p.1 p.2) (no := k 0 0) (R := R21_0_1 α (lw.length : Int) (lw.map rI1) (lx.map rF) (ly.map rF) (fun x45 x46 => k x45 x46) (fun _ _ => k 0 0)) (by omega)
                  (fun n i hi => R21_step h1 h2 (by omega) n i hi) (fun n => by simp only [R21_0_1, S21_0_1, S21_0_1g]; rw [decide_eq_false (by omega)]; rfl)
                rw [this]
                cases srch (chkRow lw lx ly) lw.length 0 <;> rfl
            · rw [show (((lx.length : Nat) : Int) != ((lw.length : Nat) : Int)) = false by simp [h1], cK_false, show (((ly.length : Nat) : Int) != ((lw.length : Nat) : Int)) = true by simp; omega, if_pos (.inr (.inr h2))]; rfl
          · rw [show (((lx.length : Nat) : Int) != ((lw.length : Nat) : Int)) = true by simp; omega, if_pos (.inr (.inl h1))]; rfl
      · have : ((c0 == 0) && (c1 == 0)) = false := by
          cases h : ((c0 == 0) && (c1 == 0)) with
          | false => rfl
          | true => simp at h; exact absurd h hc
        rw [this, if_pos hc]; rfl
    · rw [show (kd != 1) = true by simpa using h1, if_neg h1, cK_true]
      by_cases h2 : kd = 2
      · rw [show (kd != 2) = false by simpa using h2, if_neg (fun h => h h2), cK_false, show (kd == 2) = true by simpa using h2, cK_true]
        by_cases g1 : 0 < lw.length
        · rw [decide_eq_true (by omega), if_pos (by omega)]; rfl
        · rw [decide_eq_false (by omega), cK_false]
          by_cases g2 : 0 < lx.length
          · rw [decide_eq_true (by omega), if_pos (by omega)]; rfl
          · rw [decide_eq_false (by omega), cK_false]
            by_cases g3 : 0 < ly.length
            · rw [decide_eq_true (by omega), if_pos (by omega)]; rfl
            · rw [decide_eq_false (by omega), cK_false, if_neg (by omega)]
              cases inB c0 5000 60000 <;> cases inB c1 0 20000 <;> rfl
      · rw [show (kd != 2) = true by simpa using h2, if_pos h2]; rfl
def cntB (n : Nat) : Bool := decide (n ≤ 12) || (decide (64 ≤ n) && decide (n ≤ 66))
theorem f61_eq {n : Nat} {k : Bool → Option α} : f61_0 α (n : Int) k = k (cntB n) := by
  simp only [f61_0, f61_0g]
  unfold cntB
  by_cases h1 : n ≤ 12
  · rw [decide_eq_true (by omega), decide_eq_true h1]; rfl
  · rw [decide_eq_false (by omega), decide_eq_false h1]
    by_cases h2 : 64 ≤ n
    · rw [decide_eq_true (by omega), decide_eq_true h2]
      simp only [cK_false, cK_true, Bool.true_and, Bool.false_or]
      congr 1; exact decide_eq_decide.2 (by omega)
    · rw [decide_eq_false (by omega), decide_eq_false h2]; rfl
def fewB (s : ByteArray) (lw : List Int) (lx ly : List Nat) : Bool := cntB lw.length && (cntB lx.length && (cntB ly.length && decide (s.size ≤ 20)))
theorem f16_eq {s : ByteArray} {kd : Int} {lw : List Int} {lx ly : List Nat} {c0 c1 : Int} {k : Bool → Option α} :
    f16_0 α s kd (lw.map rI1) (lx.map rF) (ly.map rF) c0 c1 k = k (fewB s lw lx ly) := by
  simp only [f16_0, f16_0g, List.length_map, f61_eq]
  unfold fewB
  cases cntB lw.length <;> cases cntB lx.length <;> cases cntB ly.length <;> try rfl
  simp only [cK_true, Bool.true_and]
  congr 1; exact decide_eq_decide.2 (by omega)
theorem cnt_le {n : Nat} (h : cntB n = true) : n ≤ 66 := by
  unfold cntB at h; simp at h; omega
theorem few_le {s : ByteArray} {lw : List Int} {lx ly : List Nat} (h : fewB s lw lx ly = true) : lw.length ≤ 66 ∧ lx.length ≤ 66 ∧ ly.length ≤ 66 ∧ s.size ≤ 20 := by
  unfold fewB at h
  simp only [Bool.and_eq_true, decide_eq_true_eq] at h
  exact ⟨cnt_le h.1, cnt_le h.2.1, cnt_le h.2.2.1, h.2.2.2⟩
theorem f18_eq {s : ByteArray} {kd : Int} {lw : List Int} {lx ly : List Nat} {c0 c1 : Int} (hw : lw.length ≤ 1000) (hx : lx.length ≤ 1000) (hy : ly.length ≤ 1000) {k : ByteArray → Int → Rows → Rows → Rows → Int → Int → Option α} :
    f18_0 α s kd (lw.map rI1) (lx.map rF) (ly.map rF) c0 c1 k = k s kd (lw.map rI1) (lx.map rF) (ly.map rF) c0 c1 := by
  simp only [f18_0, f18_0g, f12_0, f12_0g]
  have e1 : apOk 1 8 ([] : Rows) (lw.map rI1) = true := apOk_of (enc := rI1) (fun _ => rfl) (by simp; omega) (by simp; omega)
  have e2 : apOk 1 4 ([] : Rows) (lx.map rF) = true := apOk_of (enc := rF) (fun _ => rfl) (by simp; omega) (by simp; omega)
  have e3 : apOk 1 4 ([] : Rows) (ly.map rF) = true := apOk_of (enc := rF) (fun _ => rfl) (by simp; omega) (by simp; omega)
  rw [e1, e2, e3]
  simp only [gK_true, List.nil_append]
end Go.AM.K
