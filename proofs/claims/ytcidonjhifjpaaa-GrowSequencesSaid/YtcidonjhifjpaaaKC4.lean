/- Chapter 8: right chambers; a state is opened. -/
import Derived.Test.YtcidonjhifjpaaaKC3
namespace Go.AM.K
variable {α : Type}
set_option linter.unusedVariables false
set_option linter.unusedSimpArgs false

def inW (a lo hi : Int) : Bool := decide (lo ≤ a) && decide (a ≤ hi)
def pD (D : List ByteArray) (i : Nat) : Option (Int × Int) := if (!isNm (D.getD i .empty)) = true then some ((i : Int), 3) else if hasT (D.getD i .empty) (D.take i) = true then some ((i : Int), 5) else none
def pR (d : Int) (R : List Rule) (i : Nat) : Option Int := if (!inW (R.getD i r0).1 0 (d - 1) || !inW (R.getD i r0).2.2.1 0 (d - 1)) = true then some (i : Int) else none
def chkC (D : List ByteArray) (R : List Rule) : Int × Int :=
  if 8 < D.length then (0, 8) else match srch (pD D) D.length 0 with
    | some p => p
    | none => if 30 < R.length then (0, 8) else match srch (pR D.length R) R.length 0 with
      | some i => (i, 6)
      | none => (0, 0)

theorem rowK_S' {l : List ByteArray} {i : Nat} {f : ByteArray → Option α} (h : i < l.length) : rowK (l.map rS) (i : Int) [.str] f = f (l.getD i .empty) := by rw [gD h]; exact rowK_S h
theorem takeS {D : List ByteArray} {i : Nat} : List.drop 0 (List.take i (D.map rS)) = (D.take i).map rS := by rw [List.drop_zero, List.map_take]
theorem gK_sl {D : List ByteArray} {i : Nat} (h : i < D.length) {x : Option α} : gK (decide ((0 : Int) ≤ 0 ∧ 0 ≤ (i : Int) ∧ (i : Int) ≤ (((D.map rS).length : Nat) : Int) ∧ allLen 1 (D.map rS) = true)) x = x := by
  rw [decide_eq_true ⟨by omega, by omega, by simp; omega, allLen_map (enc := rS) (n := 1) (fun _ => rfl) D⟩]; rfl
theorem cK_or3 {a b : Bool} {x y : Option α} : cK a x (cK b x y) = cK (a || b) x y := by cases a <;> rfl

theorem f45_eq {D : List ByteArray} {R : List Rule} (hR : R.length < 1000) (hb : ∀ x ∈ D, x.size ≤ 9223372036854775807) {k : Int → Int → Option α} : f45_0 α (D.map rS) (R.map rR) k = k (chkC D R).1 (chkC D R).2 := by
  simp only [f45_0, f45_0g, chkC, List.length_map, L45_0_0, L45_0_1]
  by_cases h8 : 8 < D.length
  · have : (8 : Int) < (D.length : Int) := by omega
    simp [h8, this]
  have h8' : ¬ (8 : Int) < (D.length : Int) := by omega
  simp only [h8, h8', decide_false, cK_false, if_false]
  refine (loopS (N := D.length) (R := R45_0_0 α (D.map rS) ((D.length : Nat) : Int) (D.map rS) (fun a b => k a b) _) (p := pD D) (yes := fun p => k p.1 p.2) (no := cK (decide (30 < ((R.length : Nat) : Int))) (k 0 8) (R45_0_1 α (R.map rR) ((R.length : Nat) : Int) (D.map rS) (fun x29 => k x29 6) (fun _ _ => k 0 0) fuel 0)) (by omega) (fun n i hi => ?_) (fun n => ?_)).trans ?_
  · simp only [R45_0_0, S45_0_0, S45_0_0g, lt_len, hi, decide_true, cK_true, Int.toNat_natCast]
    rw [rowK_S' hi, f100_eq (hb _ (by rw [gD hi]; exact List.getElem_mem _)), gK_sl hi, takeS, f101_eq (by simp; omega), w64_su hi (by omega)]
    unfold pD
    cases isNm (D.getD i .empty) with
    | false => rfl
    | true => simp only [Bool.not_true, cK_false, Bool.false_eq_true, if_false]; rw [orK_if]
  · simp only [R45_0_0, S45_0_0, S45_0_0g, Int.lt_irrefl, decide_false, cK_false]
  · cases srch (pD D) D.length 0 with
    | some p => rfl
    | none =>
      simp only [orK_none]
      by_cases h30 : 30 < R.length
      · have : (30 : Int) < (R.length : Int) := by omega
        simp [h30, this]
      have h30' : ¬ (30 : Int) < (R.length : Int) := by omega
      simp only [h30, h30', decide_false, cK_false, if_false]
      refine (loopS (N := R.length) (R := R45_0_1 α (R.map rR) ((R.length : Nat) : Int) (D.map rS) (fun x29 => k x29 6) (fun _ _ => k 0 0)) (p := pR D.length R) (yes := fun p => k p 6) (no := k 0 0) (by omega) (fun n i hi => ?_) (fun n => ?_)).trans ?_
      · simp only [R45_0_1, S45_0_1, S45_0_1g, lt_len, hi, decide_true, cK_true, List.length_map]
        rw [rowK_R hi, f78_eq, f78_eq, w64_su hi (by omega), w64_in (n := (D.length : Int) - 1) (by omega) (by omega), cK_or3]
        unfold pR inW
        rw [orK_if]
      · simp only [R45_0_1, S45_0_1, S45_0_1g, Int.lt_irrefl, decide_false, cK_false]
      · cases srch (pR D.length R) R.length 0 <;> rfl

theorem f50_eq {D : List ByteArray} {R : List Rule} (hR : R.length < 1000) {k : Int → Int → Option α} : f50_0 α (D.map rS) (R.map rR) k = k (chkC D R).1 (chkC D R).2 := by
  simp only [f50_0, f50_0g, chkC, List.length_map, L50_0_0, L50_0_1]
  by_cases h8 : 8 < D.length
  · have : (8 : Int) < (D.length : Int) := by omega
    simp [h8, this]
  have h8' : ¬ (8 : Int) < (D.length : Int) := by omega
  simp only [h8, h8', decide_false, cK_false, if_false]
  refine (loopS (N := D.length) (R := R50_0_0 α (D.map rS) (fun a b => k a b) _) (p := pD D) (yes := fun p => k p.1 p.2) (no := cK (decide (30 < ((R.length : Nat) : Int))) (k 0 8) (R50_0_1 α (D.map rS) (R.map rR) (fun x29 => k x29 6) (fun _ _ => k 0 0) fuel 0)) (by omega) (fun n i hi => ?_) (fun n => ?_)).trans ?_
  · simp only [R50_0_0, S50_0_0, S50_0_0g, List.length_map, lt_len, hi, decide_true, cK_true, Int.toNat_natCast]
    rw [rowK_S' hi, f107_eq, show ((D.length : Nat) : Int) = (((D.map rS).length : Nat) : Int) by simp, gK_sl hi, rowK_S' hi, takeS, f108_eq (by simp; omega), w64_su hi (by omega)]
    unfold pD
    cases isNm (D.getD i .empty) with
    | false => rfl
    | true => simp only [Bool.not_true, cK_false, Bool.false_eq_true, if_false]; rw [orK_if]
  · simp only [R50_0_0, S50_0_0, S50_0_0g, List.length_map, Int.lt_irrefl, decide_false, cK_false]
  · cases srch (pD D) D.length 0 with
    | some p => rfl
    | none =>
      simp only [orK_none]
      by_cases h30 : 30 < R.length
      · have : (30 : Int) < (R.length : Int) := by omega
        simp [h30, this]
      have h30' : ¬ (30 : Int) < (R.length : Int) := by omega
      simp only [h30, h30', decide_false, cK_false, if_false]
      refine (loopS (N := R.length) (R := R50_0_1 α (D.map rS) (R.map rR) (fun x29 => k x29 6) (fun _ _ => k 0 0)) (p := pR D.length R) (yes := fun p => k p 6) (no := k 0 0) (by omega) (fun n i hi => ?_) (fun n => ?_)).trans ?_
      · simp only [R50_0_1, S50_0_1, S50_0_1g, lt_len, hi, decide_true, cK_true, List.length_map]
        rw [rowK_R hi, f19_eq, rowK_R hi, f19_eq, w64_su hi (by omega), w64_in (n := (D.length : Int) - 1) (by omega) (by omega), cK_or3]
        unfold pR inW
        rw [orK_if]
      · simp only [R50_0_1, S50_0_1, S50_0_1g, List.length_map, Int.lt_irrefl, decide_false, cK_false]
      · cases srch (pR D.length R) R.length 0 <;> rfl

/-- A right chamber. -/
structure GC (D : List ByteArray) (R : List Rule) : Prop where
  d8 : D.length ≤ 8
  r30 : R.length ≤ 30
  rin : RIn D.length R
theorem chkC_ok {D : List ByteArray} {R : List Rule} (h : (chkC D R).2 = 0) : GC D R ∧ (chkC D R).1 = 0 := by
  unfold chkC at h ⊢
  split at h
  · cases h
  · rename_i h8
    simp only [h8, if_false]
    cases hq : srch (pD D) D.length 0 with
    | some p =>
      rw [hq] at h
      obtain ⟨j, _, _, h3, _⟩ := srch_some hq
      simp only [pD] at h3
      split at h3
      · simp only [Option.some.injEq] at h3; subst h3; cases h
      · split at h3
        · simp only [Option.some.injEq] at h3; subst h3; cases h
        · cases h3
    | none =>
      rw [hq] at h
      simp only at h ⊢
      split at h
      · cases h
      · rename_i h30
        simp only [h30, if_false]
        cases hr : srch (pR D.length R) R.length 0 with
        | some i => rw [hr] at h; cases h
        | none =>
          refine ⟨⟨by omega, by omega, fun i hi => ?_⟩, rfl⟩
          have := srch_none.1 hr i (by omega) (by omega)
          have hn : (!inW (R.getD i r0).1 0 ((D.length : Int) - 1) || !inW (R.getD i r0).2.2.1 0 ((D.length : Int) - 1)) = false := by
            cases hc : (!inW (R.getD i r0).1 0 ((D.length : Int) - 1) || !inW (R.getD i r0).2.2.1 0 ((D.length : Int) - 1)) with
            | false => rfl
            | true => unfold pR at this; rw [hc] at this; cases this
          simp only [inW, Bool.or_eq_false_iff, Bool.not_eq_false', Bool.and_eq_true, decide_eq_true_eq] at hn
          omega

theorem f103_err {D : List ByteArray} {R : List Rule} {S : Rows} (hR : R.length < 1000) (hb : ∀ x ∈ D, x.size ≤ 9223372036854775807) (he : (chkC D R).2 ≠ 0) {k1 : Int → Option α} {k2 : Rows → Rows → Rows → Option α} : f103_0 α (D.map rS) (R.map rR) S k1 k2 = k1 (chkC D R).2 := by
  simp only [f103_0, f103_0g]
  rw [f45_eq hR hb]
  have : ((chkC D R).2 != 0) = true := by simpa using he
  rw [this]; rfl
abbrev rSl (s : List Bool) : List DC := [.sl (s.map rB1)]
theorem f103_ok {D : List ByteArray} {R : List Rule} {S : List (List Bool)} (hR : R.length < 1000) (hb : ∀ x ∈ D, x.size ≤ 9223372036854775807) (he : (chkC D R).2 = 0) (hS : S.length < 1000) {k1 : Int → Option α} {k2 : Rows → Rows → Rows → Option α} :
    f103_0 α (D.map rS) (R.map rR) (S.map rSl) k1 k2 = if ∃ s ∈ S, s.length ≠ D.length then k1 12 else k2 (D.map rS) (R.map rR) ((S.map fun s => (num s : Int)).map rI1) := by
  obtain ⟨hg, _⟩ := chkC_ok he
  have h8 := hg.d8
  simp only [f103_0, f103_0g]
  rw [f45_eq hR hb, he]
  simp only [bne_self_eq_false, cK_false, L103_0_0, List.length_map]
  have key : ∀ (m i n : Nat), i + m = S.length → m < n → (∀ s ∈ S.take i, s.length = D.length) → R103_0_0 α (S.map rSl) ((S.length : Nat) : Int) (D.map rS) (k1 12) (fun _ _ x19 => k2 (D.map rS) (R.map rR) x19) n (i : Int) (((S.take i).map fun s => (num s : Int)).map rI1) =
      if ∃ s ∈ S, s.length ≠ D.length then k1 12 else k2 (D.map rS) (R.map rR) ((S.map fun s => (num s : Int)).map rI1) := by
    intro m
    induction m with
    | zero =>
      intro i n h1 h2 h3
      obtain ⟨n, rfl⟩ : ∃ k, n = k + 1 := ⟨n - 1, by omega⟩
      have : i = S.length := by omega
      subst this
      simp only [R103_0_0, S103_0_0, S103_0_0g, Int.lt_irrefl, decide_false, cK_false, List.take_length] at h3 ⊢
      rw [if_neg]
      rintro ⟨s, hs, hn⟩
      exact hn (h3 s hs)
    | succ m ih =>
      intro i n h1 h2 h3
      obtain ⟨n, rfl⟩ : ∃ k, n = k + 1 := ⟨n - 1, by omega⟩
      have hi : i < S.length := by omega
      simp only [R103_0_0, S103_0_0, S103_0_0g, lt_len, hi, decide_true, cK_true]
      have e : rowK (S.map rSl) (i : Int) [.sl] = fun f : Rows → Option α => f ((S[i]'hi).map rB1) := by
        funext f
        exact (rowK_get (sh := [.sl]) (f := f) (r := rSl (S[i]'hi)) (by simp [hi])).trans rfl
      rw [e]
      simp only [List.length_map]
      by_cases hl : (S[i]'hi).length = D.length
      · have : ((((S[i]'hi).length : Nat) : Int) != ((D.length : Nat) : Int)) = false := by simp [hl]
        rw [this, cK_false, f126_eq (by omega), w64_su hi (by omega), show [[DC.v (Value.int .i64 (num (S[i]'hi) : Int))]] = [(num (S[i]'hi) : Int)].map rI1 from rfl, apOk_of (enc := rI1) (l := [(num (S[i]'hi) : Int)]) (fun _ => rfl) (by simp; omega) (by simp; omega), gK_true]
        have h4 : S.take (i + 1) = S.take i ++ [S[i]'hi] := by simp
        have := ih (i + 1) n (by omega) (by omega) (by
          rw [h4]; intro s hs
          rcases List.mem_append.1 hs with h | h
          · exact h3 s h
          · rw [List.mem_singleton.1 h]; exact hl)
        rw [h4, List.map_append, List.map_append] at this
        exact this
      · have : ((((S[i]'hi).length : Nat) : Int) != ((D.length : Nat) : Int)) = true := by simp; omega
        rw [this, cK_true, if_pos ⟨S[i]'hi, List.getElem_mem _, hl⟩]
  have := fuel_ge
  exact key S.length 0 fuel (by omega) (by omega) (by simp)

theorem fl3 {x : Option α} : flatK [([] : Rows), ([] : Rows), ([] : Rows)] x = x := rfl
end Go.AM.K
