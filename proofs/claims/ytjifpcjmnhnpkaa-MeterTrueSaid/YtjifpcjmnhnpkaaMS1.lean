/- Chapter 6: scans. -/
import Derived.Test.YtjifpcjmnhnpkaaMF1
import Derived.Test.YtjifpcjmnhnpkaaML2
namespace Go.AM.K
set_option linter.unusedVariables false
set_option linter.unusedSimpArgs false
variable {α : Type}
abbrev rF (x : Nat) : List DC := [.v (.float .f32 x)]
theorem rowK_F {s : List Nat} {i : Nat} (h : i < s.length) {f : Nat → Option α} : rowK (s.map rF) (i : Int) [.flt .f32] f = f (s[i]'h) :=
  (rowK_get (sh := [.flt .f32]) (f := f) (r := rF (s[i]'h)) (by simp [h])).trans rfl
theorem ix_I {l : List Int} {i : Nat} (h : i < l.length) {x : Option α} : ixK (l.map rI1) (i : Int) 1 x = x := by
  unfold ixK
  have : rowAt (l.map rI1) (i : Int).toNat = rI1 (l[i]'h) := by
    simp [rowAt, List.getD_eq_getElem?_getD, h]
  rw [decide_eq_true (by rw [this, List.length_map]; exact ⟨by omega, by omega, rfl⟩)]
theorem ld_I {l : List Int} {i : Nat} (h : i < l.length) {f : Int → Option α} : ldK (l.map rI1) (Int.toNat (i : Int)) 0 [.int .i64] f = f (l[i]'h) := by
  unfold ldK
  have : rowAt (l.map rI1) (i : Int).toNat = rI1 (l[i]'h) := by
    simp [rowAt, List.getD_eq_getElem?_getD, h]
  rw [decide_eq_true (show Int.toNat (i : Int) < (l.map rI1).length by simpa using h), this]
  rfl
theorem ap1 {X : Rows} {x : Int} (h : X.length < 1000) : apOk 1 8 X [[DC.v (.int .i64 x)]] = true :=
  apOk_of (enc := rI1) (n := 1) (b := 8) (fun _ => rfl) (rows := X) (l := [x]) (by simp; omega) (by simp; omega)
def chkGo : List Nat → Nat → Option (Nat × Int)
  | [], _ => none
  | x :: r, i => match chkS x with
    | some e => some (i, e)
    | none => chkGo r (i + 1)
def scanOk (l : List Nat) (M F : Int) : Int := if (4 ≤ l.length ∧ l.length ≤ 64) ∧ l.length % 4 = 0 then (if (0 ≤ M ∧ M ≤ 65535) ∧ 1 ≤ F ∧ F ≤ 65536 then 0 else 2) else 12
def scanE (l : List Nat) (M F : Int) : Int × Int := if scanOk l M F ≠ 0 then (0, scanOk l M F) else match chkGo l 0 with | some p => (p.1, p.2) | none => (0, 0)
abbrev smpR (x : Nat) : List DC := rI1 (smp x)
theorem R67_eq {l : List Nat} (hl : l.length ≤ 64) {k1 : Int → Int → Option α} {k2 : Int → Bool → Rows → Option α} : ∀ (m i n : Nat), i + m = l.length → m < n →
    R67_0_1 α (l.map rF) (l.length : Int) k1 k2 n (i : Int) ((l.take i).map smpR) = match chkGo (l.drop i) i with | some p => k1 p.1 p.2 | none => k2 (l.length : Int) false (l.map smpR) := by
  intro m
  induction m with
  | zero =>
    intro i n h1 h2
    obtain ⟨n, rfl⟩ : ∃ z, n = z + 1 := ⟨n - 1, by omega⟩
    rw [List.drop_eq_nil_of_le (by omega), List.take_of_length_le (by omega)]
    have hi : i = l.length := by omega
    simp only [R67_0_1, S67_0_1, S67_0_1g, chkGo]
    rw [hi, decide_eq_false (by omega)]; rfl
  | succ m ih =>
    intro i n h1 h2
    obtain ⟨n, rfl⟩ : ∃ z, n = z + 1 := ⟨n - 1, by omega⟩
    have hi : i < l.length := by omega
    rw [List.drop_eq_getElem_cons hi]
    simp only [R67_0_1, S67_0_1, S67_0_1g, chkGo]
    rw [decide_eq_true (by omega), cK_true, rowK_F hi, f118_eq]
    cases hc : chkS (l[i]'hi) with
    | some e =>
      simp only []
      have : e ≠ 0 := by rcases chkS_err hc with rfl | rfl <;> decide
      rw [bne_iff_ne.2 this, cK_true]
    | none =>
      simp only []
      rw [bne_self_eq_false, cK_false, ap1 (by simp; omega), gK_true, w64_in (by omega) (by omega), show (i : Int) + 1 = ((i + 1 : Nat) : Int) by omega, ← ih (i + 1) n (by omega) (by omega), List.take_succ_eq_append_getElem hi, List.map_append]
      rfl
theorem tmod4 {n : Nat} : (Int.tmod (n : Int) 4 != 0) = decide (n % 4 ≠ 0) := by
  rw [Int.tmod_eq_emod_of_nonneg (by omega)]
  by_cases h : n % 4 = 0
  · rw [show (n : Int) % 4 = 0 by omega]; simp [h]
  · rw [bne_iff_ne.2 (show (n : Int) % 4 ≠ 0 by omega), decide_eq_true h]
theorem scanE_bad {l : List Nat} {M F : Int} (h : scanOk l M F ≠ 0) : scanE l M F = (0, scanOk l M F) := by unfold scanE; rw [if_pos h]
theorem scanE_some {l : List Nat} {M F : Int} {p : Nat × Int} (h : scanOk l M F = 0) (hp : chkGo l 0 = some p) : scanE l M F = ((p.1 : Int), p.2) := by unfold scanE; rw [if_neg (fun hh => hh h), hp]
theorem scanE_none {l : List Nat} {M F : Int} (h : scanOk l M F = 0) (hp : chkGo l 0 = none) : scanE l M F = (0, 0) := by unfold scanE; rw [if_neg (fun hh => hh h), hp]
theorem chkGo_ne : ∀ (r : List Nat) (i : Nat) (q : Nat × Int), chkGo r i = some q → q.2 ≠ 0
  | [], i, q, h => by cases h
  | x :: r, i, q, h => by
    simp only [chkGo] at h
    cases hc : chkS x with
    | none => rw [hc] at h; exact chkGo_ne r _ _ h
    | some e =>
      rw [hc] at h
      simp only [Option.some.injEq] at h
      subst h
      rcases chkS_err hc with rfl | rfl
      · show (27 : Int) ≠ 0; decide
      · show (2 : Int) ≠ 0; decide
theorem scan12 {l : List Nat} {M F : Int} (h : ¬ ((4 ≤ l.length ∧ l.length ≤ 64) ∧ l.length % 4 = 0)) : scanE l M F = (0, 12) := by
  have e : scanOk l M F = 12 := by unfold scanOk; rw [if_neg h]
  rw [scanE_bad (by rw [e]; decide), e]
theorem scan2 {l : List Nat} {M F : Int} (h : (4 ≤ l.length ∧ l.length ≤ 64) ∧ l.length % 4 = 0) (h2 : ¬ ((0 ≤ M ∧ M ≤ 65535) ∧ 1 ≤ F ∧ F ≤ 65536)) : scanE l M F = (0, 2) := by
  have e : scanOk l M F = 2 := by unfold scanOk; rw [if_pos h, if_neg h2]
  rw [scanE_bad (by rw [e]; decide), e]
theorem scan0 {l : List Nat} {M F : Int} (h : (4 ≤ l.length ∧ l.length ≤ 64) ∧ l.length % 4 = 0) (h2 : (0 ≤ M ∧ M ≤ 65535) ∧ 1 ≤ F ∧ F ≤ 65536) : scanOk l M F = 0 := by unfold scanOk; rw [if_pos h, if_pos h2]
theorem f67_eq {l : List Nat} {M F : Int} {k : Rows → Int → Int → Int → Int → Option α} : f67_0 α (l.map rF) M F k = if (scanE l M F).2 ≠ 0 then k [] 0 0 (scanE l M F).1 (scanE l M F).2 else k (l.map smpR) M F 0 0 := by
  have hf := fuel_ge
  simp only [f67_0, f67_0g, J67_0_0, J67_0_0g, L67_0_1, f98_eq, List.length_map, tmod4]
  by_cases h1 : l.length % 4 = 0
  · rw [decide_eq_false (fun h => h h1), cK_false]
    by_cases h2 : 4 ≤ l.length ∧ l.length ≤ 64
    · rw [decide_eq_true (show (4 : Int) ≤ (l.length : Int) ∧ (l.length : Int) ≤ 64 by omega), Bool.not_true, cK_false]
      by_cases h3 : 0 ≤ M ∧ M ≤ 65535
      · rw [decide_eq_true h3, Bool.not_true, cK_false]
        by_cases h4 : 1 ≤ F ∧ F ≤ 65536
        · rw [decide_eq_true h4, Bool.not_true, cK_false]
          have h0 := scan0 (l := l) (M := M) (F := F) ⟨h2, h1⟩ ⟨h3, h4⟩
          have h5 := R67_eq (α := α) (l := l) h2.2 (k1 := fun x30 x31 => k [] 0 0 x30 x31) (k2 := fun x32 x33 x34 => k x34 M F 0 0) l.length 0 fuel (by omega) (by omega)
          rw [List.take_zero, List.map_nil, List.drop_zero] at h5
          refine h5.trans ?_
          cases hg : chkGo l 0 with
          | none => rw [scanE_none h0 hg, if_neg (by decide)]
          | some p => rw [scanE_some h0 hg, if_pos (chkGo_ne _ _ _ hg)]
        · rw [decide_eq_false h4, Bool.not_false, cK_true, scan2 ⟨h2, h1⟩ (fun h => h4 h.2), if_pos (by decide)]
      · rw [decide_eq_false h3, Bool.not_false, cK_true, scan2 ⟨h2, h1⟩ (fun h => h3 h.1), if_pos (by decide)]
    · rw [decide_eq_false (show ¬ ((4 : Int) ≤ (l.length : Int) ∧ (l.length : Int) ≤ 64) by omega), Bool.not_false, cK_true, scan12 (fun h => h2 h.1), if_pos (by decide)]
  · rw [decide_eq_true h1, cK_true, cK_true, scan12 (fun h => h1 h.2), if_pos (by decide)]
theorem scan_ok {l : List Nat} {M F : Int} (h : (scanE l M F).2 = 0) : ((4 ≤ l.length ∧ l.length ≤ 64) ∧ l.length % 4 = 0) ∧ ((0 ≤ M ∧ M ≤ 65535) ∧ 1 ≤ F ∧ F ≤ 65536) ∧ (scanE l M F).1 = 0 ∧ ∀ x ∈ l, chkS x = none := by
  by_cases h1 : (4 ≤ l.length ∧ l.length ≤ 64) ∧ l.length % 4 = 0
  · by_cases h2 : (0 ≤ M ∧ M ≤ 65535) ∧ 1 ≤ F ∧ F ≤ 65536
    · have h0 := scan0 (l := l) h1 h2
      cases hg : chkGo l 0 with
      | some p => rw [scanE_some h0 hg] at h; exact absurd h (chkGo_ne _ _ _ hg)
      | none =>
        refine ⟨h1, h2, by rw [scanE_none h0 hg], ?_⟩
        have : ∀ (r : List Nat) (i : Nat), chkGo r i = none → ∀ x ∈ r, chkS x = none := by
          intro r
          induction r with
          | nil => intro i _ x hx; cases hx
          | cons y r ih =>
            intro i hr x hx
            simp only [chkGo] at hr
            cases hc : chkS y with
            | some e => rw [hc] at hr; cases hr
            | none =>
              rw [hc] at hr
              rcases List.mem_cons.1 hx with rfl | hx
              · exact hc
              · exact ih _ hr x hx
        exact this l 0 hg
    · rw [scan2 h1 h2] at h; cases h
  · rw [scan12 h1] at h; cases h
end Go.AM.K
