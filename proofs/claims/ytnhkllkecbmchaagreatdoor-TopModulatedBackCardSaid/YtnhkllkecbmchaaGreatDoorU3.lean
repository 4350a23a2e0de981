/- Plain laws of the meter. -/
import Derived.Test.YtnhkllkecbmchaaGreatDoorU1
import Derived.Test.YtnhkllkecbmchaaGreatDoorKNa
-- MF1
namespace Go.AM.K
open Ieee
set_option linter.unusedVariables false
set_option linter.unusedSimpArgs false
variable {α : Type}
theorem bigS {s : Bool} {m : Nat} {p : Int} (h1 : -149 <= p) (h3 : m < 2 ^ 24) (h : 1073741824 * (UU : Int) < (vl (.number s m p)).natAbs) : whl (vl (.number s m p)) = true := by
  rw [vl_abs, sgn_abs] at h
  unfold whl
  rw [vl_abs, sgn_abs]
  have hp : 0 <= p := by
    by_cases hp : 0 <= p
    · exact hp
    · have h4 : 2 ^ (p + 1074).toNat <= UU := Nat.pow_le_pow_right (by decide) (by have := eU_def; omega)
      have h5 : m * 2 ^ (p + 1074).toNat <= 16777216 * UU := Nat.mul_le_mul (by omega) h4
      omega
  apply decide_eq_true
  rw [show (p + 1074).toNat = p.toNat + eU by have := eU_def; omega, Nat.pow_add, <- Nat.mul_assoc]
  exact Nat.mul_mod_left _ _
def chkS (x : Nat) : Option Int := match FloatKind.f32.decode x with
  | .number s m p => if whl (vl (.number s m p)) = false then some 27 else if vl (.number s m p) < 0 then some 2 else if 65535 * (UU : Int) < vl (.number s m p) then some 2 else none
  | _ => some 27
def smp (x : Nat) : Int := (f2i .f32 x .i64).getD 0
theorem c30 : ∃ s m i, FloatKind.f32.decode 1317011456 = .number s m i /\ -149 <= i /\ vl (.number s m i) = 1073741824 * (UU : Int) := by
  obtain ⟨t, m, i, h1, h2, h3⟩ := whole_encS false 1073741824 (.inr (by decide)) (by decide)
  have e : FloatKind.f32.encode (.number false 1073741824 0) = 1317011456 := by decide +kernel
  rw [e] at h1
  exact ⟨t, m, i, h1, h2, h3⟩
theorem cn30 : ∃ s m i, FloatKind.f32.decode 3464495104 = .number s m i /\ -149 <= i /\ vl (.number s m i) = -1073741824 * (UU : Int) := by
  obtain ⟨t, m, i, h1, h2, h3⟩ := whole_encS true 1073741824 (.inr (by decide)) (by decide)
  have e : FloatKind.f32.encode (.number true 1073741824 0) = 3464495104 := by decide +kernel
  rw [e] at h1
  refine ⟨t, m, i, h1, h2, h3.trans ?_⟩
  simp [sgn]
theorem c0S : ∃ s m i, FloatKind.f32.decode 0 = .number s m i /\ -149 <= i /\ vl (.number s m i) = 0 := ⟨false, 0, -149, by decide, by omega, by decide⟩
theorem f239_eq {x : Nat} {k : Int -> Int -> Option α} : f239_0 α x 0 65535 k = match chkS x with | none => k (smp x) 0 | some e => k 0 e := by
  unfold chkS
  obtain ⟨s0, m0, i0, z1, z2, z3⟩ := c0S
  obtain ⟨s3, m3, i3, a1, a2, a3⟩ := c30
  obtain ⟨s4, m4, i4, b1, b2, b3⟩ := cn30
  have hU := UU_pos
  simp only [f239_0, f239_0g, J239_0_0, J239_0_0g, J239_0_1, J239_0_1g]
  have ne : ∀ o : Option Ordering, (o != some Ordering.eq) = !(o == some Ordering.eq) := fun o => rfl
  simp only [ne]
  rcases read32 (n := x) with ⟨s, m, p, hx, h1, h2, h3⟩ | ⟨s, hx⟩ | hn
  · rw [hx]
    simp only []
    rw [ord_eqS hx hx h1 h1, decide_eq_true rfl, Bool.not_true, cK_false, sub_self_numS hx]
    simp only [flN]
    rw [ord_eqS z1 z1 z2 z2, decide_eq_true rfl, Bool.not_true, cK_false, ord_gtS hx a1 h1 a2, ord_ltS hx b1 h1 b2, a3, b3]
    by_cases g1 : 1073741824 * (UU : Int) < vl (.number s m p)
    · rw [decide_eq_true g1, cK_true, cK_true, bigS h1 h3 (by omega)]
      have : ¬ vl (.number s m p) < 0 := by omega
      have g : 65535 * (UU : Int) < vl (.number s m p) := by omega
      simp [this, g]
    · rw [decide_eq_false g1, cK_false]
      by_cases g2 : vl (.number s m p) < -1073741824 * (UU : Int)
      · rw [decide_eq_true g2, cK_true, bigS h1 h3 (by omega)]
        have : vl (.number s m p) < 0 := by omega
        simp [this]
      · rw [decide_eq_false g2, cK_false]
        have hq : qt m p <= 1073741824 := by
          rw [qt_eq (by omega)]
          have hA : m * 2 ^ (p + 1074).toNat <= 1073741824 * UU := by
            have e : (vl (.number s m p)).natAbs = m * 2 ^ (p + 1074).toNat := by rw [vl_abs, sgn_abs]
            rw [<- e]; omega
          calc m * 2 ^ (p + 1074).toNat / UU <= 1073741824 * UU / UU := Nat.div_le_div_right hA
            _ = 1073741824 := Nat.mul_div_cancel _ hU
        have hf : f2i .f32 x .i64 = some (sgn s (qt m p)) := by
          unfold f2i
          rw [toInt_numS hx]
          simp only
          rw [if_pos]
          have : IntKind.min .i64 = -9223372036854775808 := by decide
          have : IntKind.max .i64 = 9223372036854775807 := by decide
          cases s <;> simp only [sgn, Bool.false_eq_true, if_false, if_true] <;> omega
        have hsm : smp x = sgn s (qt m p) := by unfold smp; rw [hf]; rfl
        obtain ⟨t, m', i', n1, n2, n3⟩ := nearest_numS (s := s) h1 h2 h3
        rw [hf]
        simp only [ivK]
        rw [ord_eqS n1 hx n2 h1, n3, whl_qt (by omega), hsm]
        cases hw : whl (vl (.number s m p)) with
        | false => simp
        | true =>
          have hv : sgn s (qt m p) * (UU : Int) = vl (.number s m p) := by
            have := whl_qt (s := s) (m := m) (i := p) (by omega)
            rw [hw] at this
            exact of_decide_eq_true this
          rw [Bool.not_true, cK_false, f215_eq]
          simp only [Bool.true_eq_false, if_false]
          rw [<- hv]
          generalize sgn s (qt m p) = n at *
          have u0 : n * (UU : Int) < 0 ↔ n < 0 := by have := mulU_lt (a := n) (b := 0); rwa [Int.zero_mul] at this
          have u1 : 65535 * (UU : Int) < n * (UU : Int) ↔ 65535 < n := mulU_lt
          by_cases g3 : n < 0
          · rw [decide_eq_false (by omega), if_pos (u0.2 g3)]; rfl
          · rw [if_neg (fun h => g3 (u0.1 h))]
            by_cases g4 : 65535 < n
            · rw [decide_eq_false (by omega), if_pos (u1.2 g4)]; rfl
            · rw [decide_eq_true (by omega), if_neg (fun h => g4 (u1.1 h))]; rfl
  · have h1 := ord_self_infS hx hx
    rw [h1, Bool.not_true, cK_false, sub_self_infS hx, hx]
    rfl
  · obtain ⟨s, t, hd⟩ := isNaNb_iff.1 hn
    have h1 : ((FloatKind.format .f32).order x x == some Ordering.eq) = false := by
      show ((FloatKind.f32.decode x).order (FloatKind.f32.decode x) == some Ordering.eq) = false
      have hd' : FloatKind.f32.decode x = .nan s t := hd
      rw [hd']; rfl
    have hd' : FloatKind.f32.decode x = .nan s t := hd
    rw [h1, Bool.not_false, cK_true, cK_true, hd']
theorem chkS_err {x : Nat} {e : Int} (h : chkS x = some e) : e = 27 \/ e = 2 := by
  unfold chkS at h
  split at h
  · split at h
    · simp only [Option.some.injEq] at h; exact .inl h.symm
    · split at h
      · simp only [Option.some.injEq] at h; exact .inr h.symm
      · split at h
        · simp only [Option.some.injEq] at h; exact .inr h.symm
        · cases h
  · simp only [Option.some.injEq] at h; exact .inl h.symm
theorem smp_ok {x : Nat} (h : chkS x = none) : f2i .f32 x .i64 = some (smp x) /\ 0 <= smp x /\ smp x <= 65535 := by
  unfold chkS at h
  split at h
  · rename_i s m p hx
    have hp : -149 <= p := by
      rcases read32 (n := x) with ⟨s', m', p', hx', h1, h2, h3⟩ | ⟨s', hx'⟩ | hn
      · rw [hx] at hx'; cases hx'; exact h1
      · rw [hx] at hx'; cases hx'
      · obtain ⟨s', t, hd⟩ := isNaNb_iff.1 hn; have hd' : FloatKind.f32.decode x = .nan s' t := hd; rw [hx] at hd'; cases hd'
    split at h
    · cases h
    · rename_i hw
      split at h
      · cases h
      · rename_i hneg
        split at h
        · cases h
        · rename_i hbig
          have hw' : whl (vl (.number s m p)) = true := by cases hq : whl (vl (.number s m p)); exact absurd hq hw; rfl
          have hv : sgn s (qt m p) * (UU : Int) = vl (.number s m p) := by
            have := whl_qt (s := s) (m := m) (i := p) (by omega)
            rw [hw'] at this
            exact of_decide_eq_true this
          rw [<- hv] at hneg hbig
          have n1 : 0 <= sgn s (qt m p) := by
            have := mulU_lt (a := sgn s (qt m p)) (b := 0); rw [Int.zero_mul] at this
            have := fun h => hneg (this.2 h)
            omega
          have n2 : sgn s (qt m p) <= 65535 := by
            by_cases hc : 65535 < sgn s (qt m p)
            · exact absurd (mulU_lt.2 hc) hbig
            · omega
          have hf : f2i .f32 x .i64 = some (sgn s (qt m p)) := by
            unfold f2i
            rw [toInt_numS hx]
            simp only
            rw [if_pos]
            have : IntKind.min .i64 = -9223372036854775808 := by decide
            have : IntKind.max .i64 = 9223372036854775807 := by decide
            omega
          unfold smp
          rw [hf]
          exact ⟨rfl, n1, n2⟩
  · cases h
end Go.AM.K
-- MS1
namespace Go.AM.K
set_option linter.unusedVariables false
set_option linter.unusedSimpArgs false
variable {α : Type}
abbrev rF (x : Nat) : List DC := [.v (.float .f32 x)]
theorem rowK_F {s : List Nat} {i : Nat} (h : i < s.length) {f : Nat -> Option α} : rowK (s.map rF) (i : Int) [.flt .f32] f = f (s[i]'h) :=
  (rowK_get (sh := [.flt .f32]) (f := f) (r := rF (s[i]'h)) (by simp [h])).trans rfl
theorem ix_I {l : List Int} {i : Nat} (h : i < l.length) {x : Option α} : ixK (l.map rI1) (i : Int) 1 x = x := by
  unfold ixK
  have : rowAt (l.map rI1) (i : Int).toNat = rI1 (l[i]'h) := by
    simp [rowAt, List.getD_eq_getElem?_getD, h]
  rw [decide_eq_true (by rw [this, List.length_map]; exact ⟨by omega, by omega, rfl⟩)]
theorem ld_I {l : List Int} {i : Nat} (h : i < l.length) {f : Int -> Option α} : ldK (l.map rI1) (Int.toNat (i : Int)) 0 [.int .i64] f = f (l[i]'h) := by
  unfold ldK
  have : rowAt (l.map rI1) (i : Int).toNat = rI1 (l[i]'h) := by
    simp [rowAt, List.getD_eq_getElem?_getD, h]
  rw [decide_eq_true (show Int.toNat (i : Int) < (l.map rI1).length by simpa using h), this]
  rfl
theorem ap1 {X : Rows} {x : Int} (h : X.length < 1000) : apOk 1 8 X [[DC.v (.int .i64 x)]] = true :=
  apOk_of (enc := rI1) (n := 1) (b := 8) (fun _ => rfl) (rows := X) (l := [x]) (by simp; omega) (by simp; omega)
def chkGo : List Nat -> Nat -> Option (Nat × Int)
  | [], _ => none
  | x :: r, i => match chkS x with
    | some e => some (i, e)
    | none => chkGo r (i + 1)
def scanOk (l : List Nat) (M F : Int) : Int := if (4 <= l.length /\ l.length <= 64) /\ l.length % 4 = 0 then (if (0 <= M /\ M <= 65535) /\ 1 <= F /\ F <= 65536 then 0 else 2) else 12
def scanE (l : List Nat) (M F : Int) : Int × Int := if scanOk l M F ≠ 0 then (0, scanOk l M F) else match chkGo l 0 with | some p => (p.1, p.2) | none => (0, 0)
abbrev smpR (x : Nat) : List DC := rI1 (smp x)
theorem R165_eq {l : List Nat} (hl : l.length <= 64) {k1 : Int -> Int -> Option α} {k2 : Int -> Bool -> Rows -> Option α} : ∀ (m i n : Nat), i + m = l.length -> m < n ->
    R165_0_1 α (l.map rF) (l.length : Int) k1 k2 n (i : Int) ((l.take i).map smpR) = match chkGo (l.drop i) i with | some p => k1 p.1 p.2 | none => k2 (l.length : Int) false (l.map smpR) := by
  intro m
  induction m with
  | zero =>
    intro i n h1 h2
    obtain ⟨n, rfl⟩ : ∃ z, n = z + 1 := ⟨n - 1, by omega⟩
    rw [List.drop_eq_nil_of_le (by omega), List.take_of_length_le (by omega)]
    have hi : i = l.length := by omega
    simp only [R165_0_1, S165_0_1, S165_0_1g, chkGo]
    rw [hi, decide_eq_false (by omega)]; rfl
  | succ m ih =>
    intro i n h1 h2
    obtain ⟨n, rfl⟩ : ∃ z, n = z + 1 := ⟨n - 1, by omega⟩
    have hi : i < l.length := by omega
    rw [List.drop_eq_getElem_cons hi]
    simp only [R165_0_1, S165_0_1, S165_0_1g, chkGo]
    rw [decide_eq_true (by omega), cK_true, rowK_F hi, f239_eq]
    cases hc : chkS (l[i]'hi) with
    | some e =>
      simp only []
      have : e ≠ 0 := by rcases chkS_err hc with rfl | rfl <;> decide
      rw [bne_iff_ne.2 this, cK_true]
    | none =>
      simp only []
      rw [bne_self_eq_false, cK_false, ap1 (by simp; omega), gK_true, w64_in (by omega) (by omega), show (i : Int) + 1 = ((i + 1 : Nat) : Int) by omega, <- ih (i + 1) n (by omega) (by omega), List.take_succ_eq_append_getElem hi, List.map_append]
      rfl
theorem tmod4 {n : Nat} : (Int.tmod (n : Int) 4 != 0) = decide (n % 4 ≠ 0) := by
  rw [Int.tmod_eq_emod_of_nonneg (by omega)]
  by_cases h : n % 4 = 0
  · rw [show (n : Int) % 4 = 0 by omega]; simp [h]
  · rw [bne_iff_ne.2 (show (n : Int) % 4 ≠ 0 by omega), decide_eq_true h]
theorem scanE_bad {l : List Nat} {M F : Int} (h : scanOk l M F ≠ 0) : scanE l M F = (0, scanOk l M F) := by unfold scanE; rw [if_pos h]
theorem scanE_some {l : List Nat} {M F : Int} {p : Nat × Int} (h : scanOk l M F = 0) (hp : chkGo l 0 = some p) : scanE l M F = ((p.1 : Int), p.2) := by unfold scanE; rw [if_neg (fun hh => hh h), hp]
theorem scanE_none {l : List Nat} {M F : Int} (h : scanOk l M F = 0) (hp : chkGo l 0 = none) : scanE l M F = (0, 0) := by unfold scanE; rw [if_neg (fun hh => hh h), hp]
theorem chkGo_ne : ∀ (r : List Nat) (i : Nat) (q : Nat × Int), chkGo r i = some q -> q.2 ≠ 0
  | [], i, q, h => by cases h
  | x :: r, i, q, h => by
    simp only [chkGo] at h
    cases hc : chkS x with
    | none => rw [hc] at h; exact chkGo_ne r _ _ h
    | some e =>
      rw [hc] at h
      simp only [Option.some.injEq] at h
      subst h
      rcases chkS_err hc with rfl | rfl
      · show (27 : Int) ≠ 0; decide
      · show (2 : Int) ≠ 0; decide
theorem scan12 {l : List Nat} {M F : Int} (h : ¬ ((4 <= l.length /\ l.length <= 64) /\ l.length % 4 = 0)) : scanE l M F = (0, 12) := by
  have e : scanOk l M F = 12 := by unfold scanOk; rw [if_neg h]
  rw [scanE_bad (by rw [e]; decide), e]
theorem scan2 {l : List Nat} {M F : Int} (h : (4 <= l.length /\ l.length <= 64) /\ l.length % 4 = 0) (h2 : ¬ ((0 <= M /\ M <= 65535) /\ 1 <= F /\ F <= 65536)) : scanE l M F = (0, 2) := by
  have e : scanOk l M F = 2 := by unfold scanOk; rw [if_pos h, if_neg h2]
  rw [scanE_bad (by rw [e]; decide), e]
theorem scan0 {l : List Nat} {M F : Int} (h : (4 <= l.length /\ l.length <= 64) /\ l.length % 4 = 0) (h2 : (0 <= M /\ M <= 65535) /\ 1 <= F /\ F <= 65536) : scanOk l M F = 0 := by unfold scanOk; rw [if_pos h, if_pos h2]
theorem f165_eq {l : List Nat} {M F : Int} {k : Rows -> Int -> Int -> Int -> Int -> Option α} : f165_0 α (l.map rF) M F k = if (scanE l M F).2 ≠ 0 then k [] 0 0 (scanE l M F).1 (scanE l M F).2 else k (l.map smpR) M F 0 0 := by
  have hf := fuel_ge
  simp only [f165_0, f165_0g, J165_0_0, J165_0_0g, L165_0_1, f215_eq, List.length_map, tmod4]
  by_cases h1 : l.length % 4 = 0
  · rw [decide_eq_false (fun h => h h1), cK_false]
    by_cases h2 : 4 <= l.length /\ l.length <= 64
    · rw [decide_eq_true (show (4 : Int) <= (l.length : Int) /\ (l.length : Int) <= 64 by omega), Bool.not_true, cK_false]
      by_cases h3 : 0 <= M /\ M <= 65535
      · rw [decide_eq_true h3, Bool.not_true, cK_false]
        by_cases h4 : 1 <= F /\ F <= 65536
        · rw [decide_eq_true h4, Bool.not_true, cK_false]
          have h0 := scan0 (l := l) (M := M) (F := F) ⟨h2, h1⟩ ⟨h3, h4⟩
          have h5 := R165_eq (α := α) (l := l) h2.2 (k1 := fun x30 x31 => k [] 0 0 x30 x31) (k2 := fun x32 x33 x34 => k x34 M F 0 0) l.length 0 fuel (by omega) (by omega)
          rw [List.take_zero, List.map_nil, List.drop_zero] at h5
          refine h5.trans ?_
          cases hg : chkGo l 0 with
          | none => rw [scanE_none h0 hg, if_neg (by decide)]
          | some p => rw [scanE_some h0 hg, if_pos (chkGo_ne _ _ _ hg)]
        · rw [decide_eq_false h4, Bool.not_false, cK_true, scan2 ⟨h2, h1⟩ (fun h => h4 h.2), if_pos (by decide)]
      · rw [decide_eq_false h3, Bool.not_false, cK_true, scan2 ⟨h2, h1⟩ (fun h => h3 h.1), if_pos (by decide)]
    · rw [decide_eq_false (show ¬ ((4 : Int) <= (l.length : Int) /\ (l.length : Int) <= 64) by omega), Bool.not_false, cK_true, scan12 (fun h => h2 h.1), if_pos (by decide)]
  · rw [decide_eq_true h1, cK_true, cK_true, scan12 (fun h => h1 h.2), if_pos (by decide)]
theorem scan_ok {l : List Nat} {M F : Int} (h : (scanE l M F).2 = 0) : ((4 <= l.length /\ l.length <= 64) /\ l.length % 4 = 0) /\ ((0 <= M /\ M <= 65535) /\ 1 <= F /\ F <= 65536) /\ (scanE l M F).1 = 0 /\ ∀ x ∈ l, chkS x = none := by
  by_cases h1 : (4 <= l.length /\ l.length <= 64) /\ l.length % 4 = 0
  · by_cases h2 : (0 <= M /\ M <= 65535) /\ 1 <= F /\ F <= 65536
    · have h0 := scan0 (l := l) h1 h2
      cases hg : chkGo l 0 with
      | some p => rw [scanE_some h0 hg] at h; exact absurd h (chkGo_ne _ _ _ hg)
      | none =>
        refine ⟨h1, h2, by rw [scanE_none h0 hg], ?_⟩
        have : ∀ (r : List Nat) (i : Nat), chkGo r i = none -> ∀ x ∈ r, chkS x = none := by
          intro r
          induction r with
          | nil => intro i _ x hx; cases hx
          | cons y r ih =>
            intro i hr x hx
            simp only [chkGo] at hr
            cases hc : chkS y with
            | some e => rw [hc] at hr; cases hr
            | none =>
              rw [hc] at hr
              rcases List.mem_cons.1 hx with rfl | hx
              · exact hc
              · exact ih _ hr x hx
        exact this l 0 hg
    · rw [scan2 h1 h2] at h; cases h
  · rw [scan12 h1] at h; cases h
end Go.AM.K
-- MS2
namespace Go.AM.K
set_option linter.unusedVariables false
set_option linter.unusedSimpArgs false
variable {α : Type}
def satGo (F : Int) : List Int -> Nat -> List Int
  | [], _ => []
  | x :: r, i => if F <= x then (i : Int) :: satGo F r (i + 1) else satGo F r (i + 1)
theorem R166_eq {F : Int} {xs : List Int} (hl : xs.length <= 64) {k : Int -> Bool -> Rows -> Option α} : ∀ (m i n : Nat) (acc : List Int), i + m = xs.length -> m < n -> acc.length <= i ->
    R166_0_0 α (xs.map rI1) (xs.length : Int) F k n (i : Int) (acc.map rI1) = k (xs.length : Int) false ((acc ++ satGo F (xs.drop i) i).map rI1) := by
  intro m
  induction m with
  | zero =>
    intro i n acc h1 h2 h3
    obtain ⟨n, rfl⟩ : ∃ z, n = z + 1 := ⟨n - 1, by omega⟩
    rw [List.drop_eq_nil_of_le (by omega)]
    have hi : i = xs.length := by omega
    simp only [R166_0_0, S166_0_0, S166_0_0g, satGo, List.append_nil]
    rw [hi, decide_eq_false (by omega)]; rfl
  | succ m ih =>
    intro i n acc h1 h2 h3
    obtain ⟨n, rfl⟩ : ∃ z, n = z + 1 := ⟨n - 1, by omega⟩
    have hi : i < xs.length := by omega
    rw [List.drop_eq_getElem_cons hi]
    simp only [R166_0_0, S166_0_0, S166_0_0g, satGo]
    rw [decide_eq_true (by omega), cK_true, rowK_I hi, w64_in (by omega) (by omega), show (i : Int) + 1 = ((i + 1 : Nat) : Int) by omega, cK_dec]
    split
    · rw [ap1 (by simp; omega), gK_true]
      have := ih (i + 1) n (acc ++ [(i : Int)]) (by omega) (by omega) (by simp; omega)
      rw [List.map_append] at this
      refine this.trans ?_
      rw [List.append_assoc]; rfl
    · exact ih (i + 1) n acc (by omega) (by omega) (by omega)
theorem smp_map {l : List Nat} : l.map smpR = (l.map smp).map rI1 := by rw [List.map_map]; rfl
theorem f166_eq {l : List Nat} (hl : l.length <= 64) (hx : ∀ x ∈ l, chkS x = none) {M F : Int} {k : Rows -> Option α} : f166_0 α (l.map smpR) M F k = k ((satGo F (l.map smp) 0).map rI1) := by
  have hf := fuel_ge
  simp only [f166_0, f166_0g, L166_0_0, smp_map, List.length_map]
  have := R166_eq (α := α) (F := F) (xs := l.map smp) (by simpa using hl) (k := fun x13 x14 x15 => k x15) l.length 0 fuel [] (by simp) (by omega) (by simp)
  simpa using this
theorem mul_bd3 {x y A : Int} (hx : 0 <= x /\ x <= A) (hy : 0 <= y /\ y <= 65535) : 0 <= x * y /\ x * y <= A * 65535 := ⟨Int.mul_nonneg hx.1 hy.1, Int.mul_le_mul hx.2 hy.2 hy.1 (by omega)⟩
def cs (xs : List Int) (r : Nat) : Nat -> Int
  | 0 => 0
  | j + 1 => cs xs r j + xs.getD (4 * j + r) 0
theorem cs_bd {xs : List Int} (hx : ∀ x ∈ xs, 0 <= x /\ x <= 65535) (r : Nat) : ∀ j, 0 <= cs xs r j /\ cs xs r j <= 65535 * (j : Int)
  | 0 => by simp [cs]
  | j + 1 => by
    have h := cs_bd hx r j
    have : 0 <= xs.getD (4 * j + r) 0 /\ xs.getD (4 * j + r) 0 <= 65535 := by
      by_cases hi : 4 * j + r < xs.length
      · rw [List.getD_eq_getElem?_getD, List.getElem?_eq_getElem hi]
        exact hx _ (List.getElem_mem hi)
      · rw [List.getD_eq_getElem?_getD, List.getElem?_eq_none (by omega)]; simp
    simp only [cs]
    push_cast
    omega
theorem gD {xs : List Int} {i : Nat} (h : i < xs.length) : xs.getD i 0 = xs[i] := by rw [List.getD_eq_getElem?_getD, List.getElem?_eq_getElem h]; rfl
section
variable {xs : List Int} (hl : xs.length <= 64) (hx : ∀ x ∈ xs, 0 <= x /\ x <= 65535)
include hl hx
theorem S70_eq {i : Nat} (hi : i < xs.length) {a b c d : Int} (ha : 0 <= a /\ a <= 100000000) (hb : 0 <= b /\ b <= 100000000) (hc : 0 <= c /\ c <= 100000000) (hd : 0 <= d /\ d <= 100000000) {kn : Int -> Int -> Int -> Int -> Int -> Option α} {k : Int -> Bool -> Int -> Int -> Int -> Int -> Option α} {r : Nat} (hr : i % 4 = r) :
    S70_0_1 α (xs.length : Int) (xs.map rI1) (i : Int) a b c d kn k = kn ((i + 1 : Nat) : Int) (if r = 0 then a + xs.getD i 0 else a) (if r = 1 then b + xs.getD i 0 else b) (if r = 2 then c + xs.getD i 0 else c) (if r = 3 then d + xs.getD i 0 else d) := by
  have hb' := hx _ (List.getElem_mem hi)
  have ht : Int.tmod (i : Int) 4 = (r : Int) := by rw [Int.tmod_eq_emod_of_nonneg (by omega)]; omega
  simp only [S70_0_1, S70_0_1g, J70_0_0, J70_0_0g]
  rw [decide_eq_true (by omega), cK_true, ix_I hi, ld_I hi, ht, w64_in (n := (i : Int) + 1) (by omega) (by omega), show (i : Int) + 1 = ((i + 1 : Nat) : Int) by omega, gD hi]
  have hr4 : r < 4 := by omega
  rcases (show r = 0 \/ r = 1 \/ r = 2 \/ r = 3 by omega) with rfl | rfl | rfl | rfl
  · rw [w64_in (n := a + _) (by omega) (by omega)]; rfl
  · rw [w64_in (n := b + _) (by omega) (by omega)]; rfl
  · rw [w64_in (n := c + _) (by omega) (by omega)]; rfl
  · rw [w64_in (n := d + _) (by omega) (by omega)]; rfl
theorem R70_eq {q : Nat} (hq : xs.length = 4 * q) {k : Int -> Bool -> Int -> Int -> Int -> Int -> Option α} : ∀ (m j n : Nat), j + m = q -> 4 * m < n ->
    R70_0_1 α (xs.length : Int) (xs.map rI1) k n ((4 * j : Nat) : Int) (cs xs 0 j) (cs xs 1 j) (cs xs 2 j) (cs xs 3 j) = k (xs.length : Int) false (cs xs 0 q) (cs xs 1 q) (cs xs 2 q) (cs xs 3 q) := by
  intro m
  induction m with
  | zero =>
    intro j n h1 h2
    obtain ⟨n, rfl⟩ : ∃ z, n = z + 1 := ⟨n - 1, by omega⟩
    have hj : j = q := by omega
    subst hj
    simp only [R70_0_1, S70_0_1, S70_0_1g]
    rw [decide_eq_false (by omega), cK_false, hq]
  | succ m ih =>
    intro j n h1 h2
    obtain ⟨n, rfl⟩ : ∃ z, n = z + 4 := ⟨n - 4, by omega⟩
    have b0 := cs_bd hx 0 j; have b1 := cs_bd hx 1 j; have b2 := cs_bd hx 2 j; have b3 := cs_bd hx 3 j
    have c0 := cs_bd hx 0 (j + 1); have c1 := cs_bd hx 1 (j + 1); have c2 := cs_bd hx 2 (j + 1); have c3 := cs_bd hx 3 (j + 1)
    have e0 : cs xs 0 (j + 1) = cs xs 0 j + xs.getD (4 * j) 0 := rfl
    have e1 : cs xs 1 (j + 1) = cs xs 1 j + xs.getD (4 * j + 1) 0 := rfl
    have e2 : cs xs 2 (j + 1) = cs xs 2 j + xs.getD (4 * j + 2) 0 := rfl
    have e3 : cs xs 3 (j + 1) = cs xs 3 j + xs.getD (4 * j + 3) 0 := rfl
    have hj : (j : Int) <= 16 := by omega
    simp only [R70_0_1]
    rw [S70_eq hl hx (by omega) (by omega) (by omega) (by omega) (by omega) (r := 0) (by omega)]
    rw [if_pos (show (0 : Nat) = 0 from rfl), if_neg (show ¬ (0 : Nat) = 1 by decide), if_neg (show ¬ (0 : Nat) = 2 by decide), if_neg (show ¬ (0 : Nat) = 3 by decide), <- e0]
    rw [S70_eq hl hx (i := 4 * j + 1) (by omega) (by push_cast at *; omega) (by omega) (by omega) (by omega) (r := 1) (by omega)]
    rw [if_neg (show ¬ (1 : Nat) = 0 by decide), if_pos (show (1 : Nat) = 1 from rfl), if_neg (show ¬ (1 : Nat) = 2 by decide), if_neg (show ¬ (1 : Nat) = 3 by decide), <- e1]
    rw [S70_eq hl hx (i := 4 * j + 1 + 1) (by omega) (by push_cast at *; omega) (by push_cast at *; omega) (by omega) (by omega) (r := 2) (by omega)]
    rw [if_neg (show ¬ (2 : Nat) = 0 by decide), if_neg (show ¬ (2 : Nat) = 1 by decide), if_pos (show (2 : Nat) = 2 from rfl), if_neg (show ¬ (2 : Nat) = 3 by decide), show 4 * j + 1 + 1 = 4 * j + 2 from rfl, <- e2]
    rw [S70_eq hl hx (i := 4 * j + 2 + 1) (by omega) (by push_cast at *; omega) (by push_cast at *; omega) (by push_cast at *; omega) (by omega) (r := 3) (by omega)]
    rw [if_neg (show ¬ (3 : Nat) = 0 by decide), if_neg (show ¬ (3 : Nat) = 1 by decide), if_neg (show ¬ (3 : Nat) = 2 by decide), if_pos (show (3 : Nat) = 3 from rfl), show 4 * j + 2 + 1 = 4 * j + 3 from rfl, <- e3]
    exact ih (j + 1) n (by omega) (by omega)
end
def smA (l : List Nat) : Int := cs (l.map smp) 0 (l.length / 4) + cs (l.map smp) 1 (l.length / 4) + cs (l.map smp) 2 (l.length / 4) + cs (l.map smp) 3 (l.length / 4)
def smC (l : List Nat) : Int := cs (l.map smp) 0 (l.length / 4) - cs (l.map smp) 2 (l.length / 4)
def smS (l : List Nat) : Int := cs (l.map smp) 1 (l.length / 4) - cs (l.map smp) 3 (l.length / 4)
def sumK (l : List Nat) (M : Int) (k : Int -> Int -> Int -> Int -> Int -> Int -> Int -> Option α) : Option α :=
  k (smA l - (l.length : Int) * M) (smA l + (l.length : Int) * M) (smC l - ((l.length / 2 : Nat) : Int) * M) (smC l + ((l.length / 2 : Nat) : Int) * M) (smS l - ((l.length / 2 : Nat) : Int) * M) (smS l + ((l.length / 2 : Nat) : Int) * M) 0
section
variable {l : List Nat} (hl : l.length <= 64) (h4 : l.length % 4 = 0) (hx : ∀ x ∈ l, chkS x = none) {M : Int} (hM : 0 <= M /\ M <= 65535)
include hl h4 hx
omit h4 in
theorem smp_bd : (l.map smp).length <= 64 /\ ∀ x ∈ l.map smp, 0 <= x /\ x <= 65535 := by
  refine ⟨by simpa using hl, fun x h => ?_⟩
  obtain ⟨y, hy, rfl⟩ := List.mem_map.1 h
  exact (smp_ok (hx y hy)).2
theorem sm_bd : (0 <= smA l /\ smA l <= 4194240) /\ (-1048560 <= smC l /\ smC l <= 1048560) /\ -1048560 <= smS l /\ smS l <= 1048560 := by
  obtain ⟨b1, b2⟩ := smp_bd hl hx
  have c0 := cs_bd b2 0 (l.length / 4); have c1 := cs_bd b2 1 (l.length / 4); have c2 := cs_bd b2 2 (l.length / 4); have c3 := cs_bd b2 3 (l.length / 4)
  have hq : ((l.length / 4 : Nat) : Int) <= 16 := by omega
  unfold smA smC smS
  omega
include hM
theorem sums21 {k : Int -> Int -> Int -> Int -> Int -> Int -> Int -> Option α} : L70_0_1 α (l.length : Int) (l.map smpR) (fun x49 x50 x51 x52 x53 x54 => f167_0 α (w64 ((w64 ((w64 (x51 + x52)) + x53)) + x54)) (w64 ((l.length : Int) * M))
    (fun x56 x57 => f167_0 α (w64 (x51 - x53)) (w64 ((w64 (Int.tdiv (l.length : Int) 2)) * M)) (fun x58 x59 => f167_0 α (w64 (x52 - x54)) (w64 ((w64 (Int.tdiv (l.length : Int) 2)) * M)) (fun x60 x61 => k x56 x57 x58 x59 x60 x61 0)))) 0 0 0 0 0 = sumK l M k := by
  have hf := fuel_ge
  obtain ⟨b1, b2⟩ := smp_bd hl hx
  obtain ⟨a1, a2, a3⟩ := sm_bd hl h4 hx
  have hlen : (l.map smp).length = 4 * (l.length / 4) := by rw [List.length_map]; omega
  have h := fun kk : Int -> Bool -> Int -> Int -> Int -> Int -> Option α => R70_eq b1 b2 hlen (k := kk) (l.length / 4) 0 fuel (by omega) (by omega)
  rw [List.length_map] at h
  have h' : ∀ kk : Int -> Bool -> Int -> Int -> Int -> Int -> Option α, R70_0_1 α (l.length : Int) (l.map smpR) kk fuel 0 0 0 0 0 = kk (l.length : Int) false (cs (l.map smp) 0 (l.length / 4)) (cs (l.map smp) 1 (l.length / 4)) (cs (l.map smp) 2 (l.length / 4)) (cs (l.map smp) 3 (l.length / 4)) := fun kk => by rw [smp_map]; exact h kk
  simp only [L70_0_1, h', f167_0, f167_0g]
  have c0 := cs_bd b2 0 (l.length / 4); have c1 := cs_bd b2 1 (l.length / 4); have c2 := cs_bd b2 2 (l.length / 4); have c3 := cs_bd b2 3 (l.length / 4)
  have hq : ((l.length / 4 : Nat) : Int) <= 16 := by omega
  have m1 := mul_bd3 (x := (l.length : Int)) (y := M) (A := 64) (by omega) hM
  have m2 := mul_bd3 (x := ((l.length / 2 : Nat) : Int)) (y := M) (A := 64) (by omega) hM
  have ht : w64 (Int.tdiv (l.length : Int) 2) = ((l.length / 2 : Nat) : Int) := by
    rw [show (2 : Int) = ((2 : Nat) : Int) from rfl, tdiv_nat, w64_in (by omega) (by omega)]
  rw [ht, w64_in (n := cs (l.map smp) 0 (l.length / 4) + cs (l.map smp) 1 (l.length / 4)) (by omega) (by omega), w64_in (n := cs (l.map smp) 0 (l.length / 4) + cs (l.map smp) 1 (l.length / 4) + cs (l.map smp) 2 (l.length / 4)) (by omega) (by omega),
    w64_in (n := cs (l.map smp) 0 (l.length / 4) + cs (l.map smp) 1 (l.length / 4) + cs (l.map smp) 2 (l.length / 4) + cs (l.map smp) 3 (l.length / 4)) (by omega) (by omega), w64_in (n := cs (l.map smp) 0 (l.length / 4) - cs (l.map smp) 2 (l.length / 4)) (by omega) (by omega), w64_in (n := cs (l.map smp) 1 (l.length / 4) - cs (l.map smp) 3 (l.length / 4)) (by omega) (by omega),
    w64_in (n := (l.length : Int) * M) (by omega) (by omega), w64_in (n := ((l.length / 2 : Nat) : Int) * M) (by omega) (by omega)]
  unfold sumK
  have eA : cs (l.map smp) 0 (l.length / 4) + cs (l.map smp) 1 (l.length / 4) + cs (l.map smp) 2 (l.length / 4) + cs (l.map smp) 3 (l.length / 4) = smA l := rfl
  have eC : cs (l.map smp) 0 (l.length / 4) - cs (l.map smp) 2 (l.length / 4) = smC l := rfl
  have eS : cs (l.map smp) 1 (l.length / 4) - cs (l.map smp) 3 (l.length / 4) = smS l := rfl
  rw [eA, eC, eS, w64_in (n := smA l - _) (by omega) (by omega), w64_in (n := smA l + _) (by omega) (by omega), w64_in (n := smC l - _) (by omega) (by omega), w64_in (n := smC l + _) (by omega) (by omega), w64_in (n := smS l - _) (by omega) (by omega), w64_in (n := smS l + _) (by omega) (by omega)]
end
end Go.AM.K
-- MH5
namespace Go.AM.K
set_option linter.unusedVariables false
set_option linter.unusedSimpArgs false
variable {α : Type}
theorem satGo_nil {F : Int} : ∀ (l : List Int) (i : Nat), (∀ x ∈ l, x < F) -> satGo F l i = []
  | [], _, _ => rfl
  | x :: r, i, h => by
    have h1 := h x (by simp)
    simp only [satGo]
    rw [if_neg (by omega)]
    exact satGo_nil r (i + 1) fun y hy => h y (by simp [hy])
theorem f70_plain {l : List Nat} {M : Int} (h : (scanE l M 65536).2 = 0) {k : Int -> Int -> Int -> Int -> Int -> Int -> Int -> Option α} : f70_0 α (l.map rF) M 65536 k = sumK l M k := by
  obtain ⟨⟨h1, h2⟩, h3, h5, h6⟩ := scan_ok h
  have hs : satGo 65536 (l.map smp) 0 = [] := satGo_nil _ _ fun x hx => by have := (smp_bd h1.2 h6).2 x hx; omega
  have hfl : ∀ x : Option α, flatK [[]] x = x := fun x => flatK_map (enc := rI1) (l := []) fun _ => rfl
  simp only [f70_0, f70_0g, f165_eq]
  rw [if_neg (fun hh => hh h), bne_self_eq_false, cK_false, f166_eq h1.2 h6, hs]
  simp only [List.map_nil, hfl, List.length_nil]
  rw [decide_eq_false (by decide), cK_false, List.length_map]
  exact sums21 h1.2 h2 h6 h3.1
end Go.AM.K
-- MH4
namespace Go.AM.K
open Ieee
set_option linter.unusedVariables false
set_option linter.unusedSimpArgs false
variable {α : Type}
abbrev N32 (n : Int) : Nat := FloatKind.nearest .f32 n
theorem near_smp {n : Int} (h0 : 0 <= n) (h1 : n <= 65535) : chkS (N32 n) = none /\ smp (N32 n) = n := by
  obtain ⟨s, m, i, a1, a2, a3⟩ := whole_smallS (n := n) (by omega)
  have hw : whl (vl (.number s m i)) = true := by
    unfold whl; rw [a3, Int.natAbs_mul, Int.natAbs_natCast]; exact decide_eq_true (Nat.mul_mod_left _ _)
  have hq := whole_qtS a2 a3
  have hU := UU_pos
  constructor
  · unfold chkS
    rw [a1]
    simp only [hw, Bool.true_eq_false, if_false]
    rw [a3]
    have u0 : ¬ n * (UU : Int) < 0 := by have := mulU_lt (a := n) (b := 0); rw [Int.zero_mul] at this; omega
    have u1 : ¬ 65535 * (UU : Int) < n * (UU : Int) := by have := mulU_lt (a := 65535) (b := n); omega
    rw [if_neg u0, if_neg u1]
  · unfold smp f2i
    rw [toInt_numS a1, hq]
    simp only
    have : IntKind.min .i64 = -9223372036854775808 := by decide
    have : IntKind.max .i64 = 9223372036854775807 := by decide
    rw [if_pos (by omega)]; rfl
theorem chkGo_near : ∀ (L : List Int) (i : Nat), (∀ x ∈ L, 0 <= x /\ x <= 65535) -> chkGo (L.map N32) i = none
  | [], _, _ => rfl
  | x :: r, i, h => by
    have hx := h x (by simp)
    simp only [List.map_cons, chkGo, (near_smp hx.1 hx.2).1]
    exact chkGo_near r (i + 1) fun y hy => h y (by simp [hy])
theorem smp_near : ∀ (L : List Int), (∀ x ∈ L, 0 <= x /\ x <= 65535) -> (L.map N32).map smp = L
  | [], _ => rfl
  | x :: r, h => by
    have hx := h x (by simp)
    simp only [List.map_cons, (near_smp hx.1 hx.2).2]
    rw [smp_near r fun y hy => h y (by simp [hy])]
theorem scan_near {L : List Int} {M : Int} (h1 : 4 <= L.length /\ L.length <= 64) (h2 : L.length % 4 = 0) (hM : 0 <= M /\ M <= 65535) (h : ∀ x ∈ L, 0 <= x /\ x <= 65535) : scanE (L.map N32) M 65536 = (0, 0) :=
  scanE_none (scan0 (by rw [List.length_map]; exact ⟨h1, h2⟩) ⟨hM, by omega⟩) (chkGo_near L 0 h)
end Go.AM.K
