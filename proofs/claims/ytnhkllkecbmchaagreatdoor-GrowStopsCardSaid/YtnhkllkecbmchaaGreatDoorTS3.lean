/- Plain laws of the texts of stops: what is read; the law of stops. -/
import Derived.Test.YtnhkllkecbmchaaGreatDoorTS2
namespace Go.AM.K
open Go.LT
variable {α : Type}
def inI (n lo hi : Int) : Bool := decide (lo ≤ n) && decide (n ≤ hi)
def stopErr (a b c : Int) : Int := if inI a 0 39 = false then 2 else if inI b 0 1000000 = false then 2 else if inI c 0 1000000 = false then 2 else if c < b then 10 else 0
theorem f44_eq {n lo hi : Int} {k : Bool → Option α} : f44_0 α n lo hi k = k (inI n lo hi) := by
  show cK (decide (lo ≤ n)) (k (decide (n ≤ hi))) (k false) = _
  by_cases h : lo ≤ n <;> simp [inI, h]
theorem f65_eq {n lo hi : Int} {k : Bool → Option α} : f65_0 α n lo hi k = k (inI n lo hi) := by
  show cK (decide (lo ≤ n)) (k (decide (n ≤ hi))) (k false) = _
  by_cases h : lo ≤ n <;> simp [inI, h]
theorem f14_eq {a b c : Int} {k : Int → Option α} : f14_0 α a b c k = k (stopErr a b c) := by
  unfold f14_0 f14_0g
  rw [f44_eq]
  unfold stopErr
  cases inI a 0 39
  · rfl
  · show f44_0 α b 0 1000000 _ = _
    rw [f44_eq]
    cases inI b 0 1000000
    · rfl
    · show f44_0 α c 0 1000000 _ = _
      rw [f44_eq]
      cases inI c 0 1000000
      · rfl
      · show cK (decide (c < b)) _ _ = _
        by_cases h : c < b <;> simp [h]
theorem f66_eq {b c : Int} {k : Int → Option α} : f66_0 α b c 0 1000000 k = k (if inI b 0 1000000 = false then 2 else if inI c 0 1000000 = false then 2 else if c < b then 10 else 0) := by
  unfold f66_0 f66_0g f163_0 f163_0g
  rw [f65_eq]
  cases inI b 0 1000000
  · rfl
  · show f65_0 α c 0 1000000 _ = _
    rw [f65_eq]
    cases inI c 0 1000000
    · rfl
    · show cK (decide (c < b)) _ _ = _
      by_cases h : c < b <;> simp [h]
def nums (ws : List ByteArray) : Option (List Int) := ws.mapM fun w => num? w.data.toList
def parse (ws : List ByteArray) : Int × Int × Int × Int :=
  match nums ws with
  | some [a, b, c] => if stopErr a b c = 0 then (a, b, c, 0) else (0, 0, 0, stopErr a b c)
  | _ => (0, 0, 0, 4)
theorem cut_short (c : UInt8) : ∀ (l p : List UInt8), p ∈ cutL c l → p.length ≤ l.length
  | [], p, h => by simp [cutL] at h; subst h; simp
  | b :: l, p, h => by
    unfold cutL at h
    split at h
    · rcases List.mem_cons.1 h with h | h
      · subst h; simp
      · have := cut_short c l p h; simp; omega
    · split at h
      · rename_i q t e
        rcases List.mem_cons.1 h with h | h
        · subst h
          have := cut_short c l q (by rw [e]; simp)
          simp; omega
        · have := cut_short c l p (by rw [e]; simp [h]); simp; omega
      · rename_i e; exact absurd e (cutL_ne c l)
theorem cutBA_short {c : UInt8} {s x : ByteArray} (h : x ∈ cutBA c s) : x.size ≤ s.size := by
  unfold cutBA at h
  obtain ⟨l, hl, rfl⟩ := List.mem_map.1 h
  have := cut_short c _ l hl
  rw [size_mkB]; simpa using this
theorem cut_count (c : UInt8) : ∀ (l : List UInt8), (cutL c l).length ≤ l.length + 1
  | [] => by simp [cutL]
  | b :: l => by
    have := cut_count c l
    unfold cutL
    split
    · simp; omega
    · split
      · rename_i e; rw [e] at this; simp at this ⊢; omega
      · simp
theorem cutBA_count {c : UInt8} {s : ByteArray} : (cutBA c s).length ≤ s.size + 1 := by
  have := cut_count c s.data.toList
  simpa [cutBA] using this
theorem R12_eq {ws : List ByteArray} (hw : ∀ x ∈ ws, x.size < 100000) (hl : ws.length < 200000) {k1 : Option α} {k2 : Int → Bool → Rows → Option α} :
    ∀ (m n i : Nat) (acc : List Int), i + m = ws.length → m < n → acc.length = i →
      R12_0_0 α (strRows ws) k1 k2 n i (acc.map rI1) = match nums (ws.drop i) with
        | some ns => k2 ws.length false ((acc ++ ns).map rI1)
        | none => k1
  | m, 0, _, _, _, hn, _ => absurd hn (Nat.not_lt_zero _)
  | 0, n + 1, i, acc, hm, _, _ => by
    have hi : i = ws.length := by omega
    subst hi
    show cK (decide ((ws.length : Int) < ((List.length (strRows ws) : Nat) : Int))) _ (k2 ws.length _ _) = _
    rw [strRows_len, decide_eq_false (by omega), cK_false, List.drop_length]
    simp [nums]
  | m + 1, n + 1, i, acc, hm, hn, ha => by
    have hi : i < ws.length := by omega
    show cK (decide ((i : Int) < ((List.length (strRows ws) : Nat) : Int))) (ixK (strRows ws) i 1 (ldK (strRows ws) (Int.toNat i) 0 [.str] _)) _ = _
    rw [strRows_len, decide_eq_true (by omega), cK_true, ix_str hi, show (i : Int).toNat = i by omega, ld_str hi]
    rw [f68_eq (hw _ (List.getElem_mem hi))]
    rw [List.drop_eq_getElem_cons hi]
    unfold nums
    rw [List.mapM_cons]
    cases hn' : num? (ws[i]'hi).data.toList with
    | none => rfl
    | some v =>
      show cK (!true) _ (gK (apOk 1 8 (acc.map rI1) [[DC.v (.int .i64 v)]]) _) = _
      have hap : apOk 1 8 (acc.map rI1) [[DC.v (.int .i64 v)]] = true := by
        unfold apOk
        refine decide_eq_true ⟨rfl, ?_, ?_⟩ <;> simp <;> omega
      rw [Bool.not_true, cK_false, gK_of hap]
      have hw2 : w64 ((i : Int) + 1) = ((i + 1 : Nat) : Int) := by rw [w64_in (by omega) (by omega)]; omega
      rw [hw2]
      have e : (acc.map rI1 ++ [[DC.v (.int .i64 v)]]) = (acc ++ [v]).map rI1 := by simp [rI1]
      rw [e, R12_eq hw hl m n (i + 1) (acc ++ [v]) (by omega) (by omega) (by simp; omega)]
      show (match nums (ws.drop (i + 1)) with | some ns => _ | none => _) = _
      unfold nums
      cases (List.drop (i + 1) ws).mapM (fun w => num? w.data.toList) with
      | none => rfl
      | some ns => simp
theorem rd_int {l : List Int} {i : Nat} (h : i < l.length) {f : Int → Option α} : ixK (l.map rI1) (i : Int) 1 (ldK (l.map rI1) i 0 [.int .i64] f) = f (l[i]'h) := by
  have e : rowAt (l.map rI1) i = [.v (.int .i64 (l[i]'h))] := by simp [rowAt, rI1, List.getD_eq_getElem?_getD, h]
  unfold ixK ldK
  rw [decide_eq_true (by rw [show (i : Int).toNat = i by omega, e, List.length_map]; exact ⟨by omega, by omega, rfl⟩), decide_eq_true (by rw [List.length_map]; exact h), e]
  rfl
theorem f12_eq {s : ByteArray} (hs : s.size < 90000) {k : Int → Int → Int → Int → Option α} :
    f12_0 α s k = k (parse (cutBA 32 s)).1 (parse (cutBA 32 s)).2.1 (parse (cutBA 32 s)).2.2.1 (parse (cutBA 32 s)).2.2.2 := by
  have hf := fuel_ge
  have hc := cutBA_count (c := 32) (s := s)
  unfold f12_0 f12_0g
  rw [f67_eq (by omega)]
  show R12_0_0 α (strRows (cutBA 32 s)) _ _ fuel ((0 : Nat) : Int) (([] : List Int).map rI1) = _
  rw [R12_eq (fun x hx => by have := cutBA_short hx; omega) (by omega) (cutBA 32 s).length fuel 0 [] (by omega) (by omega) rfl, List.drop_zero]
  unfold parse
  cases hn : nums (cutBA 32 s) with
  | none => rfl
  | some ns =>
    simp only [List.nil_append, List.length_map]
    by_cases h3 : ns.length = 3
    · rw [h3, show (((3 : Nat) : Int) != 3) = false from rfl, cK_false]
      match ns, h3 with
      | [a, b, c], _ =>
        have e0 := fun f : Int → Option α => rd_int (l := [a, b, c]) (i := 0) (by simp) (f := f)
        have e1 := fun f : Int → Option α => rd_int (l := [a, b, c]) (i := 1) (by simp) (f := f)
        have e2 := fun f : Int → Option α => rd_int (l := [a, b, c]) (i := 2) (by simp) (f := f)
        refine (e0 _).trans ((e1 _).trans ((e2 _).trans ?_))
        show f14_0 α a b c _ = _
        rw [f14_eq]
        by_cases h0 : stopErr a b c = 0
        · simp only [if_pos h0]
          rw [h0]; rfl
        · rw [show (stopErr a b c != 0) = true by simp [h0], cK_true]
          simp only [if_neg h0]
    · rw [show (((ns.length : Nat) : Int) != 3) = true by simp; omega, cK_true]
      match ns, h3 with
      | [], _ => rfl
      | [_], _ => rfl
      | [_, _], _ => rfl
      | [_, _, _], h => exact absurd rfl h
      | _ :: _ :: _ :: _ :: _, _ => rfl
theorem f11_eq {s : ByteArray} (hs : s.size < 90000) {k : Int → Int → Int → Int → Option α} :
    f11_0 α s k = k (parse (cutBA 32 s)).1 (parse (cutBA 32 s)).2.1 (parse (cutBA 32 s)).2.2.1 (parse (cutBA 32 s)).2.2.2 := by
  unfold f11_0 f11_0g f62_0 fSplit
  rw [if_pos ⟨by omega, by decide⟩, split_cut]
  have hsh : ∀ x ∈ cutBA 32 s, x.size ≤ 281474976710656 := fun x hx => by have := cutBA_short hx; omega
  generalize cutBA 32 s = ws at hsh
  simp only [strRows_len]
  by_cases h3 : ws.length = 3
  · rw [h3, show (((3 : Nat) : Int) != 3) = false from rfl, cK_false]
    match ws, h3, hsh with
    | [a, b, c], _, hsh =>
      have c0 : ∀ x y : Option α, cK (decide ((0 : Int) < ((List.length (strRows [a, b, c]) : Nat) : Int))) x y = x := fun _ _ => rfl
      have c1 : ∀ x y : Option α, cK (decide ((1 : Int) < ((List.length (strRows [a, b, c]) : Nat) : Int))) x y = x := fun _ _ => rfl
      have c2 : ∀ x y : Option α, cK (decide ((2 : Int) < ((List.length (strRows [a, b, c]) : Nat) : Int))) x y = x := fun _ _ => rfl
      have c3 : ∀ x y : Option α, cK (decide ((3 : Int) < ((List.length (strRows [a, b, c]) : Nat) : Int))) x y = y := fun _ _ => rfl
      have i0 := fun x : Option α => ix_str (l := [a, b, c]) (i := 0) (by simp) (x := x)
      have i1 := fun x : Option α => ix_str (l := [a, b, c]) (i := 1) (by simp) (x := x)
      have i2 := fun x : Option α => ix_str (l := [a, b, c]) (i := 2) (by simp) (x := x)
      have l0 := fun f : ByteArray → Option α => ld_str (l := [a, b, c]) (i := 0) (by simp) (f := f)
      have l1 := fun f : ByteArray → Option α => ld_str (l := [a, b, c]) (i := 1) (by simp) (f := f)
      have l2 := fun f : ByteArray → Option α => ld_str (l := [a, b, c]) (i := 2) (by simp) (f := f)
      have ep : parse [a, b, c] = match num? a.data.toList with
          | some x => match num? b.data.toList with
            | some y => match num? c.data.toList with
              | some z => if stopErr x y z = 0 then (x, y, z, 0) else (0, 0, 0, stopErr x y z)
              | none => (0, 0, 0, 4)
            | none => (0, 0, 0, 4)
          | none => (0, 0, 0, 4) := by
        unfold parse nums
        simp only [List.mapM_cons, List.mapM_nil]
        cases num? a.data.toList with
        | none => rfl
        | some x =>
          cases num? b.data.toList with
          | none => rfl
          | some y => cases num? c.data.toList <;> rfl
      rw [ep]
      unfold J11_0_4 J11_0_4g
      refine (c0 _ _).trans ((i0 _).trans ((l0 _).trans ((word_law (hsh a (by simp))).trans ?_)))
      cases num? a.data.toList with
      | none => rfl
      | some x =>
        refine (c1 _ _).trans ((i1 _).trans ((l1 _).trans ((word_law (hsh b (by simp))).trans ?_)))
        cases num? b.data.toList with
        | none => rfl
        | some y =>
          refine (c2 _ _).trans ((i2 _).trans ((l2 _).trans ((word_law (hsh c (by simp))).trans ?_)))
          cases num? c.data.toList with
          | none => rfl
          | some z =>
            refine (c3 _ _).trans ?_
            refine f65_eq.trans ?_
            dsimp only
            unfold stopErr
            cases inI x 0 39
            · rfl
            · show f66_0 α y z 0 1000000 _ = _
              rw [f66_eq]
              simp only [Bool.true_eq_false, if_false]
              generalize (if inI y 0 1000000 = false then (2 : Int) else if inI z 0 1000000 = false then 2 else if z < y then 10 else 0) = e
              by_cases h0 : e = 0
              · subst h0; rfl
              · rw [show (e != 0) = true by simp [h0], cK_true]
                simp only [if_neg h0]
  · rw [show (((ws.length : Nat) : Int) != 3) = true by simp; omega, cK_true]
    have ep : parse ws = (0, 0, 0, 4) := by
      unfold parse
      cases hn : nums ws with
      | none => rfl
      | some ns =>
        have hlen : ns.length = ws.length := by
          have : ∀ (l : List ByteArray) (r : List Int), nums l = some r → r.length = l.length := by
            intro l
            induction l with
            | nil => intro r h; simp [nums] at h; subst h; rfl
            | cons a t ih =>
              intro r h
              unfold nums at h
              rw [List.mapM_cons] at h
              cases ha : num? a.data.toList with
              | none => rw [ha] at h; cases h
              | some v =>
                rw [ha] at h
                cases ht : nums t with
                | none =>
                  unfold nums at ht
                  rw [ht] at h; cases h
                | some q =>
                  have := ih q ht
                  unfold nums at ht
                  rw [ht] at h
                  have e : v :: q = r := by simpa using h
                  rw [← e]; simp [this]
          exact this ws ns hn
        match ns, hlen with
        | [], _ => rfl
        | [_], _ => rfl
        | [_, _], _ => rfl
        | [_, _, _], h => exact absurd h.symm h3
        | _ :: _ :: _ :: _ :: _, _ => rfl
    rw [ep]
theorem parse_fmt {a b c : Int} (h : stopErr a b c = 0) : parse (cutBA 32 (mkB (fmt3 a b c))) = (a, b, c, 0) := by
  have hr : (0 ≤ a ∧ a ≤ 39) ∧ (0 ≤ b ∧ b ≤ 1000000) ∧ (0 ≤ c ∧ c ≤ 1000000) := by
    unfold stopErr at h
    split at h
    · cases h
    · split at h
      · cases h
      · split at h
        · cases h
        · rename_i h1 h2 h3
          simp [inI] at h1 h2 h3
          exact ⟨by omega, by omega, by omega⟩
  have e : cutBA 32 (mkB (fmt3 a b c)) = [mkB (Lib.itoa a), mkB (Lib.itoa b), mkB (Lib.itoa c)] := by
    unfold cutBA fmt3
    rw [data_mkB, cutL_append 32 _ _ (itoa_noc a 32 (by decide) (by decide)), cutL_append 32 _ _ (itoa_noc b 32 (by decide) (by decide)), cutL_none 32 _ (itoa_noc c 32 (by decide) (by decide))]
    rfl
  rw [e]
  unfold parse nums
  simp only [List.mapM_cons, List.mapM_nil]
  rw [num_itoa (n := a) (by omega) (by omega), num_itoa (n := b) (by omega) (by omega), num_itoa (n := c) (by omega) (by omega)]
  show (if stopErr a b c = 0 then (a, b, c, 0) else (0, 0, 0, stopErr a b c)) = _
  rw [if_pos h]
end Go.AM.K
