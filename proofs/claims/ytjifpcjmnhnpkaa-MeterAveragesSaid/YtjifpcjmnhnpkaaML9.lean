/- MeterAverages. -/
import Derived.Test.YtjifpcjmnhnpkaaML2
import Derived.Test.YtjifpcjmnhnpkaaKTt
namespace Go.AM.K
set_option linter.unusedVariables false
set_option linter.unusedSimpArgs false
variable {α : Type}

structure Rdg where
  nm : ByteArray
  (w i n a b c d e f : Int)
abbrev rRd (r : Rdg) : List DC := [.v (.string r.nm), .v (.int .i64 r.w), .v (.int .i64 r.i), .v (.int .i64 r.n), .v (.int .i64 r.a), .v (.int .i64 r.b), .v (.int .i64 r.c), .v (.int .i64 r.d), .v (.int .i64 r.e), .v (.int .i64 r.f)]
theorem rowK_Rd {l : List Rdg} {i : Nat} (h : i < l.length) {f : ByteArray → Int → Int → Int → Int → Int → Int → Int → Int → Int → Option α} :
    rowK (l.map rRd) (i : Int) [.str, .int .i64, .int .i64, .int .i64, .int .i64, .int .i64, .int .i64, .int .i64, .int .i64, .int .i64] f =
      f (l[i]'h).nm (l[i]'h).w (l[i]'h).i (l[i]'h).n (l[i]'h).a (l[i]'h).b (l[i]'h).c (l[i]'h).d (l[i]'h).e (l[i]'h).f :=
  (rowK_get (sh := [.str, .int .i64, .int .i64, .int .i64, .int .i64, .int .i64, .int .i64, .int .i64, .int .i64, .int .i64]) (f := f) (r := rRd (l[i]'h)) (by simp [h])).trans rfl
def Rdg.err (r : Rdg) : Int := rdE r.nm r.w r.i r.n r.a r.b r.c r.d r.e r.f

structure Acc where
  (a b c d e f : Int)
def mx (x y : Int) : Int := if y > x then y else x
def mn (x y : Int) : Int := if y < x then y else x
def Acc.meet (s : Acc) (r : Rdg) : Acc := ⟨mx s.a r.a, mn s.b r.b, mx s.c r.c, mn s.d r.d, mx s.e r.e, mn s.f r.f⟩
def Acc.okA (s : Acc) : Prop := s.a ≤ s.b ∧ s.c ≤ s.d ∧ s.e ≤ s.f
instance (s : Acc) : Decidable s.okA := by unfold Acc.okA; exact inferInstance
/-- What both say of readings from some place on. -/
def avK (r0 : Rdg) (k1 : Int → Int → Option α) (k2 : Acc → Option α) : List Rdg → Nat → Acc → Option α
  | [], _, s => k2 s
  | r :: t, i, s => if r.err ≠ 0 then k1 i r.err else if r.w ≠ r0.w then k1 i 25 else if ¬ (r.i = r0.i ∧ r.n = r0.n) then k1 i 25 else
      if ¬ (s.meet r).okA then k1 i 14 else avK r0 k1 k2 t (i + 1) (s.meet r)

theorem J43_eq {s : Acc} {k : Bool → Option α} : J43_0_0 α (decide (s.a ≤ s.b)) (decide (s.c ≤ s.d)) (decide (s.e ≤ s.f)) k = k (!decide s.okA) := by
  simp only [J43_0_0, J43_0_0g]
  unfold Acc.okA
  by_cases h1 : s.a ≤ s.b <;> by_cases h2 : s.c ≤ s.d <;> by_cases h3 : s.e ≤ s.f <;> simp [h1, h2, h3]
theorem J44_eq {s : Acc} {k : Bool → Option α} : J44_0_0 α (decide (s.a ≤ s.b)) (decide (s.c ≤ s.d)) (decide (s.e ≤ s.f)) k = k (!decide s.okA) := J43_eq
theorem f88_eq {x1 x2 x3 x4 : Int} {k : Int → Int → Bool → Option α} : f88_0 α x1 x2 x3 x4 k = k (mx x1 x3) (mn x2 x4) (decide (mx x1 x3 ≤ mn x2 x4)) := rfl
theorem f93_eq {x1 x2 x3 x4 : Int} {k : Int → Int → Bool → Option α} : f93_0 α x1 x2 x3 x4 k = k (mx x1 x3) (mn x2 x4) (decide (mx x1 x3 ≤ mn x2 x4)) := rfl
theorem and_tt {p q : Int} {x y : Int} : ((p == q) && ((x == y) && true)) = decide (p = q ∧ x = y) := by
  by_cases h1 : p = q <;> by_cases h2 : x = y <;> simp [h1, h2]
theorem cK_bne {a b : Int} {x y : Option α} : cK (a != b) x y = if a ≠ b then x else y := by
  by_cases h : a = b
  · rw [h, bne_self_eq_false]; simp
  · rw [bne_iff_ne.2 h, if_pos h]; rfl
theorem cK_not {p : Prop} [Decidable p] {x y : Option α} : cK (!decide p) x y = if ¬ p then x else y := by by_cases h : p <;> simp [h]
section
variable {l : List Rdg} (hl : l.length < 9223372036854775807) (hs : ∀ r ∈ l, r.nm.size ≤ 9223372036854775807)
include hl hs
theorem R43_eq {r0 : Rdg} {k1 : Int → Int → Option α} {k2 : Int → Bool → Int → Int → Int → Int → Int → Int → Option α} : ∀ (m i n : Nat) (s : Acc), i + m = l.length → m < n →
    R43_0_1 α (l.map rRd) (l.length : Int) r0.w r0.i r0.n k1 k2 n (i : Int) s.a s.b s.c s.d s.e s.f = avK r0 k1 (fun s => k2 (l.length : Int) false s.a s.b s.c s.d s.e s.f) (l.drop i) i s := by
  intro m
  induction m with
  | zero =>
    intro i n s h1 h2
    obtain ⟨n, rfl⟩ : ∃ z, n = z + 1 := ⟨n - 1, by omega⟩
    rw [List.drop_eq_nil_of_le (by omega)]
    have hi : i = l.length := by omega
    simp only [R43_0_1, S43_0_1, S43_0_1g, avK]
    rw [hi, decide_eq_false (by omega)]; rfl
  | succ m ih =>
    intro i n s h1 h2
    obtain ⟨n, rfl⟩ : ∃ z, n = z + 1 := ⟨n - 1, by omega⟩
    have hi : i < l.length := by omega
    rw [List.drop_eq_getElem_cons hi]
    simp only [R43_0_1, S43_0_1, S43_0_1g, avK]
    rw [decide_eq_true (by omega), cK_true, rowK_Rd hi, f28_eq (hs _ (List.getElem_mem hi)), cK_ne, cK_bne]
    have hE : rdE (l[i]'hi).nm (l[i]'hi).w (l[i]'hi).i (l[i]'hi).n (l[i]'hi).a (l[i]'hi).b (l[i]'hi).c (l[i]'hi).d (l[i]'hi).e (l[i]'hi).f = (l[i]'hi).err := rfl
    rw [hE]
    have hw : w64 ((i : Int) + 1) = ((i + 1 : Nat) : Int) := by rw [w64_in (by omega) (by omega)]; omega
    simp only [and_tt, cK_not, f88_eq, hw]
    have hJ : ∀ k : Bool → Option α, J43_0_0 α (decide (mx s.a (l[i]'hi).a ≤ mn s.b (l[i]'hi).b)) (decide (mx s.c (l[i]'hi).c ≤ mn s.d (l[i]'hi).d)) (decide (mx s.e (l[i]'hi).e ≤ mn s.f (l[i]'hi).f)) k = k (!decide (s.meet (l[i]'hi)).okA) := fun k => J43_eq (s := s.meet (l[i]'hi))
    simp only [hJ, cK_not]
    have h3 := ih (i + 1) n (s.meet (l[i]'hi)) (by omega) (by omega)
    split
    · rfl
    · split
      · rfl
      · split
        · rfl
        · split
          · rfl
          · exact h3
omit hs in
theorem R44_eq (h0 : 0 < l.length) {k1 : Int → Int → Option α} {k2 : Int → Bool → Int → Int → Int → Int → Int → Int → Option α} : ∀ (m i n : Nat) (s : Acc), i + m = l.length → m < n →
    R44_0_1 α (l.map rRd) k1 k2 n (i : Int) s.a s.b s.c s.d s.e s.f = avK (l[0]'h0) k1 (fun s => k2 (l.length : Int) false s.a s.b s.c s.d s.e s.f) (l.drop i) i s := by
  intro m
  induction m with
  | zero =>
    intro i n s h1 h2
    obtain ⟨n, rfl⟩ : ∃ z, n = z + 1 := ⟨n - 1, by omega⟩
    rw [List.drop_eq_nil_of_le (by omega)]
    have hi : i = l.length := by omega
    simp only [R44_0_1, S44_0_1, S44_0_1g, avK, List.length_map]
    rw [hi, decide_eq_false (by omega)]; rfl
  | succ m ih =>
    intro i n s h1 h2
    obtain ⟨n, rfl⟩ : ∃ z, n = z + 1 := ⟨n - 1, by omega⟩
    have hi : i < l.length := by omega
    rw [List.drop_eq_getElem_cons hi]
    simp only [R44_0_1, S44_0_1, S44_0_1g, avK, List.length_map]
    have hr := fun f => rowK_Rd (α := α) hi (f := f)
    have hr0 := fun f => rowK_Rd (α := α) h0 (f := f)
    rw [show (((0 : Nat) : Int)) = 0 from rfl] at hr0
    rw [decide_eq_true (by omega), cK_true, hr, f49_eq, cK_ne]
    simp only [hr, hr0, cK_bne]
    have hE : rdE (l[i]'hi).nm (l[i]'hi).w (l[i]'hi).i (l[i]'hi).n (l[i]'hi).a (l[i]'hi).b (l[i]'hi).c (l[i]'hi).d (l[i]'hi).e (l[i]'hi).f = (l[i]'hi).err := rfl
    rw [hE]
    have hw : w64 ((i : Int) + 1) = ((i + 1 : Nat) : Int) := by rw [w64_in (by omega) (by omega)]; omega
    simp only [and_tt, cK_not, f93_eq, hw]
    have hJ : ∀ k : Bool → Option α, J44_0_0 α (decide (mx s.a (l[i]'hi).a ≤ mn s.b (l[i]'hi).b)) (decide (mx s.c (l[i]'hi).c ≤ mn s.d (l[i]'hi).d)) (decide (mx s.e (l[i]'hi).e ≤ mn s.f (l[i]'hi).f)) k = k (!decide (s.meet (l[i]'hi)).okA) := fun k => J44_eq (s := s.meet (l[i]'hi))
    simp only [hJ, cK_not]
    have h3 := ih (i + 1) n (s.meet (l[i]'hi)) (by omega) (by omega)
    split
    · rfl
    · split
      · rfl
      · split
        · rfl
        · split
          · rfl
          · exact h3
/-- Both in one. -/
def avF (l : List Rdg) (k : ByteArray → Int → Int → Int → Int → Int → Int → Int → Int → Int → Int → Int → Option α) : Option α :=
  match l with
  | [] => k ⟨#[]⟩ 0 0 0 0 0 0 0 0 0 0 12
  | r0 :: t => if 20 < l.length then k ⟨#[]⟩ 0 0 0 0 0 0 0 0 0 0 8 else
      avK r0 (fun i e => k ⟨#[]⟩ 0 0 0 0 0 0 0 0 0 i e) (fun s => k r0.nm r0.w r0.i r0.n s.a s.b s.c s.d s.e s.f 0 0) (r0 :: t) 0 ⟨r0.a, r0.b, r0.c, r0.d, r0.e, r0.f⟩
theorem f43_eq {k : ByteArray → Int → Int → Int → Int → Int → Int → Int → Int → Int → Int → Int → Option α} : f43_0 α (l.map rRd) k = avF l k := by
  have hf := fuel_ge
  simp only [f43_0, f43_0g, List.length_map, L43_0_1]
  match l, hl, hs with
  | [], _, _ => rfl
  | r0 :: t, hl, hs =>
    simp only [avF]
    rw [beq_eq_false_iff_ne.2 (by simp only [List.length_cons]; omega), cK_false, cK_dec]
    by_cases h : 20 < (r0 :: t).length
    · rw [if_pos (by omega), if_pos h]
    · rw [if_neg (by omega), if_neg h]
      have hr0 := fun f => rowK_Rd (α := α) (l := r0 :: t) (i := 0) (by simp) (f := f)
      rw [show (((0 : Nat) : Int)) = 0 from rfl] at hr0
      rw [hr0]
      exact R43_eq hl hs (r0 := r0) (r0 :: t).length 0 fuel ⟨r0.a, r0.b, r0.c, r0.d, r0.e, r0.f⟩ (by omega) (by omega)
omit hs in
theorem f44_eq {k : ByteArray → Int → Int → Int → Int → Int → Int → Int → Int → Int → Int → Int → Option α} : f44_0 α (l.map rRd) k = avF l k := by
  have hf := fuel_ge
  simp only [f44_0, f44_0g, List.length_map, L44_0_1]
  match l, hl with
  | [], _ => rfl
  | r0 :: t, hl =>
    simp only [avF]
    rw [beq_eq_false_iff_ne.2 (by simp only [List.length_cons]; omega), cK_false, cK_dec]
    by_cases h : 20 < (r0 :: t).length
    · rw [if_pos (by omega), if_pos h]
    · rw [if_neg (by omega), if_neg h]
      have hr0 := fun f => rowK_Rd (α := α) (l := r0 :: t) (i := 0) (by simp) (f := f)
      rw [show (((0 : Nat) : Int)) = 0 from rfl] at hr0
      rw [hr0]
      exact R44_eq hl (by simp) (r0 :: t).length 0 fuel ⟨r0.a, r0.b, r0.c, r0.d, r0.e, r0.f⟩ (by omega) (by omega)
end

/-! ### The law -/
def Acc.sub (s t : Acc) : Prop := (t.a ≤ s.a ∧ s.b ≤ t.b) ∧ (t.c ≤ s.c ∧ s.d ≤ t.d) ∧ t.e ≤ s.e ∧ s.f ≤ t.f
def Rdg.acc (r : Rdg) : Acc := ⟨r.a, r.b, r.c, r.d, r.e, r.f⟩
theorem meet_sub {s : Acc} {r : Rdg} : (s.meet r).sub s ∧ (s.meet r).sub r.acc := by
  unfold Acc.meet Acc.sub Rdg.acc mx mn
  simp only
  constructor <;> (refine ⟨⟨?_, ?_⟩, ⟨?_, ?_⟩, ?_, ?_⟩ <;> split <;> omega)
theorem Acc.sub.trans {s t u : Acc} (h : s.sub t) (k : t.sub u) : s.sub u := by
  unfold Acc.sub at *; omega
/-- What comes of it: an error, or what lies in each. -/
theorem avK_cases (r0 : Rdg) : ∀ (l : List Rdg) (i : Nat) (s : Acc), (∃ j e, (∀ (k1 : Int → Int → Option α) (k2 : Acc → Option α), avK r0 k1 k2 l i s = k1 j e) ∧ e ≠ 0) ∨ ∃ t, (∀ (k1 : Int → Int → Option α) (k2 : Acc → Option α), avK r0 k1 k2 l i s = k2 t) ∧ t.sub s ∧ ∀ r ∈ l, t.sub r.acc
  | [], i, s => .inr ⟨s, fun _ _ => rfl, by unfold Acc.sub; omega, fun r hr => by simp at hr⟩
  | r :: t, i, s => by
    by_cases h1 : r.err ≠ 0
    · exact .inl ⟨i, r.err, fun k1 k2 => by simp only [avK, if_pos h1], h1⟩
    · by_cases h2 : r.w ≠ r0.w
      · exact .inl ⟨i, 25, fun k1 k2 => by simp only [avK, if_neg h1, if_pos h2], by decide⟩
      · by_cases h3 : ¬ (r.i = r0.i ∧ r.n = r0.n)
        · exact .inl ⟨i, 25, fun k1 k2 => by simp only [avK, if_neg h1, if_neg h2, if_pos h3], by decide⟩
        · by_cases h4 : ¬ (s.meet r).okA
          · exact .inl ⟨i, 14, fun k1 k2 => by simp only [avK, if_neg h1, if_neg h2, if_neg h3, if_pos h4], by decide⟩
          · rcases avK_cases r0 t (i + 1) (s.meet r) with ⟨j, e, h5, h6⟩ | ⟨u, h5, h6, h7⟩
            · exact .inl ⟨j, e, fun k1 k2 => by simp only [avK, if_neg h1, if_neg h2, if_neg h3, if_neg h4]; exact h5 k1 k2, h6⟩
            · refine .inr ⟨u, fun k1 k2 => by simp only [avK, if_neg h1, if_neg h2, if_neg h3, if_neg h4]; exact h5 k1 k2, h6.trans meet_sub.1, fun q hq => ?_⟩
              rcases List.mem_cons.1 hq with h8 | h8
              · subst h8; exact h6.trans meet_sub.2
              · exact h7 q h8
theorem f45_eq {a b c d : Int} {k : Bool → Option α} : f45_0 α a b c d k = k (decide (c ≤ a ∧ b ≤ d)) := by
  simp only [f45_0, f45_0g]
  by_cases h : c ≤ a <;> simp [h]
theorem R9_2_ok {l : List Rdg} (hl : l.length < 9223372036854775807) {t : Acc} (ht : ∀ r ∈ l, t.sub r.acc) {k1 : Option α} {k2 : Int → Bool → Option α} : ∀ (m i n : Nat), i + m = l.length → m < n →
    R9_0_2 α (l.map rRd) 0 t.a t.b t.c t.d t.e t.f k1 k2 n (i : Int) = k2 (l.length : Int) false := by
  intro m
  induction m with
  | zero =>
    intro i n h1 h2
    obtain ⟨n, rfl⟩ : ∃ z, n = z + 1 := ⟨n - 1, by omega⟩
    have hi : i = l.length := by omega
    simp only [R9_0_2, S9_0_2, S9_0_2g, List.length_map]
    rw [hi, decide_eq_false (by omega)]; rfl
  | succ m ih =>
    intro i n h1 h2
    obtain ⟨n, rfl⟩ : ∃ z, n = z + 1 := ⟨n - 1, by omega⟩
    have hi : i < l.length := by omega
    have hr := fun f => rowK_Rd (α := α) hi (f := f)
    have hs := ht _ (List.getElem_mem hi)
    unfold Acc.sub Rdg.acc at hs
    simp only at hs
    simp only [R9_0_2, S9_0_2, S9_0_2g, List.length_map]
    rw [decide_eq_true (by omega), cK_true, show ((0 : Int) == 0) = true from rfl, cK_true]
    simp only [hr, f45_eq]
    rw [decide_eq_true hs.1, Bool.not_true, cK_false, decide_eq_true hs.2.1, Bool.not_true, cK_false, decide_eq_true hs.2.2, Bool.not_true, cK_false, w64_in (by omega) (by omega), show (i : Int) + 1 = ((i + 1 : Nat) : Int) by omega]
    exact ih (i + 1) n (by omega) (by omega)
theorem R9_2_err {rows : Rows} {e : Int} (he : e ≠ 0) {a b c d x y : Int} {k1 : Option α} {k : Option α} {n : Nat} : R9_0_2 α rows e a b c d x y k1 (fun _ _ => k) (n + 1) 0 = k := by
  simp only [R9_0_2, S9_0_2, S9_0_2g]
  rw [beq_eq_false_iff_ne.2 he, cK_false]
  cases decide ((0 : Int) < ((List.length rows : Nat) : Int)) <;> rfl
theorem R9_1_eq {l : List Rdg} (hl : l.length < 9223372036854775807) {k1 : Option α} {k2 : Option α} : ∀ (m i n : Nat), i + m = l.length → m < n →
    R9_0_1 α (l.map rRd) k1 (fun _ _ => k2) n (i : Int) = cK ((l.drop i).all (fun r => decide (r.nm.size ≤ 30))) k2 k1 := by
  intro m
  induction m with
  | zero =>
    intro i n h1 h2
    obtain ⟨n, rfl⟩ : ∃ z, n = z + 1 := ⟨n - 1, by omega⟩
    rw [List.drop_eq_nil_of_le (by omega)]
    have hi : i = l.length := by omega
    simp only [R9_0_1, S9_0_1, S9_0_1g, List.length_map, List.all_nil, cK_true]
    rw [hi, decide_eq_false (by omega)]; rfl
  | succ m ih =>
    intro i n h1 h2
    obtain ⟨n, rfl⟩ : ∃ z, n = z + 1 := ⟨n - 1, by omega⟩
    have hi : i < l.length := by omega
    have hr := fun f => rowK_Rd (α := α) hi (f := f)
    rw [List.drop_eq_getElem_cons hi]
    simp only [R9_0_1, S9_0_1, S9_0_1g, List.length_map, List.all_cons]
    rw [decide_eq_true (by omega), cK_true, hr, w64_in (by omega) (by omega), show (i : Int) + 1 = ((i + 1 : Nat) : Int) by omega, ih (i + 1) n (by omega) (by omega)]
    by_cases h : 30 < (l[i]'hi).nm.size
    · rw [decide_eq_true (by omega), cK_true, decide_eq_false (show ¬ (l[i]'hi).nm.size ≤ 30 by omega), Bool.false_and, cK_false]
    · rw [decide_eq_false (by omega), cK_false, decide_eq_true (show (l[i]'hi).nm.size ≤ 30 by omega), Bool.true_and]

theorem ba_self (x : ByteArray) : (x == x) = true := by
  obtain ⟨d⟩ := x
  show (d == d) = true
  simp
theorem law9_in {l : List Rdg} (hl : l.length < 9223372036854775807) {k : Bool → Option α} :
    (avF l fun x23 x24 x25 x26 x27 x28 x29 x30 x31 x32 x33 x34 => avF l fun x35 x36 x37 x38 x39 x40 x41 x42 x43 x44 x45 x46 => cK (x34 != x46) (k false) (cK (x33 != x45) (k false)
      (cK (!((x23 == x35) && ((x24 == x36) && (((x25 == x37) && ((x26 == x38) && true)) && (((x27 == x39) && ((x28 == x40) && true)) && (((x29 == x41) && ((x30 == x42) && true)) && (((x31 == x43) && ((x32 == x44) && true)) && true)))))))
        (k false) (L9_0_2 α (l.map rRd) x46 x27 x28 x29 x30 x31 x32 (k false) (fun _ _ => k true) 0)))) = k true := by
  have hf := fuel_ge
  obtain ⟨z, hz⟩ : ∃ z, fuel = z + 1 := ⟨fuel - 1, by omega⟩
  have hself : ∀ (x : ByteArray) (a b c d e f g h i j m : Int) , (m ≠ 0 → cK (m != m) (k false) (cK (j != j) (k false)
      (cK (!((x == x) && ((a == a) && (((b == b) && ((c == c) && true)) && (((d == d) && ((e == e) && true)) && (((f == f) && ((g == g) && true)) && (((h == h) && ((i == i) && true)) && true)))))))
        (k false) (L9_0_2 α (l.map rRd) m d e f g h i (k false) (fun _ _ => k true) 0))) = k true) := by
    intro x a b c d e f g h i j m hm
    have hx : (x == x) = true := ba_self x
    simp only [bne_self_eq_false, cK_false, hx, beq_self_eq_true, Bool.and_self, Bool.not_true, L9_0_2, hz]
    exact R9_2_err hm
  match l, hl, hself with
  | [], _, hself =>
    simp only [avF]
    exact hself ⟨#[]⟩ 0 0 0 0 0 0 0 0 0 0 12 (by decide)
  | r0 :: t, hl, hself =>
    simp only [avF]
    by_cases h : 20 < (r0 :: t).length
    · simp only [if_pos h]; exact hself ⟨#[]⟩ 0 0 0 0 0 0 0 0 0 0 8 (by decide)
    · simp only [if_neg h]
      rcases avK_cases (α := α) r0 (r0 :: t) 0 ⟨r0.a, r0.b, r0.c, r0.d, r0.e, r0.f⟩ with ⟨j, e, h1, h2⟩ | ⟨u, h1, h2, h3⟩
      · simp only [h1]
        exact hself ⟨#[]⟩ 0 0 0 0 0 0 0 0 0 (j : Int) e h2
      · simp only [h1]
        have hx : (r0.nm == r0.nm) = true := ba_self _
        simp only [bne_self_eq_false, cK_false, hx, beq_self_eq_true, Bool.and_self, Bool.not_true, L9_0_2]
        exact R9_2_ok hl h3 (r0 :: t).length 0 fuel (by omega) (by omega)
theorem law9 {l : List Rdg} (hs : ∀ r ∈ l, r.nm.size ≤ 9223372036854775807) {k : Bool → Option α} : f9_0 α (l.map rRd) k = k true := by
  have hf := fuel_ge
  simp only [f9_0, f9_0g, f15_0, J9_0_0, J9_0_0g, List.length_map]
  have key : l.length ≤ 22 → L9_0_1 α (l.map rRd) (k true) (fun x20 x21 => gK (apOk 10 88 [] (l.map rRd)) (f43_0 α ([] ++ l.map rRd) fun x23 x24 x25 x26 x27 x28 x29 x30 x31 x32 x33 x34 => f44_0 α (l.map rRd) fun x35 x36 x37 x38 x39 x40 x41 x42 x43 x44 x45 x46 => cK (x34 != x46) (k false) (cK (x33 != x45) (k false)
      (cK (!((x23 == x35) && ((x24 == x36) && (((x25 == x37) && ((x26 == x38) && true)) && (((x27 == x39) && ((x28 == x40) && true)) && (((x29 == x41) && ((x30 == x42) && true)) && (((x31 == x43) && ((x32 == x44) && true)) && true)))))))
        (k false) (L9_0_2 α (l.map rRd) x46 x27 x28 x29 x30 x31 x32 (k false) (fun _ _ => k true) 0))))) 0 = k true := by
    intro h22
    have hl : l.length < 9223372036854775807 := by omega
    simp only [L9_0_1, List.nil_append, f43_eq hl hs, f44_eq hl]
    rw [show (0 : Int) = ((0 : Nat) : Int) from rfl, R9_1_eq hl l.length 0 fuel (by omega) (by omega), List.drop_zero]
    cases (l.all fun r => decide (r.nm.size ≤ 30))
    · rfl
    · rw [cK_true, apOk_of (enc := rRd) (fun _ => rfl) (by simp; omega) (by simp; omega), gK_true]
      exact law9_in hl
  by_cases h1 : 6 < l.length
  · rw [decide_eq_true (by omega), cK_true]
    by_cases h2 : l.length ≤ 20
    · rw [decide_eq_true (by omega), cK_true]
    · rw [decide_eq_false (by omega), cK_false]
      by_cases h3 : 22 < l.length
      · rw [decide_eq_true (by omega), cK_true]
      · rw [decide_eq_false (by omega), cK_false]; exact key (by omega)
  · rw [decide_eq_false (by omega), cK_false, decide_eq_false (by omega), cK_false]; exact key (by omega)
end Go.AM.K
