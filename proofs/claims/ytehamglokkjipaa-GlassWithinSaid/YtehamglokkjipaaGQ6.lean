/- Chapter 2: what is told at a wavelength lies in what is told for a range. -/
import Derived.Test.YtehamglokkjipaaGP10
namespace Go.AM.K
set_option linter.unusedVariables false
set_option linter.unusedSimpArgs false
variable {α : Type}
theorem J6_err {wave e lo hi : Int} (he : e ≠ 0) {k : Bool → Option α} {rest : Option α} : J6_0_0 α wave e lo hi (fun x41 => cK x41 (cK (e == 0) (k true) (k ((((0 : Int) == 0) && (((0 : Int) == 0) && true)) && ((((0 : Int) == 0) && (((0 : Int) == 0) && true)) && true)))) rest) = k true := by
  simp only [J6_0_0, J6_0_0g]
  rw [show (e != 0) = true by simpa using he, show (e == 0) = false by simpa using he]
  rfl
theorem J6_out {wave lo hi : Int} (hw : inB wave lo hi = false) {k : Bool → Option α} {z : Bool} {rest : Option α} : J6_0_0 α wave 0 lo hi (fun x41 => cK x41 (cK ((0 : Int) == 0) (k true) (k z)) rest) = k true := by
  simp only [J6_0_0, J6_0_0g, f16_eq, hw]
  rfl
theorem J6_in {wave lo hi : Int} (hw : inB wave lo hi = true) {kk : Bool → Option α} : J6_0_0 α wave 0 lo hi kk = kk false := by
  simp only [J6_0_0, J6_0_0g, f16_eq, hw]
  rfl
theorem chain {n m a b c d a' b' c' d' : Int} (h1 : a ≤ n) (h2 : n ≤ b) (h3 : a ≤ a') (h4 : b' ≤ b) (h5 : a' ≤ n) (h6 : n ≤ b') (g1 : c ≤ m) (g2 : m ≤ d) (g3 : c ≤ c') (g4 : d' ≤ d) (g5 : c' ≤ m) (g6 : m ≤ d') {k : Bool → Option α} :
    (cK ((0 : Int) != 0) (k false) (cK ((0 : Int) != 0) (k false) (f16_0 α n a b (fun x65 => cK (!x65) (k false) (cK (decide (a' < a)) (k false) (cK (decide (b < b')) (k false) (f16_0 α n a' b' (fun x66 => cK (!x66) (k false) (f16_0 α m c d (fun x67 => cK (!x67) (k false)
      (cK (decide (c' < c)) (k false) (cK (decide (d < d')) (k false) (f16_0 α m c' d' (fun x68 => cK (!x68) (k false) (k true))))))))))))))) = k true := by
  simp only [f16_eq]
  rw [inB_iff.2 ⟨h1, h2⟩, inB_iff.2 ⟨h5, h6⟩, inB_iff.2 ⟨g1, g2⟩, inB_iff.2 ⟨g5, g6⟩, decide_eq_false (show ¬ a' < a by omega), decide_eq_false (show ¬ b < b' by omega), decide_eq_false (show ¬ c' < c by omega), decide_eq_false (show ¬ d < d' by omega)]
  rfl
theorem TabOk.encl {lw : List Int} {lx ly : List Nat} (h : TabOk lw lx ly) {lo hi w : Int} (h1 : gW lw 0 ≤ lo) (h2 : lo ≤ w) (h3 : w ≤ hi) (h4 : hi ≤ gW lw (lw.length - 1)) (v : Nat → Int) :
    bLo lw v lo hi ≤ flo lw v w ∧ cei lw v w ≤ bHi lw v lo hi ∧ bLo lw v lo hi ≤ bLo lw v w hi ∧ bHi lw v w hi ≤ bHi lw v lo hi ∧ bLo lw v w hi ≤ flo lw v w ∧ cei lw v w ≤ bHi lw v w hi := by
  have lower : ∀ {lo hi z : Int}, z ∈ wvs lw lo hi lw.length → bLo lw v lo hi ≤ flo lw v z ∧ cei lw v z ≤ bHi lw v lo hi := fun {lo hi z} hz => by
    obtain ⟨i, hi', e⟩ := mem_getD hz
    unfold bLo bHi
    have a := hmin_le (g := flo lw v) (L := wvs lw lo hi lw.length) _ i hi'
    have b := hmax_ge (g := cei lw v) (L := wvs lw lo hi lw.length) _ i hi'
    rw [e] at a b
    exact ⟨a, b⟩
  obtain ⟨a, b, ha, hb, q1, q2⟩ := h.between h1 h2 h3 h4 v
  have ma : a ∈ wvs lw lo hi lw.length := wvs_mem.2 (by
    rcases ha with e | ⟨p1, p2, p3⟩
    · exact .inl e
    · exact .inr (.inr ⟨p3, p1, p2⟩))
  have mb : b ∈ wvs lw lo hi lw.length := wvs_mem.2 (by
    rcases hb with e | ⟨p1, p2, p3⟩
    · exact .inr (.inl e)
    · exact .inr (.inr ⟨p3, p1, p2⟩))
  have la := lower ma
  have lb := lower mb
  have c1 : bLo lw v lo hi ≤ flo lw v w := by rcases q1 with q | q <;> omega
  have c2 : cei lw v w ≤ bHi lw v lo hi := by rcases q2 with q | q <;> omega
  have mw : w ∈ wvs lw w hi lw.length := wvs_mem.2 (.inl rfl)
  have lw' := lower mw
  have hl := wvs_len (lw := lw) (lo := w) (hi := hi) (i := lw.length)
  have sub : ∀ {z : Int}, z ∈ wvs lw w hi lw.length → bLo lw v lo hi ≤ flo lw v z ∧ cei lw v z ≤ bHi lw v lo hi := fun {z} hz => by
    rcases wvs_mem.1 hz with e | e | ⟨p3, p1, p2⟩
    · rw [e]; exact ⟨c1, c2⟩
    · exact lower (wvs_mem.2 (.inr (.inl e)))
    · exact lower (wvs_mem.2 (.inr (.inr ⟨p3, by omega, p2⟩)))
  refine ⟨c1, c2, ?_, ?_, lw'.1, lw'.2⟩
  · obtain ⟨i, hi', e⟩ := hmin_ex (g := flo lw v) (L := wvs lw w hi lw.length) (wvs lw w hi lw.length).length (by omega)
    have := (sub (getD_mem hi')).1
    unfold bLo at *
    rw [e]; exact this
  · obtain ⟨i, hi', e⟩ := hmax_ex (g := cei lw v) (L := wvs lw w hi lw.length) (wvs lw w hi lw.length).length (by omega)
    have := (sub (getD_mem hi')).2
    unfold bHi at *
    rw [e]; exact this
theorem law6 {s : ByteArray} {kd : Int} {lw : List Int} {lx ly : List Nat} {c0 c1 lo hi wave : Int} {k : Bool → Option α} : f6_0 α s kd (lw.map rI1) (lx.map rF) (ly.map rF) c0 c1 lo hi wave k = k true := by
  simp only [f6_0, f6_0g, f7_0, f8_eq]
  cases hf : fewB s lw lx ly with
  | false => rfl
  | true =>
    obtain ⟨l1, l2, l3, l4⟩ := few_le hf
    have hs : s.size ≤ 9223372036854775807 := by omega
    have w1 : lw.length ≤ 1000 := by omega
    have w2 : lx.length ≤ 1000 := by omega
    have w3 : ly.length ≤ 1000 := by omega
    simp only [Bool.not_true, cK_false, f10_eq w1 w2 w3]
    by_cases hE : (ckG s kd lw lx ly c0 c1).2 = 0
    · rcases ck_ok hE with ⟨hk, h⟩ | ⟨hk, h⟩
      · simp only [h.f17 hs hE hk, h.f18 hs hE hk]
        by_cases a1 : isW lo = true ∧ isW hi = true
        · rw [if_neg (fun q => q a1)]
          by_cases a2 : hi < lo
          · rw [if_pos a2]; exact J6_err (by decide)
          · rw [if_neg a2]
            by_cases a3 : covB lw lo = true ∧ covB lw hi = true
            · rw [if_neg (fun q => q a3)]
              cases hin : inB wave lo hi with
              | false => exact J6_out hin
              | true =>
                rw [J6_in hin, cK_false]
                rw [inB_iff] at hin
                have b1 := isW_iff.1 a1.1
                have b2 := isW_iff.1 a1.2
                have c1' := inB_iff.1 a3.1
                have c2' := inB_iff.1 a3.2
                have e1 : isW wave = true := isW_iff.2 ⟨by omega, by omega⟩
                have e2 : covB lw wave = true := inB_iff.2 ⟨by omega, by omega⟩
                rw [e1, e2]
                simp only [Bool.true_eq_false, if_false]
                rw [if_neg (fun q => q ⟨trivial, a1.2⟩), if_neg (by omega), if_neg (fun q => q ⟨trivial, a3.2⟩)]
                obtain ⟨p1, p2, p3, p4, p5, p6⟩ := h.encl (lo := lo) (hi := hi) (w := wave) c1'.1 hin.1 hin.2 c2'.2 (gV lx)
                obtain ⟨q1, q2, q3, q4, q5, q6⟩ := h.encl (lo := lo) (hi := hi) (w := wave) c1'.1 hin.1 hin.2 c2'.2 (gV ly)
                have d1 := (h.at_bd (w := wave) (by omega) (by omega) h.vx).1
                have n1 := near_in (n := atN lw (gV lx) wave) d1
                have n2 := near_in (n := atN lw (gV ly) wave) d1
                unfold flo cei at *
                exact chain (by omega) (by omega) (by omega) (by omega) (by omega) (by omega) (by omega) (by omega) (by omega) (by omega) (by omega) (by omega)
            · rw [if_pos a3]; exact J6_err (by decide)
        · rw [if_pos a1]; exact J6_err (by decide)
      · simp only [h.f17 hs w1 w2 w3 hE hk, h.f18 hs w1 w2 w3 hE hk]
        by_cases a1 : isW lo = true ∧ isW hi = true
        · rw [if_neg (fun q => q a1)]
          by_cases a2 : hi < lo
          · rw [if_pos a2]; exact J6_err (by decide)
          · rw [if_neg a2]
            cases hin : inB wave lo hi with
            | false => exact J6_out hin
            | true =>
              rw [J6_in hin, cK_false]
              rw [inB_iff] at hin
              have b1 := isW_iff.1 a1.1
              have b2 := isW_iff.1 a1.2
              have e1 : isW wave = true := isW_iff.2 ⟨by omega, by omega⟩
              rw [e1]
              simp only [Bool.true_eq_false, if_false]
              rw [if_neg (fun q => q ⟨trivial, a1.2⟩), if_neg (by omega)]
              obtain ⟨f1, f2⟩ := h.falls (u := wave) (w := hi) (by omega) hin.2 b2.2
              obtain ⟨f3, f4⟩ := h.falls (u := lo) (w := wave) b1.1 hin.1 (by omega)
              have hq := sqw (w := wave) (by omega) (by omega)
              have n1 := near_in (n := fN c0 c1 wave 1) (d := wave * wave) (by omega)
              exact chain (by omega) (by omega) (by omega) (by omega) (by omega) (by omega) (by omega) (by omega) (by omega) (by omega) (by omega) (by omega)
        · rw [if_pos a1]; exact J6_err (by decide)
    · simp only [f17_E hs w1 w2 w3 hE]
      exact J6_err hE
end Go.AM.K
