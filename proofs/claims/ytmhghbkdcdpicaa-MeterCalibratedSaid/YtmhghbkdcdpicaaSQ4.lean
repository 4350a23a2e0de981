/- MeterCalibrated. -/
import Derived.Test.YtmhghbkdcdpicaaSQ0
import Derived.Test.YtmhghbkdcdpicaaKTt
namespace Go.AM.K
set_option linter.unusedVariables false
set_option linter.unusedSimpArgs false
variable {α : Type}
theorem mlo_at {n lo hi p N : Int} (h : lo * N ≤ p ∧ p ≤ hi * N) : mlo n lo hi * N ≤ n * p ∧ n * p ≤ mhi n lo hi * N := by
  unfold mlo mhi
  by_cases hn : n < 0
  · have a := Int.mul_nonneg (show 0 ≤ -n by omega) (show 0 ≤ hi * N - p by omega)
    have b := Int.mul_nonneg (show 0 ≤ -n by omega) (show 0 ≤ p - lo * N by omega)
    rw [if_pos hn, if_pos hn]
    constructor <;> grind
  · have a := Int.mul_nonneg (show 0 ≤ n by omega) (show 0 ≤ hi * N - p by omega)
    have b := Int.mul_nonneg (show 0 ≤ n by omega) (show 0 ≤ p - lo * N by omega)
    rw [if_neg hn, if_neg hn]
    constructor <;> grind
theorem rl_at {n m l a0 a1 b0 b1 c0 c1 p q r N : Int} (ha : a0 * N ≤ p ∧ p ≤ a1 * N) (hb : b0 * N ≤ q ∧ q ≤ b1 * N) (hc : c0 * N ≤ r ∧ r ≤ c1 * N) :
    rl n m l a0 a1 b0 b1 c0 c1 * N ≤ n * p + m * q + l * r ∧ n * p + m * q + l * r ≤ rh n m l a0 a1 b0 b1 c0 c1 * N := by
  have h1 := mlo_at (n := n) ha
  have h2 := mlo_at (n := m) hb
  have h3 := mlo_at (n := l) hc
  unfold rl rh
  rw [Int.add_mul, Int.add_mul, Int.add_mul, Int.add_mul]
  omega
theorem rl_at1 {n m l a0 a1 b0 b1 c0 c1 p q r : Int} (ha : a0 ≤ p ∧ p ≤ a1) (hb : b0 ≤ q ∧ q ≤ b1) (hc : c0 ≤ r ∧ r ≤ c1) :
    rl n m l a0 a1 b0 b1 c0 c1 ≤ n * p + m * q + l * r ∧ n * p + m * q + l * r ≤ rh n m l a0 a1 b0 b1 c0 c1 := by
  have := rl_at (n := n) (m := m) (l := l) (N := 1) (p := p) (q := q) (r := r) (a0 := a0) (a1 := a1) (b0 := b0) (b1 := b1) (c0 := c0) (c1 := c1) (by omega) (by omega) (by omega)
  omega
theorem cdv_le {x d z : Int} (hd : 0 < d) (h : x ≤ z * d) : cdv x d ≤ z := by
  unfold cdv
  have : -z ≤ -x / d := by rw [Int.le_ediv_iff_mul_le hd, Int.neg_mul]; omega
  omega
theorem le_cdv {x d : Int} (hd : 0 < d) : x ≤ cdv x d * d := by
  unfold cdv
  have := Int.ediv_mul_le (-x) (b := d) (by omega)
  rw [Int.neg_mul]; omega
theorem fl_le {x d : Int} (hd : 0 < d) : x / d * d ≤ x := Int.ediv_mul_le x (by omega)
theorem le_fl {x d z : Int} (hd : 0 < d) (h : z * d ≤ x) : z ≤ x / d := (Int.le_ediv_iff_mul_le hd).2 h
theorem see_at {n m l a0 a1 b0 b1 c0 c1 p q r d : Int} (hd : 0 < d) (ha : a0 ≤ p ∧ p ≤ a1) (hb : b0 ≤ q ∧ q ≤ b1) (hc : c0 ≤ r ∧ r ≤ c1) :
    rl n m l a0 a1 b0 b1 c0 c1 / d * d ≤ n * p + m * q + l * r ∧ n * p + m * q + l * r ≤ cdv (rh n m l a0 a1 b0 b1 c0 c1) d * d := by
  have h := rl_at1 (n := n) (m := m) (l := l) ha hb hc
  have h1 := fl_le (x := rl n m l a0 a1 b0 b1 c0 c1) hd
  have h2 := le_cdv (x := rh n m l a0 a1 b0 b1 c0 c1) hd
  omega
theorem rl_end {n m l a0 a1 b0 b1 c0 c1 : Int} (ha : a0 ≤ a1) (hb : b0 ≤ b1) (hc : c0 ≤ c1) :
    (∃ p q r, (a0 ≤ p ∧ p ≤ a1) ∧ (b0 ≤ q ∧ q ≤ b1) ∧ (c0 ≤ r ∧ r ≤ c1) ∧ rl n m l a0 a1 b0 b1 c0 c1 = n * p + m * q + l * r) ∧
    ∃ p q r, (a0 ≤ p ∧ p ≤ a1) ∧ (b0 ≤ q ∧ q ≤ b1) ∧ (c0 ≤ r ∧ r ≤ c1) ∧ rh n m l a0 a1 b0 b1 c0 c1 = n * p + m * q + l * r := by
  constructor
  · refine ⟨if n < 0 then a1 else a0, if m < 0 then b1 else b0, if l < 0 then c1 else c0, ?_, ?_, ?_, rfl⟩ <;> split <;> omega
  · refine ⟨if n < 0 then a0 else a1, if m < 0 then b0 else b1, if l < 0 then c0 else c1, ?_, ?_, ?_, rfl⟩ <;> split <;> omega
theorem back_at {x y z n1 n2 n3 n4 n5 n6 n7 n8 n9 a0 a1 b0 b1 c0 c1 n D p q r t : Int} (hn : 0 < n) (hD : 0 < D) (ha : a0 ≤ p ∧ p ≤ a1) (hb : b0 ≤ q ∧ q ≤ b1) (hc : c0 ≤ r ∧ r ≤ c1)
    (e : x * (n1 * p + n2 * q + n3 * r) + y * (n4 * p + n5 * q + n6 * r) + z * (n7 * p + n8 * q + n9 * r) = D * t) :
    rl x y z (rl n1 n2 n3 a0 a1 b0 b1 c0 c1 / n) (cdv (rh n1 n2 n3 a0 a1 b0 b1 c0 c1) n) (rl n4 n5 n6 a0 a1 b0 b1 c0 c1 / n) (cdv (rh n4 n5 n6 a0 a1 b0 b1 c0 c1) n) (rl n7 n8 n9 a0 a1 b0 b1 c0 c1 / n) (cdv (rh n7 n8 n9 a0 a1 b0 b1 c0 c1) n) * n / D ≤ t ∧
    t ≤ cdv (rh x y z (rl n1 n2 n3 a0 a1 b0 b1 c0 c1 / n) (cdv (rh n1 n2 n3 a0 a1 b0 b1 c0 c1) n) (rl n4 n5 n6 a0 a1 b0 b1 c0 c1 / n) (cdv (rh n4 n5 n6 a0 a1 b0 b1 c0 c1) n) (rl n7 n8 n9 a0 a1 b0 b1 c0 c1 / n) (cdv (rh n7 n8 n9 a0 a1 b0 b1 c0 c1) n) * n) D := by
  have h := rl_at (n := x) (m := y) (l := z) (see_at (n := n1) (m := n2) (l := n3) hn ha hb hc) (see_at (n := n4) (m := n5) (l := n6) hn ha hb hc) (see_at (n := n7) (m := n8) (l := n9) hn ha hb hc)
  rw [e] at h
  refine ⟨?_, ?_⟩
  · have h1 := Int.ediv_le_ediv hD h.1
    rwa [Int.mul_ediv_cancel_left _ (by omega)] at h1
  · have h2 := le_cdv (x := rh x y z (rl n1 n2 n3 a0 a1 b0 b1 c0 c1 / n) (cdv (rh n1 n2 n3 a0 a1 b0 b1 c0 c1) n) (rl n4 n5 n6 a0 a1 b0 b1 c0 c1 / n) (cdv (rh n4 n5 n6 a0 a1 b0 b1 c0 c1) n) (rl n7 n8 n9 a0 a1 b0 b1 c0 c1 / n) (cdv (rh n7 n8 n9 a0 a1 b0 b1 c0 c1) n) * n) hD
    have h3 := Int.le_trans h.2 h2
    rw [Int.mul_comm] at h3
    exact Int.le_of_mul_le_mul_right h3 hD
theorem prod_at {m1 m2 m3 x y z n1 n2 n3 n4 n5 n6 n7 n8 n9 a0 a1 b0 b1 c0 c1 n d g M : Int} (hn : 0 < n) (hd : 0 < d) (hg : 0 < g) (hM : 0 < M) (ha : a0 ≤ a1) (hb : b0 ≤ b1) (hc : c0 ≤ c1)
    (e1 : m1 * g = x * n1 + y * n4 + z * n7) (e2 : m2 * g = x * n2 + y * n5 + z * n8) (e3 : m3 * g = x * n3 + y * n6 + z * n9) (eM : M * g = d * n) :
    rl x y z (rl n1 n2 n3 a0 a1 b0 b1 c0 c1 / n) (cdv (rh n1 n2 n3 a0 a1 b0 b1 c0 c1) n) (rl n4 n5 n6 a0 a1 b0 b1 c0 c1 / n) (cdv (rh n4 n5 n6 a0 a1 b0 b1 c0 c1) n) (rl n7 n8 n9 a0 a1 b0 b1 c0 c1 / n) (cdv (rh n7 n8 n9 a0 a1 b0 b1 c0 c1) n) / d ≤ rl m1 m2 m3 a0 a1 b0 b1 c0 c1 / M ∧
    cdv (rh m1 m2 m3 a0 a1 b0 b1 c0 c1) M ≤ cdv (rh x y z (rl n1 n2 n3 a0 a1 b0 b1 c0 c1 / n) (cdv (rh n1 n2 n3 a0 a1 b0 b1 c0 c1) n) (rl n4 n5 n6 a0 a1 b0 b1 c0 c1 / n) (cdv (rh n4 n5 n6 a0 a1 b0 b1 c0 c1) n) (rl n7 n8 n9 a0 a1 b0 b1 c0 c1 / n) (cdv (rh n7 n8 n9 a0 a1 b0 b1 c0 c1) n)) d := by
  have key : ∀ {p q r : Int}, (a0 ≤ p ∧ p ≤ a1) → (b0 ≤ q ∧ q ≤ b1) → (c0 ≤ r ∧ r ≤ c1) → _ := fun {p q r} hp hq hr =>
    rl_at (n := x) (m := y) (l := z) (see_at (n := n1) (m := n2) (l := n3) hn hp hq hr) (see_at (n := n4) (m := n5) (l := n6) hn hp hq hr) (see_at (n := n7) (m := n8) (l := n9) hn hp hq hr)
  have es : ∀ p q r : Int, x * (n1 * p + n2 * q + n3 * r) + y * (n4 * p + n5 * q + n6 * r) + z * (n7 * p + n8 * q + n9 * r) = (m1 * p + m2 * q + m3 * r) * g := by
    intro p q r
    have : (m1 * p + m2 * q + m3 * r) * g = (m1 * g) * p + (m2 * g) * q + (m3 * g) * r := by grind
    rw [this, e1, e2, e3]; grind
  generalize rl n1 n2 n3 a0 a1 b0 b1 c0 c1 / n = y1 at *
  generalize cdv (rh n1 n2 n3 a0 a1 b0 b1 c0 c1) n = y2 at *
  generalize rl n4 n5 n6 a0 a1 b0 b1 c0 c1 / n = y3 at *
  generalize cdv (rh n4 n5 n6 a0 a1 b0 b1 c0 c1) n = y4 at *
  generalize rl n7 n8 n9 a0 a1 b0 b1 c0 c1 / n = y5 at *
  generalize cdv (rh n7 n8 n9 a0 a1 b0 b1 c0 c1) n = y6 at *
  obtain ⟨⟨p, q, r, hp, hq, hr, he⟩, p', q', r', hp', hq', hr', he'⟩ := rl_end (n := m1) (m := m2) (l := m3) ha hb hc
  have k1 := (key hp hq hr).1
  have k2 := (key hp' hq' hr').2
  rw [es, ← he] at k1
  rw [es, ← he'] at k2
  generalize rl m1 m2 m3 a0 a1 b0 b1 c0 c1 = P at *
  generalize rh m1 m2 m3 a0 a1 b0 b1 c0 c1 = Q at *
  generalize rl x y z y1 y2 y3 y4 y5 y6 = S at *
  generalize rh x y z y1 y2 y3 y4 y5 y6 = T at *
  constructor
  · have h1 := fl_le (x := S) hd
    apply le_fl hM
    have h2 := Int.mul_le_mul_of_nonneg_right h1 (show 0 ≤ n by omega)
    have h3 : S / d * M * g = S / d * d * n := by rw [Int.mul_assoc, Int.mul_assoc, eM]
    have h4 : S / d * M * g ≤ P * g := by omega
    exact Int.le_of_mul_le_mul_right h4 hg
  · have h1 := le_cdv (x := T) hd
    apply cdv_le hM
    have h2 := Int.mul_le_mul_of_nonneg_right h1 (show 0 ≤ n by omega)
    have h3 : cdv T d * M * g = cdv T d * d * n := by rw [Int.mul_assoc, Int.mul_assoc, eM]
    have h4 : Q * g ≤ cdv T d * M * g := by omega
    exact Int.le_of_mul_le_mul_right h4 hg
theorem adj_id {n1 n2 n3 n4 n5 n6 n7 n8 n9 p q r D : Int} (hD : D = n1 * (n5 * n9 - n6 * n8) + n2 * (n6 * n7 - n4 * n9) + n3 * (n4 * n8 - n5 * n7)) :
    (n5 * n9 - n6 * n8) * (n1 * p + n2 * q + n3 * r) + (n8 * n3 - n9 * n2) * (n4 * p + n5 * q + n6 * r) + (n2 * n6 - n3 * n5) * (n7 * p + n8 * q + n9 * r) = D * p ∧
    (n6 * n7 - n4 * n9) * (n1 * p + n2 * q + n3 * r) + (n9 * n1 - n7 * n3) * (n4 * p + n5 * q + n6 * r) + (n3 * n4 - n1 * n6) * (n7 * p + n8 * q + n9 * r) = D * q ∧
    (n4 * n8 - n5 * n7) * (n1 * p + n2 * q + n3 * r) + (n7 * n2 - n8 * n1) * (n4 * p + n5 * q + n6 * r) + (n1 * n5 - n2 * n4) * (n7 * p + n8 * q + n9 * r) = D * r := by
  subst hD
  refine ⟨?_, ?_, ?_⟩ <;> grind
theorem mapK_split (n1 n2 n3 n4 n5 n6 n7 n8 n9 a0 a1 b0 b1 c0 c1 u d : Int) :
    (∀ {k : Int → Int → Int → Int → Int → Int → Int → Option α}, mapK n1 n2 n3 n4 n5 n6 n7 n8 n9 a0 a1 b0 b1 c0 c1 u d k = k 0 0 0 0 0 0 8) ∨
    (okS (rl n1 n2 n3 a0 a1 b0 b1 c0 c1 * u / d) = true ∧ okS (cdv (rh n1 n2 n3 a0 a1 b0 b1 c0 c1 * u) d) = true ∧ okS (rl n4 n5 n6 a0 a1 b0 b1 c0 c1 * u / d) = true ∧ okS (cdv (rh n4 n5 n6 a0 a1 b0 b1 c0 c1 * u) d) = true ∧ okS (rl n7 n8 n9 a0 a1 b0 b1 c0 c1 * u / d) = true ∧ okS (cdv (rh n7 n8 n9 a0 a1 b0 b1 c0 c1 * u) d) = true) ∧
    ∀ {k : Int → Int → Int → Int → Int → Int → Int → Option α}, mapK n1 n2 n3 n4 n5 n6 n7 n8 n9 a0 a1 b0 b1 c0 c1 u d k = k (rl n1 n2 n3 a0 a1 b0 b1 c0 c1 * u / d) (cdv (rh n1 n2 n3 a0 a1 b0 b1 c0 c1 * u) d) (rl n4 n5 n6 a0 a1 b0 b1 c0 c1 * u / d) (cdv (rh n4 n5 n6 a0 a1 b0 b1 c0 c1 * u) d) (rl n7 n8 n9 a0 a1 b0 b1 c0 c1 * u / d) (cdv (rh n7 n8 n9 a0 a1 b0 b1 c0 c1 * u) d) 0 := by
  unfold mapK
  by_cases h : okS (rl n1 n2 n3 a0 a1 b0 b1 c0 c1 * u / d) = true ∧ okS (cdv (rh n1 n2 n3 a0 a1 b0 b1 c0 c1 * u) d) = true ∧ okS (rl n4 n5 n6 a0 a1 b0 b1 c0 c1 * u / d) = true ∧ okS (cdv (rh n4 n5 n6 a0 a1 b0 b1 c0 c1 * u) d) = true ∧ okS (rl n7 n8 n9 a0 a1 b0 b1 c0 c1 * u / d) = true ∧ okS (cdv (rh n7 n8 n9 a0 a1 b0 b1 c0 c1 * u) d) = true
  · exact .inr ⟨h, fun {k} => if_pos h⟩
  · exact .inl fun {k} => if_neg h
theorem smE_zero {a b c d e' f : Int} (h : Rg a b c d e' f) : smE a b c d e' f = 0 := by
  obtain ⟨h1, h2, h3, h4, h5, h6, h7, h8, h9⟩ := h
  have e : ∀ x y : Int, (-10000000 ≤ x ∧ x ≤ 10000000) → (-10000000 ≤ y ∧ y ≤ 10000000) → x ≤ y → rgE 10000000 x y = 0 := fun x y a b c => by
    unfold rgE; rw [if_pos ⟨a, b⟩, if_neg (by omega)]
  unfold smE
  rw [e a b h1 h2 h7, e c d h3 h4 h8, e e' f h5 h6 h9]
  rfl
theorem okS_bd {x : Int} (h : okS x = true) : -10000000 ≤ x ∧ x ≤ 10000000 := of_decide_eq_true h
theorem fl_cdv {n m l a0 a1 b0 b1 c0 c1 d : Int} (hd : 0 < d) (hr : Rg a0 a1 b0 b1 c0 c1) : rl n m l a0 a1 b0 b1 c0 c1 / d ≤ cdv (rh n m l a0 a1 b0 b1 c0 c1) d := by
  have h := see_at (n := n) (m := m) (l := l) hd (p := a0) (q := b0) (r := c0) ⟨Int.le_refl _, hr.a⟩ ⟨Int.le_refl _, hr.b⟩ ⟨Int.le_refl _, hr.c⟩
  exact Int.le_of_mul_le_mul_right (Int.le_trans h.1 h.2) hd
theorem f6_any (n1 n2 n3 n4 n5 n6 n7 n8 n9 n a0 a1 b0 b1 c0 c1 : Int) : ∃ x y z w p q r, ∀ {k : Int → Int → Int → Int → Int → Int → Int → Option α}, f6_0 α n1 n2 n3 n4 n5 n6 n7 n8 n9 n a0 a1 b0 b1 c0 c1 k = k x y z w p q r := by
  by_cases h : mxE n1 n2 n3 n4 n5 n6 n7 n8 n9 n = 0
  · by_cases hs : smE a0 a1 b0 b1 c0 c1 = 0
    · obtain ⟨x, y, z, w, p, q, r, g1⟩ := mapK_cases (α := α) n1 n2 n3 n4 n5 n6 n7 n8 n9 a0 a1 b0 b1 c0 c1 1 n
      exact ⟨x, y, z, w, p, q, r, fun {k} => by rw [f6_ok h hs, g1]⟩
    · exact ⟨0, 0, 0, 0, 0, 0, smE a0 a1 b0 b1 c0 c1, fun {k} => by simp only [f6_0, f6_0g, f22_eq, h, ne_eq, not_true_eq_false, if_false, bne_iff_ne.2 hs, cK_true]⟩
  · exact ⟨0, 0, 0, 0, 0, 0, mxE n1 n2 n3 n4 n5 n6 n7 n8 n9 n, fun {k} => by simp only [f6_0, f6_0g, f22_eq, h, ne_eq, not_false_eq_true, if_true, bne_iff_ne.2 h, cK_true]⟩
theorem tdb {n y : Int} (hy : 0 < y) (hn : -3000000 ≤ n ∧ n ≤ 3000000) : -3000000 ≤ n.tdiv y ∧ n.tdiv y ≤ 3000000 := by
  have h : (n.tdiv y).natAbs = n.natAbs / y.natAbs := Int.natAbs_tdiv n y
  have h2 := Nat.div_le_self n.natAbs y.natAbs
  omega
theorem row3 {x y z p q r : Int} (hx : -1000 ≤ x ∧ x ≤ 1000) (hy : -1000 ≤ y ∧ y ≤ 1000) (hz : -1000 ≤ z ∧ z ≤ 1000) (hp : -1000 ≤ p ∧ p ≤ 1000) (hq : -1000 ≤ q ∧ q ≤ 1000) (hr : -1000 ≤ r ∧ r ≤ 1000) :
    w64 ((w64 ((w64 (0 + (w64 (x * p)))) + (w64 (y * q)))) + (w64 (z * r))) = x * p + y * q + z * r ∧ -3000000 ≤ x * p + y * q + z * r ∧ x * p + y * q + z * r ≤ 3000000 := by
  have h1 := mul_bd2 hx hp
  have h2 := mul_bd2 hy hq
  have h3 := mul_bd2 hz hr
  rw [w64_in (n := x * p) (by omega) (by omega), w64_in (n := y * q) (by omega) (by omega), w64_in (n := z * r) (by omega) (by omega), w64_in (n := 0 + x * p) (by omega) (by omega), w64_in (n := 0 + x * p + y * q) (by omega) (by omega), w64_in (by omega) (by omega)]
  omega
theorem f13_ok {x1 x2 x3 x4 x5 x6 x7 x8 x9 x10 x11 x12 x13 x14 x15 x16 x17 x18 x19 x20 : Int} (h1 : mxE x1 x2 x3 x4 x5 x6 x7 x8 x9 x10 = 0) (h2 : mxE x11 x12 x13 x14 x15 x16 x17 x18 x19 x20 = 0) :
    (∀ {k : Int → Int → Int → Int → Int → Int → Int → Int → Int → Int → Int → Option α}, f13_0 α x1 x2 x3 x4 x5 x6 x7 x8 x9 x10 x11 x12 x13 x14 x15 x16 x17 x18 x19 x20 k = k 0 0 0 0 0 0 0 0 0 0 8) ∨
    ∃ m1 m2 m3 m4 m5 m6 m7 m8 m9 M g : Int, 0 < g ∧ mxE m1 m2 m3 m4 m5 m6 m7 m8 m9 M = 0 ∧ m1 * g = x1 * x11 + x2 * x14 + x3 * x17 ∧ m2 * g = x1 * x12 + x2 * x15 + x3 * x18 ∧ m3 * g = x1 * x13 + x2 * x16 + x3 * x19 ∧ m4 * g = x4 * x11 + x5 * x14 + x6 * x17 ∧ m5 * g = x4 * x12 + x5 * x15 + x6 * x18 ∧ m6 * g = x4 * x13 + x5 * x16 + x6 * x19 ∧ m7 * g = x7 * x11 + x8 * x14 + x9 * x17 ∧ m8 * g = x7 * x12 + x8 * x15 + x9 * x18 ∧ m9 * g = x7 * x13 + x8 * x16 + x9 * x19 ∧ M * g = x10 * x20 ∧
      ∀ {k : Int → Int → Int → Int → Int → Int → Int → Int → Int → Int → Int → Option α}, f13_0 α x1 x2 x3 x4 x5 x6 x7 x8 x9 x10 x11 x12 x13 x14 x15 x16 x17 x18 x19 x20 k = k m1 m2 m3 m4 m5 m6 m7 m8 m9 M 0 := by
  simp only [f13_0, f13_0g, f31_eq, h1, h2, bne_self_eq_false, cK_false]
  obtain ⟨⟨d1, d2⟩, _⟩ := mxE_ok h1
  obtain ⟨⟨d3, d4⟩, _⟩ := mxE_ok h2
  have hm : 1 ≤ x10 * x20 ∧ x10 * x20 ≤ 1000000 := by
    have a1 : 1 * 1 ≤ x10 * x20 := Int.mul_le_mul d1 d3 (by omega) (by omega)
    have a2 : x10 * x20 ≤ 1000 * 1000 := Int.mul_le_mul d2 d4 (by omega) (by omega)
    omega
  have hd : w64 (x10 * x20) = x10 * x20 := w64_in (by omega) (by omega)
  have na := Nb.of h1
  have nb := Nb.of h2
  have t1 := row3 na.n1 na.n2 na.n3 nb.n1 nb.n4 nb.n7
  have t2 := row3 na.n1 na.n2 na.n3 nb.n2 nb.n5 nb.n8
  have t3 := row3 na.n1 na.n2 na.n3 nb.n3 nb.n6 nb.n9
  have t4 := row3 na.n4 na.n5 na.n6 nb.n1 nb.n4 nb.n7
  have t5 := row3 na.n4 na.n5 na.n6 nb.n2 nb.n5 nb.n8
  have t6 := row3 na.n4 na.n5 na.n6 nb.n3 nb.n6 nb.n9
  have t7 := row3 na.n7 na.n8 na.n9 nb.n1 nb.n4 nb.n7
  have t8 := row3 na.n7 na.n8 na.n9 nb.n2 nb.n5 nb.n8
  have t9 := row3 na.n7 na.n8 na.n9 nb.n3 nb.n6 nb.n9
  rw [hd, t1.1, t2.1, t3.1, t4.1, t5.1, t6.1, t7.1, t8.1, t9.1]
  have w1 := t1.2
  have w2 := t2.2
  have w3 := t3.2
  have w4 := t4.2
  have w5 := t5.2
  have w6 := t6.2
  have w7 := t7.2
  have w8 := t8.2
  have w9 := t9.2
  clear t1 t2 t3 t4 t5 t6 t7 t8 t9 na nb hd h1 h2
  generalize x1 * x11 + x2 * x14 + x3 * x17 = n1 at *
  generalize x1 * x12 + x2 * x15 + x3 * x18 = n2 at *
  generalize x1 * x13 + x2 * x16 + x3 * x19 = n3 at *
  generalize x4 * x11 + x5 * x14 + x6 * x17 = n4 at *
  generalize x4 * x12 + x5 * x15 + x6 * x18 = n5 at *
  generalize x4 * x13 + x5 * x16 + x6 * x19 = n6 at *
  generalize x7 * x11 + x8 * x14 + x9 * x17 = n7 at *
  generalize x7 * x12 + x8 * x15 + x9 * x18 = n8 at *
  generalize x7 * x13 + x8 * x16 + x9 * x19 = n9 at *
  generalize x10 * x20 = D at *
  obtain ⟨y1, ⟨p1, q1⟩, c1, a1⟩ := dv (α := α) (x := D) (n := n1) (by omega) (by omega) (by omega)
  obtain ⟨y2, ⟨p2, q2⟩, c2, a2⟩ := dv (α := α) (x := y1) (n := n2) (by omega) (by omega) (by omega)
  obtain ⟨y3, ⟨p3, q3⟩, c3, a3⟩ := dv (α := α) (x := y2) (n := n3) (by omega) (by omega) (by omega)
  obtain ⟨y4, ⟨p4, q4⟩, c4, a4⟩ := dv (α := α) (x := y3) (n := n4) (by omega) (by omega) (by omega)
  obtain ⟨y5, ⟨p5, q5⟩, c5, a5⟩ := dv (α := α) (x := y4) (n := n5) (by omega) (by omega) (by omega)
  obtain ⟨y6, ⟨p6, q6⟩, c6, a6⟩ := dv (α := α) (x := y5) (n := n6) (by omega) (by omega) (by omega)
  obtain ⟨y7, ⟨p7, q7⟩, c7, a7⟩ := dv (α := α) (x := y6) (n := n7) (by omega) (by omega) (by omega)
  obtain ⟨y8, ⟨p8, q8⟩, c8, a8⟩ := dv (α := α) (x := y7) (n := n8) (by omega) (by omega) (by omega)
  obtain ⟨y9, ⟨p9, q9⟩, c9, a9⟩ := dv (α := α) (x := y8) (n := n9) (by omega) (by omega) (by omega)
  simp only [a1, a2, a3, a4, a5, a6, a7, a8, a9, bne_iff_ne.2 (show y9 ≠ 0 by omega), gK_true]
  have v9 : y9 ∣ n9 := c9 ▸ Int.gcd_dvd_right ..
  have u8 : y9 ∣ y8 := (c9 ▸ Int.gcd_dvd_left ..)
  have v8 : y9 ∣ n8 := Int.dvd_trans u8 (c8 ▸ Int.gcd_dvd_right ..)
  have u7 : y9 ∣ y7 := Int.dvd_trans u8 (c8 ▸ Int.gcd_dvd_left ..)
  have v7 : y9 ∣ n7 := Int.dvd_trans u7 (c7 ▸ Int.gcd_dvd_right ..)
  have u6 : y9 ∣ y6 := Int.dvd_trans u7 (c7 ▸ Int.gcd_dvd_left ..)
  have v6 : y9 ∣ n6 := Int.dvd_trans u6 (c6 ▸ Int.gcd_dvd_right ..)
  have u5 : y9 ∣ y5 := Int.dvd_trans u6 (c6 ▸ Int.gcd_dvd_left ..)
  have v5 : y9 ∣ n5 := Int.dvd_trans u5 (c5 ▸ Int.gcd_dvd_right ..)
  have u4 : y9 ∣ y4 := Int.dvd_trans u5 (c5 ▸ Int.gcd_dvd_left ..)
  have v4 : y9 ∣ n4 := Int.dvd_trans u4 (c4 ▸ Int.gcd_dvd_right ..)
  have u3 : y9 ∣ y3 := Int.dvd_trans u4 (c4 ▸ Int.gcd_dvd_left ..)
  have v3 : y9 ∣ n3 := Int.dvd_trans u3 (c3 ▸ Int.gcd_dvd_right ..)
  have u2 : y9 ∣ y2 := Int.dvd_trans u3 (c3 ▸ Int.gcd_dvd_left ..)
  have v2 : y9 ∣ n2 := Int.dvd_trans u2 (c2 ▸ Int.gcd_dvd_right ..)
  have u1 : y9 ∣ y1 := Int.dvd_trans u2 (c2 ▸ Int.gcd_dvd_left ..)
  have v1 : y9 ∣ n1 := Int.dvd_trans u1 (c1 ▸ Int.gcd_dvd_right ..)
  have u0 : y9 ∣ D := Int.dvd_trans u1 (c1 ▸ Int.gcd_dvd_left ..)
  have b1 := tdb p9 w1
  rw [w64_in (n := n1.tdiv y9) (by omega) (by omega)]
  have e1 := Int.tdiv_mul_cancel v1
  clear b1 v1 a1
  have b2 := tdb p9 w2
  rw [w64_in (n := n2.tdiv y9) (by omega) (by omega)]
  have e2 := Int.tdiv_mul_cancel v2
  clear b2 v2 a2
  have b3 := tdb p9 w3
  rw [w64_in (n := n3.tdiv y9) (by omega) (by omega)]
  have e3 := Int.tdiv_mul_cancel v3
  clear b3 v3 a3
  have b4 := tdb p9 w4
  rw [w64_in (n := n4.tdiv y9) (by omega) (by omega)]
  have e4 := Int.tdiv_mul_cancel v4
  clear b4 v4 a4
  have b5 := tdb p9 w5
  rw [w64_in (n := n5.tdiv y9) (by omega) (by omega)]
  have e5 := Int.tdiv_mul_cancel v5
  clear b5 v5 a5
  have b6 := tdb p9 w6
  rw [w64_in (n := n6.tdiv y9) (by omega) (by omega)]
  have e6 := Int.tdiv_mul_cancel v6
  clear b6 v6 a6
  have b7 := tdb p9 w7
  rw [w64_in (n := n7.tdiv y9) (by omega) (by omega)]
  have e7 := Int.tdiv_mul_cancel v7
  clear b7 v7 a7
  have b8 := tdb p9 w8
  rw [w64_in (n := n8.tdiv y9) (by omega) (by omega)]
  have e8 := Int.tdiv_mul_cancel v8
  clear b8 v8 a8
  have b9 := tdb p9 w9
  rw [w64_in (n := n9.tdiv y9) (by omega) (by omega)]
  have e9 := Int.tdiv_mul_cancel v9
  clear b9 v9 a9
  have bD := tdb (n := D) p9 (by omega)
  rw [w64_in (n := D.tdiv y9) (by omega) (by omega)]
  have eD := Int.tdiv_mul_cancel u0
  generalize n1.tdiv y9 = m1 at *
  generalize n2.tdiv y9 = m2 at *
  generalize n3.tdiv y9 = m3 at *
  generalize n4.tdiv y9 = m4 at *
  generalize n5.tdiv y9 = m5 at *
  generalize n6.tdiv y9 = m6 at *
  generalize n7.tdiv y9 = m7 at *
  generalize n8.tdiv y9 = m8 at *
  generalize n9.tdiv y9 = m9 at *
  generalize D.tdiv y9 = M at *
  have hM : 0 < M := by
    by_cases hh : 0 < M
    · exact hh
    · have := Int.mul_nonneg (show 0 ≤ -M by omega) (show 0 ≤ y9 by omega)
      rw [Int.neg_mul] at this; omega
  have h9 : ∀ kk : Bool → Option α, f33_1 α [[DC.v (.int .i64 m1)], [DC.v (.int .i64 m2)], [DC.v (.int .i64 m3)], [DC.v (.int .i64 m4)], [DC.v (.int .i64 m5)], [DC.v (.int .i64 m6)], [DC.v (.int .i64 m7)], [DC.v (.int .i64 m8)], [DC.v (.int .i64 m9)]] kk = kk (bad9 m1 m2 m3 m4 m5 m6 m7 m8 m9) := fun kk => (f33_eq (l := [m1, m2, m3, m4, m5, m6, m7, m8, m9]) (by simp) (k := kk)).2
  simp only [h9]
  by_cases hb : 1000 < M
  · refine .inl fun {k} => ?_
    rw [decide_eq_true hb, cK_true]
  · cases hc : bad9 m1 m2 m3 m4 m5 m6 m7 m8 m9
    · refine .inr ⟨m1, m2, m3, m4, m5, m6, m7, m8, m9, M, y9, p9, ?_, e1, e2, e3, e4, e5, e6, e7, e8, e9, eD, fun {k} => ?_⟩
      · unfold mxE; rw [if_pos (by omega), hc]; rfl
      · rw [decide_eq_false hb, cK_false, cK_false]
    · refine .inl fun {k} => ?_
      rw [decide_eq_false hb, cK_false, cK_true]
theorem f13_e {x1 x2 x3 x4 x5 x6 x7 x8 x9 x10 x11 x12 x13 x14 x15 x16 x17 x18 x19 x20 : Int} (h1 : mxE x1 x2 x3 x4 x5 x6 x7 x8 x9 x10 ≠ 0) {k : Int → Int → Int → Int → Int → Int → Int → Int → Int → Int → Int → Option α} : f13_0 α x1 x2 x3 x4 x5 x6 x7 x8 x9 x10 x11 x12 x13 x14 x15 x16 x17 x18 x19 x20 k = k 0 0 0 0 0 0 0 0 0 0 (mxE x1 x2 x3 x4 x5 x6 x7 x8 x9 x10) := by
  simp only [f13_0, f13_0g, f31_eq, bne_iff_ne.2 h1, cK_true]
theorem back_in {n1 n2 n3 n4 n5 n6 n7 n8 n9 n a0 a1 b0 b1 c0 c1 y1 y2 y3 y4 y5 y6 : Int} (h : mxE n1 n2 n3 n4 n5 n6 n7 n8 n9 n = 0) (hr : Rg a0 a1 b0 b1 c0 c1)
    (e1 : rl n1 n2 n3 a0 a1 b0 b1 c0 c1 / n = y1) (e2 : cdv (rh n1 n2 n3 a0 a1 b0 b1 c0 c1) n = y2) (e3 : rl n4 n5 n6 a0 a1 b0 b1 c0 c1 / n = y3) (e4 : cdv (rh n4 n5 n6 a0 a1 b0 b1 c0 c1) n = y4) (e5 : rl n7 n8 n9 a0 a1 b0 b1 c0 c1 / n = y5) (e6 : cdv (rh n7 n8 n9 a0 a1 b0 b1 c0 c1) n = y6)
    {kk : Bool → Option α} : corK n1 n2 n3 n4 n5 n6 n7 n8 n9 n y1 y2 y3 y4 y5 y6 (fun z1 z2 z3 z4 z5 z6 e => J4_0_0 α e a0 a1 b0 b1 c0 c1 z1 z2 z3 z4 z5 z6 kk) = kk false := by
  have hn := (mxE_ok h).1
  have nb := Nb.of h
  have hD := (dt_eq nb).1
  rw [(mn_eq nb.n5 nb.n9 nb.n6 nb.n8).1, (mn_eq nb.n6 nb.n7 nb.n4 nb.n9).1, (mn_eq nb.n4 nb.n8 nb.n5 nb.n7).1] at hD
  unfold corK
  rw [(mn_eq nb.n5 nb.n9 nb.n6 nb.n8).1, (mn_eq nb.n6 nb.n7 nb.n4 nb.n9).1, (mn_eq nb.n4 nb.n8 nb.n5 nb.n7).1, (mn_eq nb.n8 nb.n3 nb.n9 nb.n2).1, (mn_eq nb.n2 nb.n6 nb.n3 nb.n5).1, (mn_eq nb.n9 nb.n1 nb.n7 nb.n3).1, (mn_eq nb.n3 nb.n4 nb.n1 nb.n6).1, (mn_eq nb.n7 nb.n2 nb.n8 nb.n1).1, (mn_eq nb.n1 nb.n5 nb.n2 nb.n4).1]
  generalize hDD : dt n1 n2 n3 n4 n5 n6 n7 n8 n9 = D at *
  by_cases h0 : D = 0
  · rw [if_pos h0]; rfl
  rw [if_neg h0]
  have sl : ∀ x y z P Q R t : Int, x * P + y * Q + z * R = D * t → sg D x * P + sg D y * Q + sg D z * R = sg D D * t := by
    intro x y z P Q R t he
    unfold sg
    by_cases hh : D < 0
    · rw [if_pos hh, if_pos hh, if_pos hh, if_pos hh, Int.neg_mul, Int.neg_mul, Int.neg_mul, Int.neg_mul]; omega
    · rw [if_neg hh, if_neg hh, if_neg hh, if_neg hh]; exact he
  have hs : 0 < sg D D := by unfold sg; split <;> omega
  have ia : ∀ p q r : Int, _ := fun p q r => adj_id (p := p) (q := q) (r := r) hD
  have pa : a0 ≤ a0 ∧ a0 ≤ a1 := ⟨by omega, hr.a⟩
  have pa' : a0 ≤ a1 ∧ a1 ≤ a1 := ⟨hr.a, by omega⟩
  have pb : b0 ≤ b0 ∧ b0 ≤ b1 := ⟨by omega, hr.b⟩
  have pb' : b0 ≤ b1 ∧ b1 ≤ b1 := ⟨hr.b, by omega⟩
  have pc : c0 ≤ c0 ∧ c0 ≤ c1 := ⟨by omega, hr.c⟩
  have pc' : c0 ≤ c1 ∧ c1 ≤ c1 := ⟨hr.c, by omega⟩
  have g1 := (back_at (by omega : 0 < n) hs pa pb pc (sl _ _ _ _ _ _ _ (ia a0 b0 c0).1)).1
  have g2 := (back_at (by omega : 0 < n) hs pa' pb pc (sl _ _ _ _ _ _ _ (ia a1 b0 c0).1)).2
  have g3 := (back_at (by omega : 0 < n) hs pa pb pc (sl _ _ _ _ _ _ _ (ia a0 b0 c0).2.1)).1
  have g4 := (back_at (by omega : 0 < n) hs pa pb' pc (sl _ _ _ _ _ _ _ (ia a0 b1 c0).2.1)).2
  have g5 := (back_at (by omega : 0 < n) hs pa pb pc (sl _ _ _ _ _ _ _ (ia a0 b0 c0).2.2)).1
  have g6 := (back_at (by omega : 0 < n) hs pa pb pc' (sl _ _ _ _ _ _ _ (ia a0 b0 c1).2.2)).2
  rw [e1, e2, e3, e4, e5, e6] at g1 g2 g3 g4 g5 g6
  rcases mapK_split (α := α) (sg D (n5 * n9 - n6 * n8)) (sg D (n8 * n3 - n9 * n2)) (sg D (n2 * n6 - n3 * n5)) (sg D (n6 * n7 - n4 * n9)) (sg D (n9 * n1 - n7 * n3)) (sg D (n3 * n4 - n1 * n6)) (sg D (n4 * n8 - n5 * n7)) (sg D (n7 * n2 - n8 * n1)) (sg D (n1 * n5 - n2 * n4)) y1 y2 y3 y4 y5 y6 n (sg D D) with hk | ⟨_, hk⟩
  · rw [hk]; rfl
  · rw [hk]
    simp only [J4_0_0, J4_0_0g, f12_0, f12_0g, beq_self_eq_true, cK_true, decide_eq_true g1, decide_eq_true g2, decide_eq_true g3, decide_eq_true g4, decide_eq_true g5, decide_eq_true g6, Bool.not_true, cK_false, bne_self_eq_false]
theorem law4 {x1 x2 x3 x4 x5 x6 x7 x8 x9 x10 x11 x12 x13 x14 x15 x16 x17 x18 x19 x20 x21 x22 x23 x24 x25 x26 : Int} {k : Bool → Option α} : f4_0 α x1 x2 x3 x4 x5 x6 x7 x8 x9 x10 x11 x12 x13 x14 x15 x16 x17 x18 x19 x20 x21 x22 x23 x24 x25 x26 k = k true := by
  simp only [f4_0, f4_0g, f5_0]
  by_cases h : mxE x11 x12 x13 x14 x15 x16 x17 x18 x19 x20 ≠ 0
  · have e6 : ∀ {kk : Int → Int → Int → Int → Int → Int → Int → Option α}, f6_0 α x11 x12 x13 x14 x15 x16 x17 x18 x19 x20 x21 x22 x23 x24 x25 x26 kk = kk 0 0 0 0 0 0 (mxE x11 x12 x13 x14 x15 x16 x17 x18 x19 x20) := fun {kk} => by simp only [f6_0, f6_0g, f22_eq, h, ne_eq, not_false_eq_true, if_true, bne_iff_ne.2 h, cK_true]
    rw [e6]; simp only [bne_iff_ne.2 h, cK_true]; rfl
  replace h := Decidable.of_not_not h
  by_cases hs : smE x21 x22 x23 x24 x25 x26 ≠ 0
  · have e6 : ∀ {kk : Int → Int → Int → Int → Int → Int → Int → Option α}, f6_0 α x11 x12 x13 x14 x15 x16 x17 x18 x19 x20 x21 x22 x23 x24 x25 x26 kk = kk 0 0 0 0 0 0 (smE x21 x22 x23 x24 x25 x26) := fun {kk} => by simp only [f6_0, f6_0g, f22_eq, h, ne_eq, not_true_eq_false, if_false, bne_iff_ne.2 hs, cK_true]
    rw [e6]; simp only [bne_iff_ne.2 hs, cK_true]; rfl
  replace hs := Decidable.of_not_not hs
  have hn := (mxE_ok h).1
  have hr := Rg.of hs
  rw [f6_ok h hs]
  rcases mapK_split (α := α) x11 x12 x13 x14 x15 x16 x17 x18 x19 x21 x22 x23 x24 x25 x26 1 x20 with hk | ⟨⟨o1, o2, o3, o4, o5, o6⟩, hk⟩
  · rw [hk]; rfl
  rw [hk]
  clear hk
  simp only [Int.mul_one] at *
  have le1 := fl_cdv (n := x11) (m := x12) (l := x13) (d := x20) (by omega) hr
  have le2 := fl_cdv (n := x14) (m := x15) (l := x16) (d := x20) (by omega) hr
  have le3 := fl_cdv (n := x17) (m := x18) (l := x19) (d := x20) (by omega) hr
  have ry : Rg (rl x11 x12 x13 x21 x22 x23 x24 x25 x26 / x20) (cdv (rh x11 x12 x13 x21 x22 x23 x24 x25 x26) x20) (rl x14 x15 x16 x21 x22 x23 x24 x25 x26 / x20) (cdv (rh x14 x15 x16 x21 x22 x23 x24 x25 x26) x20) (rl x17 x18 x19 x21 x22 x23 x24 x25 x26 / x20) (cdv (rh x17 x18 x19 x21 x22 x23 x24 x25 x26) x20) := ⟨okS_bd o1, okS_bd o2, okS_bd o3, okS_bd o4, okS_bd o5, okS_bd o6, le1, le2, le3⟩
  have hy := smE_zero ry
  rw [f7_ok h hy]
  have key := @back_in α x11 x12 x13 x14 x15 x16 x17 x18 x19 x20 x21 x22 x23 x24 x25 x26 _ _ _ _ _ _ h hr rfl rfl rfl rfl rfl rfl
  obtain ⟨z1, z2, z3, z4, z5, z6, z7, hz⟩ := corK_cases (α := α) x11 x12 x13 x14 x15 x16 x17 x18 x19 x20 (rl x11 x12 x13 x21 x22 x23 x24 x25 x26 / x20) (cdv (rh x11 x12 x13 x21 x22 x23 x24 x25 x26) x20) (rl x14 x15 x16 x21 x22 x23 x24 x25 x26 / x20) (cdv (rh x14 x15 x16 x21 x22 x23 x24 x25 x26) x20) (rl x17 x18 x19 x21 x22 x23 x24 x25 x26 / x20) (cdv (rh x17 x18 x19 x21 x22 x23 x24 x25 x26) x20)
  rw [hz]
  have key2 : ∀ {kk : Bool → Option α}, J4_0_0 α z7 x21 x22 x23 x24 x25 x26 z1 z2 z3 z4 z5 z6 kk = kk false := fun {kk} => by rw [← key (kk := kk), hz]
  simp only [bne_self_eq_false, cK_false, key2]
  by_cases ha : mxE x1 x2 x3 x4 x5 x6 x7 x8 x9 x10 ≠ 0
  · rw [f13_e ha]
    obtain ⟨a, b, c, d, e, f, g, h6⟩ := f6_any (α := α) 0 0 0 0 0 0 0 0 0 0 x21 x22 x23 x24 x25 x26
    obtain ⟨a', b', c', d', e', f', g', h6'⟩ := f6_any (α := α) x1 x2 x3 x4 x5 x6 x7 x8 x9 x10 (rl x11 x12 x13 x21 x22 x23 x24 x25 x26 / x20) (cdv (rh x11 x12 x13 x21 x22 x23 x24 x25 x26) x20) (rl x14 x15 x16 x21 x22 x23 x24 x25 x26 / x20) (cdv (rh x14 x15 x16 x21 x22 x23 x24 x25 x26) x20) (rl x17 x18 x19 x21 x22 x23 x24 x25 x26 / x20) (cdv (rh x17 x18 x19 x21 x22 x23 x24 x25 x26) x20)
    simp only [h6, h6', bne_iff_ne.2 ha, cK_true]
  replace ha := Decidable.of_not_not ha
  rcases f13_ok (α := α) ha h with h13 | ⟨m1, m2, m3, m4, m5, m6, m7, m8, m9, M, g, hg, hm, q1, q2, q3, q4, q5, q6, q7, q8, q9, qM, h13⟩
  · rw [h13]
    obtain ⟨a, b, c, d, e, f, g, h6⟩ := f6_any (α := α) 0 0 0 0 0 0 0 0 0 0 x21 x22 x23 x24 x25 x26
    obtain ⟨a', b', c', d', e', f', g', h6'⟩ := mapK_cases (α := α) x1 x2 x3 x4 x5 x6 x7 x8 x9 (rl x11 x12 x13 x21 x22 x23 x24 x25 x26 / x20) (cdv (rh x11 x12 x13 x21 x22 x23 x24 x25 x26) x20) (rl x14 x15 x16 x21 x22 x23 x24 x25 x26 / x20) (cdv (rh x14 x15 x16 x21 x22 x23 x24 x25 x26) x20) (rl x17 x18 x19 x21 x22 x23 x24 x25 x26 / x20) (cdv (rh x17 x18 x19 x21 x22 x23 x24 x25 x26) x20) 1 x10
    simp only [h6, f6_ok ha hy, h6']; rfl
  rw [h13, f6_ok hm hs]
  have hM := (mxE_ok hm).1
  have hA := (mxE_ok ha).1
  have g1 := prod_at (by omega : 0 < x20) (by omega : 0 < x10) hg (by omega : 0 < M) hr.a hr.b hr.c q1 q2 q3 qM
  have g2 := prod_at (by omega : 0 < x20) (by omega : 0 < x10) hg (by omega : 0 < M) hr.a hr.b hr.c q4 q5 q6 qM
  have g3 := prod_at (by omega : 0 < x20) (by omega : 0 < x10) hg (by omega : 0 < M) hr.a hr.b hr.c q7 q8 q9 qM
  generalize rl x11 x12 x13 x21 x22 x23 x24 x25 x26 / x20 = y1 at *
  generalize cdv (rh x11 x12 x13 x21 x22 x23 x24 x25 x26) x20 = y2 at *
  generalize rl x14 x15 x16 x21 x22 x23 x24 x25 x26 / x20 = y3 at *
  generalize cdv (rh x14 x15 x16 x21 x22 x23 x24 x25 x26) x20 = y4 at *
  generalize rl x17 x18 x19 x21 x22 x23 x24 x25 x26 / x20 = y5 at *
  generalize cdv (rh x17 x18 x19 x21 x22 x23 x24 x25 x26) x20 = y6 at *
  rcases mapK_split (α := α) m1 m2 m3 m4 m5 m6 m7 m8 m9 x21 x22 x23 x24 x25 x26 1 M with hk | ⟨_, hk⟩
  · rw [hk]
    obtain ⟨a', b', c', d', e', f', g', h6'⟩ := mapK_cases (α := α) x1 x2 x3 x4 x5 x6 x7 x8 x9 y1 y2 y3 y4 y5 y6 1 x10
    rw [f6_ok ha hy, h6']; rfl
  rw [hk, f6_ok ha hy]
  rcases mapK_split (α := α) x1 x2 x3 x4 x5 x6 x7 x8 x9 y1 y2 y3 y4 y5 y6 1 x10 with hk' | ⟨_, hk'⟩
  · rw [hk']; rfl
  rw [hk']
  simp only [Int.mul_one, f12_0, f12_0g, bne_self_eq_false, cK_false, decide_eq_true g1.1, decide_eq_true g1.2, decide_eq_true g2.1, decide_eq_true g2.2, decide_eq_true g3.1, decide_eq_true g3.2, cK_true]
end Go.AM.K
