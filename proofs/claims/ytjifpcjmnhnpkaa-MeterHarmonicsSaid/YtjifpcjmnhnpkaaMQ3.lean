/- MeterHarmonics. -/
import Derived.Test.YtjifpcjmnhnpkaaMH2
import Derived.Test.YtjifpcjmnhnpkaaKTt
namespace Go.AM.K
set_option linter.unusedVariables false
set_option linter.unusedSimpArgs false
variable {α : Type}
theorem apF3 {l : List Nat} (h : l.length ≤ 70) : apOk 1 4 [] (l.map rF) = true :=
  apOk_of (enc := rF) (n := 1) (b := 4) (fun _ => rfl) (rows := []) (l := l) (by simp; omega) (by simp; omega)
theorem f57_self {a b : Nat} {k : Bool → Option α} : f57_0 α a b a b k = k true := by
  simp [f57_0, f57_0g, cK]
theorem f20_4 {a b c d e f g h : Nat} {k : Bool → Option α} : f20_0 α [[DC.v (.complex .f64 a b)], [DC.v (.complex .f64 c d)], [DC.v (.complex .f64 e f)], [DC.v (.complex .f64 g h)]] [[DC.v (.complex .f64 a b)], [DC.v (.complex .f64 c d)], [DC.v (.complex .f64 e f)], [DC.v (.complex .f64 g h)]] k = k true := by
  obtain ⟨z, hz⟩ : ∃ z, fuel = z + 5 := ⟨fuel - 5, by have := fuel_ge; omega⟩
  have l4 : ((List.length [[DC.v (.complex .f64 a b)], [DC.v (.complex .f64 c d)], [DC.v (.complex .f64 e f)], [DC.v (.complex .f64 g h)]] : Nat) : Int) = 4 := rfl
  have e0 : ∀ kk : Nat → Nat → Option α, rowK [[DC.v (.complex .f64 a b)], [DC.v (.complex .f64 c d)], [DC.v (.complex .f64 e f)], [DC.v (.complex .f64 g h)]] 0 [.cpx .f64] kk = kk a b := fun _ => rfl
  have e1 : ∀ kk : Nat → Nat → Option α, rowK [[DC.v (.complex .f64 a b)], [DC.v (.complex .f64 c d)], [DC.v (.complex .f64 e f)], [DC.v (.complex .f64 g h)]] 1 [.cpx .f64] kk = kk c d := fun _ => rfl
  have e2 : ∀ kk : Nat → Nat → Option α, rowK [[DC.v (.complex .f64 a b)], [DC.v (.complex .f64 c d)], [DC.v (.complex .f64 e f)], [DC.v (.complex .f64 g h)]] 2 [.cpx .f64] kk = kk e f := fun _ => rfl
  have e3 : ∀ kk : Nat → Nat → Option α, rowK [[DC.v (.complex .f64 a b)], [DC.v (.complex .f64 c d)], [DC.v (.complex .f64 e f)], [DC.v (.complex .f64 g h)]] 3 [.cpx .f64] kk = kk g h := fun _ => rfl
  simp only [f20_0, f20_0g, bne_self_eq_false, cK_false, L20_0_0, hz, R20_0_0, S20_0_0, S20_0_0g, l4]
  rw [show decide ((0 : Int) < 4) = true by decide, show w64 (0 + 1) = 1 by decide, show decide ((1 : Int) < 4) = true by decide, show w64 (1 + 1) = 2 by decide, show decide ((2 : Int) < 4) = true by decide, show w64 (2 + 1) = 3 by decide, show decide ((3 : Int) < 4) = true by decide, show w64 (3 + 1) = 4 by decide, show decide ((4 : Int) < 4) = false by decide]
  simp only [cK_true, cK_false, e0, e1, e2, e3, f57_self, Bool.not_true]
theorem f22_eq {a b : Int} (h1 : -9007199254740991 ≤ a ∧ a ≤ 9007199254740991) (h2 : -9007199254740991 ≤ b ∧ b ≤ 9007199254740991) {k : Int → Int → Option α} : f22_0 α (NF a) (NF b) k = k a b := by
  simp only [f22_0, f22_0g, NF]
  rw [f2i_whole (n := a) (by omega), f2i_whole (n := b) (by omega)]; rfl
theorem fz0 : Op.floatEq .f64 0 0 = true := by decide
theorem law3 {l : List Nat} {M F : Int} {k : Bool → Option α} : f3_0 α (l.map rF) M F k = k true := by
  simp only [f3_0, f3_0g, f15_0, cK_dec, List.length_map]
  split
  · rfl
  · rename_i h70
    have h70 : l.length ≤ 70 := by omega
    simp only [f17_0, f17_0g, apF3 h70, gK_true, List.nil_append, f18_eq]
    by_cases hE : (scanE l M F).2 = 0
    · obtain ⟨⟨h1, h2⟩, ⟨h3, h4⟩, h5, h6⟩ := scan_ok hE
      have hp := scan_plain hE
      obtain ⟨s1, s2, s3⟩ := sm_bd h1.2 h2 h6
      obtain ⟨g1, g2, g3, g4⟩ := harm h2
      rw [f16_ok hE, f19_ok hE]
      simp only [hE, bne_self_eq_false, cK_false, f20_4, Bool.not_true]
      rw [f21_plain (by rw [hp]), g1, g2, g3, g4]
      unfold sumK
      simp only [f22_eq (a := smA l) (b := 0) (by omega) (by omega), f22_eq (a := smC l) (b := -smS l) (by omega) (by omega), beq_self_eq_true, cK_true]
      rw [w64_in (n := 0 - -smS l) (by omega) (by omega)]
      simp only [Int.mul_zero, Int.sub_zero, Int.add_zero, show 0 - -smS l = smS l by omega, beq_self_eq_true, Bool.and_self]
    · rw [f16_err hE]
      simp only [bne_iff_ne.2 hE, cK_true, beq_self_eq_true, fz0, Bool.and_self]
end Go.AM.K
