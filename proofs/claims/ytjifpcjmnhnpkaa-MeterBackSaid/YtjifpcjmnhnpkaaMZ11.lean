/- MeterBack: for every input the statement is true, and the input reads as it did. No condition. -/
import Derived.Test.YtjifpcjmnhnpkaaRows
import Derived.Test.YtjifpcjmnhnpkaaMQ11
import Derived.Test.YtjifpcjmnhnpkaaKF1
namespace Go.Proofs.Ytjifpcjmnhnpkaa.Mt11
open Go.ChangeShapes Go.WideShapes Go.ChangeAt Go.RowKit Go.AM
set_option linter.unusedVariables false

theorem own : ownKnob Try.prog.godebug = none := by kernel_rfl
theorem laidOut : laidOutB Try.prog = true := by kernel_rfl

theorem ts106 : tsOf Try.prog 8 106 = some [.sl [.int .u16, .int .u16, .int .u16, .int .u16]] := by kernel_rfl
theorem ag106 : isAggT Try.prog 106 = false := by kernel_rfl

theorem u16w {n : Int} (h : (Lit.int .u16 n).wf = true) : 0 ≤ n ∧ n ≤ 65535 := by
  have h' : (decide (IntKind.min .u16 ≤ n) && decide (n ≤ IntKind.max .u16)) = true := h
  have m1 : IntKind.min .u16 = 0 := by decide
  have m2 : IntKind.max .u16 = 65535 := by decide
  simp only [Bool.and_eq_true, decide_eq_true_eq, m1, m2] at h'
  exact h'
theorem rows_ofP {A : Type} {P : A → Prop} {enc : A → List DC} {l : List TS} (h : ∀ r, TSoks l r → ∃ a, P a ∧ r = enc a) : ∀ rows : List (List DC), (∀ r ∈ rows, TSoks l r) → ∃ L : List A, (∀ a ∈ L, P a) ∧ rows = L.map enc
  | [], _ => ⟨[], by simp, rfl⟩
  | r :: rows, hr => by
    obtain ⟨a, ha, rfl⟩ := h r (hr r (by simp))
    obtain ⟨L, hL, rfl⟩ := rows_ofP h rows fun q hq => hr q (List.mem_cons_of_mem _ hq)
    refine ⟨a :: L, fun b hb => ?_, rfl⟩
    rcases List.mem_cons.1 hb with h1 | h1
    · subst h1; exact ha
    · exact hL b h1
theorem ofU (r : List DC) (h : TSoks [.int .u16, .int .u16, .int .u16, .int .u16] r) : ∃ a : K.Q4, K.U4 a ∧ r = K.rU a := by
  obtain ⟨_, _, rfl, ⟨g1⟩, h1⟩ := h.cons
  obtain ⟨_, _, rfl, ⟨g2⟩, h2⟩ := h1.cons
  obtain ⟨_, _, rfl, ⟨g3⟩, h3⟩ := h2.cons
  obtain ⟨_, _, rfl, ⟨g4⟩, h4⟩ := h3.cons
  obtain rfl := h4.nil
  exact ⟨(_, _, _, _), ⟨u16w g1, u16w g2, u16w g3, u16w g4⟩, rfl⟩
theorem dec {d0 : List DC} (s0 : TSoks [.sl [.int .u16, .int .u16, .int .u16, .int .u16]] d0) :
    K.pa11_0.dec [(false, d0)] (K.Fn11_0 K.f11_0 _ some) = some (some [rB true]) := by
  obtain ⟨_, _, rfl, t1, s2⟩ := s0.cons
  obtain rfl := s2.nil
  obtain ⟨r1, rfl, _, q1⟩ := t1.rows
  obtain ⟨l, hP, rfl⟩ := rows_ofP ofU r1 q1
  show some (K.f11_0 _ _ _) = _
  rw [K.law11 hP]; rfl

set_option maxRecDepth 100000 in
theorem walk (v0 : Value) (w : World) (a0 : Arg Try.prog w 106 [.sl [.int .u16, .int .u16, .int .u16, .int .u16]] v0) :
    Calls Try.prog 11 #[v0] w fun e w' => e = .returned (.bool true) ∧ Below w.heap.size w w' := by
  obtain ⟨d0, s0, r0⟩ := a0
  have hd := dec s0
  rw [ag106] at r0
  refine law_calls (ds := [(false, d0)]) K.io11_0 (show 1 ≤ K.nt11 by decide) hd ?_
  refine ⟨rfl, fun i d v hd hv => ?_⟩
  match i with
  | 0 => simp at hd hv; subst hd; subst hv; exact r0
  | i + 1 => simp at hd

set_option maxRecDepth 100000 in
theorem lifted (os : Os) (started : os.Started) (H : Type) (enc : TypeId × Value → H) :
    ReturnsInHanded {} Try.checked os 11 .any (Rows.meterBackSpec.pre6 enc Try.prog Try.f11 Rows.meterBackRow.domain false) (Rows.meterBackSpec.post enc Try.prog Try.f11 false true false false) := by
  refine returnsInHanded_of_change (C := Try.checked) own started (by kernel_rfl) Try.func11
    (ChangeSpec.witness6 (enc := enc) (C := Try.checked) false ⟨#[], #[.slice none 0 0], []⟩ 8 (by kernel_rfl) (by kernel_rfl) (by kernel_rfl) (by kernel_rfl)) ?_
  intro W base args ds gs before hval0 hW hcnd _
  have hval : ∀ (j : Nat) t v, Try.f11.params[j]? = some t → args[j]? = some v → Value.okWide Try.prog W .any base t v := hval0
  have hW' := hW
  obtain ⟨p, q, hA0, hV, rfl, hfz, hnd⟩ := hW
  have hA : DataW.TrodAll enc Try.prog W 0 (fun _ => true) true Try.f11.params.toList args.toList ds p := hA0
  rw [Try.params11] at hA hval
  obtain ⟨v0, vs0, d0, ds0, p0, q0, hargs, rfl, rfl, h0, r0⟩ := trodAll_cons hA
  obtain ⟨rfl, rfl, rfl⟩ := trodAll_nil r0
  obtain rfl : args = #[v0] := by cases args; simp_all
  obtain ⟨rfl, rfl⟩ := trodVars_none hV
  have lt0 : ∀ x ∈ p0, x.block < W.heap.size := by obtain ⟨m, hm⟩ := h0; exact DataW.trod_lt m _ _ _ hm
  have k0 := arg_ok (hval 0 106 v0 rfl rfl) h0 ts106
  clear hA0 hval0
  refine (walk v0 W k0).mono fun e W' ⟨he, bel⟩ => ?_
  subst he
  exact ⟨_, rfl, _, _, _, [], _, [], hW', trodAll_mk1 (shut_bool Try.underlying4 _), (trodAll_cons_mk (Below.trod laidOut (by kernel_rfl) (of_decide_eq_true (by kernel_rfl)) h0 bel lt0) trodAll_mk0), rfl, bel.frame _, fun h => by cases h⟩

theorem over : Rows.meterBackRow.holds Try.pinned (OpenSpec.ofChange Rows.meterBackSpec) :=
  OpenClaim.holds_of_wide 11 Try.f11 rfl rfl rfl rfl rfl rfl rfl ⟨rfl, rfl, rfl, rfl, rfl⟩ rfl rfl rfl rfl rfl (by kernel_rfl) Try.func11 (by kernel_rfl)
    (of_decide_eq_true (by kernel_rfl)) (by unfold Func.isWrapper; first | (rw [if_pos (by decide +kernel)]; kernel_rfl) | (rw [if_neg (by decide +kernel)]; exact ⟨rfl, rfl⟩))
    (fun os started H enc _ => lifted os started H enc)

theorem meterBack_holds : Rows.MeterBackSaid := over
#print axioms meterBack_holds
end Go.Proofs.Ytjifpcjmnhnpkaa.Mt11
