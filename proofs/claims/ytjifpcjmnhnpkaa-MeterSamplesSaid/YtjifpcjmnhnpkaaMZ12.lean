/- MeterSamples: for every input the statement is true, and the input reads as it did. No condition. -/
import Derived.Test.YtjifpcjmnhnpkaaRows
import Derived.Test.YtjifpcjmnhnpkaaMQ12
import Derived.Test.YtjifpcjmnhnpkaaKF1
namespace Go.Proofs.Ytjifpcjmnhnpkaa.Mt12
open Go.ChangeShapes Go.WideShapes Go.ChangeAt Go.RowKit Go.AM
set_option linter.unusedVariables false

theorem own : ownKnob Try.prog.godebug = none := by kernel_rfl
theorem laidOut : laidOutB Try.prog = true := by kernel_rfl

theorem ts113 : tsOf Try.prog 8 113 = some [.flt .f64, .flt .f64, .flt .f64, .flt .f64] := by kernel_rfl
theorem ag113 : isAggT Try.prog 113 = true := by kernel_rfl

theorem dec {d0 d1 : List DC} (s0_0 : TSoks [.flt .f64, .flt .f64, .flt .f64, .flt .f64] d0) (s1_0 : TSoks [.flt .f64, .flt .f64, .flt .f64, .flt .f64] d1) :
    K.pa12_0.dec [(true, d0), (true, d1)] (K.Fn12_0 K.f12_0 _ some) = some (some [rB true]) := by
  obtain ⟨_, _, rfl, ⟨_⟩, s0_1⟩ := s0_0.cons
  obtain ⟨_, _, rfl, ⟨_⟩, s0_2⟩ := s0_1.cons
  obtain ⟨_, _, rfl, ⟨_⟩, s0_3⟩ := s0_2.cons
  obtain ⟨_, _, rfl, ⟨_⟩, s0_4⟩ := s0_3.cons
  obtain rfl := s0_4.nil
  obtain ⟨_, _, rfl, ⟨_⟩, s1_1⟩ := s1_0.cons
  obtain ⟨_, _, rfl, ⟨_⟩, s1_2⟩ := s1_1.cons
  obtain ⟨_, _, rfl, ⟨_⟩, s1_3⟩ := s1_2.cons
  obtain ⟨_, _, rfl, ⟨_⟩, s1_4⟩ := s1_3.cons
  obtain rfl := s1_4.nil
  show some (K.f12_0 _ _ _ _ _ _ _ _ _ _) = _
  rw [K.law12]; rfl

set_option maxRecDepth 100000 in
theorem walk (v0 v1 : Value) (w : World) (a0 : Arg Try.prog w 113 [.flt .f64, .flt .f64, .flt .f64, .flt .f64] v0) (a1 : Arg Try.prog w 113 [.flt .f64, .flt .f64, .flt .f64, .flt .f64] v1) :
    Calls Try.prog 12 #[v0, v1] w fun e w' => e = .returned (.bool true) ∧ Below w.heap.size w w' := by
  obtain ⟨d0, s0, r0⟩ := a0
  obtain ⟨d1, s1, r1⟩ := a1
  have hd := dec s0 s1
  rw [ag113] at r0
  rw [ag113] at r1
  refine law_calls (ds := [(true, d0), (true, d1)]) K.io12_0 (show 2 ≤ K.nt12 by decide) hd ?_
  refine ⟨rfl, fun i d v hd hv => ?_⟩
  match i with
  | 0 => simp at hd hv; subst hd; subst hv; exact r0
  | 1 => simp at hd hv; subst hd; subst hv; exact r1
  | i + 2 => simp at hd

set_option maxRecDepth 100000 in
theorem lifted (os : Os) (started : os.Started) (H : Type) (enc : TypeId × Value → H) :
    ReturnsInHanded {} Try.checked os 12 .any (Rows.meterSamplesSpec.pre6 enc Try.prog Try.f12 Rows.meterSamplesRow.domain false) (Rows.meterSamplesSpec.post enc Try.prog Try.f12 false true false false) := by
  refine returnsInHanded_of_change (C := Try.checked) own started (by kernel_rfl) Try.func12
    (ChangeSpec.witness6 (enc := enc) (C := Try.checked) false ⟨#[], #[.agg #[.float .f64 0, .float .f64 0, .float .f64 0, .float .f64 0], .agg #[.float .f64 0, .float .f64 0, .float .f64 0, .float .f64 0]], []⟩ 8 (by kernel_rfl) (by kernel_rfl) (by kernel_rfl) (by kernel_rfl)) ?_
  intro W base args ds gs before hval0 hW hcnd _
  have hval : ∀ (j : Nat) t v, Try.f12.params[j]? = some t → args[j]? = some v → Value.okWide Try.prog W .any base t v := hval0
  have hW' := hW
  obtain ⟨p, q, hA0, hV, rfl, hfz, hnd⟩ := hW
  have hA : DataW.TrodAll enc Try.prog W 0 (fun _ => true) true Try.f12.params.toList args.toList ds p := hA0
  rw [Try.params12] at hA hval
  obtain ⟨v0, vs0, d0, ds0, p0, q0, hargs, rfl, rfl, h0, r0⟩ := trodAll_cons hA
  obtain ⟨v1, vs1, d1, ds1, p1, q1, rfl, rfl, rfl, h1, r1⟩ := trodAll_cons r0
  obtain ⟨rfl, rfl, rfl⟩ := trodAll_nil r1
  obtain rfl : args = #[v0, v1] := by cases args; simp_all
  obtain ⟨rfl, rfl⟩ := trodVars_none hV
  have lt0 : ∀ x ∈ p0, x.block < W.heap.size := by obtain ⟨m, hm⟩ := h0; exact DataW.trod_lt m _ _ _ hm
  have lt1 : ∀ x ∈ p1, x.block < W.heap.size := by obtain ⟨m, hm⟩ := h1; exact DataW.trod_lt m _ _ _ hm
  have k0 := arg_ok (hval 0 113 v0 rfl rfl) h0 ts113
  have k1 := arg_ok (hval 1 113 v1 rfl rfl) h1 ts113
  clear hA0 hval0
  refine (walk v0 v1 W k0 k1).mono fun e W' ⟨he, bel⟩ => ?_
  subst he
  exact ⟨_, rfl, _, _, _, [], _, [], hW', trodAll_mk1 (shut_bool Try.underlying4 _), (trodAll_cons_mk (Below.trod laidOut (by kernel_rfl) (of_decide_eq_true (by kernel_rfl)) h0 bel lt0) (trodAll_cons_mk (Below.trod laidOut (by kernel_rfl) (of_decide_eq_true (by kernel_rfl)) h1 bel lt1) trodAll_mk0)), rfl, bel.frame _, fun h => by cases h⟩

theorem over : Rows.meterSamplesRow.holds Try.pinned (OpenSpec.ofChange Rows.meterSamplesSpec) :=
  OpenClaim.holds_of_wide 12 Try.f12 rfl rfl rfl rfl rfl rfl rfl ⟨rfl, rfl, rfl, rfl, rfl⟩ rfl rfl rfl rfl rfl (by kernel_rfl) Try.func12 (by kernel_rfl)
    (of_decide_eq_true (by kernel_rfl)) (by unfold Func.isWrapper; first | (rw [if_pos (by decide +kernel)]; kernel_rfl) | (rw [if_neg (by decide +kernel)]; exact ⟨rfl, rfl⟩))
    (fun os started H enc _ => lifted os started H enc)

theorem meterSamples_holds : Rows.MeterSamplesSaid := over
#print axioms meterSamples_holds
end Go.Proofs.Ytjifpcjmnhnpkaa.Mt12
