/- MeterSees: for every input the statement is true, and the input reads as it did. No condition. -/
import Derived.Test.YtmhghbkdcdpicaaRows
import Derived.Test.YtmhghbkdcdpicaaSQ3
import Derived.Test.YtmhghbkdcdpicaaKF1
namespace Go.Proofs.Ytmhghbkdcdpicaa.Mr3
open Go.ChangeShapes Go.WideShapes Go.ChangeAt Go.RowKit Go.AM
set_option linter.unusedVariables false
theorem own : ownKnob Try.prog.godebug = none := by kernel_rfl
theorem laidOut : laidOutB Try.prog = true := by kernel_rfl
theorem ts24 : tsOf Try.prog 8 24 = some [.int .i64, .int .i64, .int .i64, .int .i64, .int .i64, .int .i64, .int .i64, .int .i64, .int .i64, .int .i64] := by kernel_rfl
theorem ag24 : isAggT Try.prog 24 = true := by kernel_rfl
theorem ts28 : tsOf Try.prog 8 28 = some [.int .i64, .int .i64, .int .i64, .int .i64, .int .i64, .int .i64] := by kernel_rfl
theorem ag28 : isAggT Try.prog 28 = true := by kernel_rfl
theorem dec {d0 d1 : List DC} (s0_0 : TSoks [.int .i64, .int .i64, .int .i64, .int .i64, .int .i64, .int .i64, .int .i64, .int .i64, .int .i64, .int .i64] d0) (s1_0 : TSoks [.int .i64, .int .i64, .int .i64, .int .i64, .int .i64, .int .i64] d1) :
    K.pa3_0.dec [(true, d0), (true, d1)] (K.Fn3_0 K.f3_0 _ some) = some (some [rB true]) := by
  obtain ⟨_, _, rfl, ⟨_⟩, s0_1⟩ := s0_0.cons
  obtain ⟨_, _, rfl, ⟨_⟩, s0_2⟩ := s0_1.cons
  obtain ⟨_, _, rfl, ⟨_⟩, s0_3⟩ := s0_2.cons
  obtain ⟨_, _, rfl, ⟨_⟩, s0_4⟩ := s0_3.cons
  obtain ⟨_, _, rfl, ⟨_⟩, s0_5⟩ := s0_4.cons
  obtain ⟨_, _, rfl, ⟨_⟩, s0_6⟩ := s0_5.cons
  obtain ⟨_, _, rfl, ⟨_⟩, s0_7⟩ := s0_6.cons
  obtain ⟨_, _, rfl, ⟨_⟩, s0_8⟩ := s0_7.cons
  obtain ⟨_, _, rfl, ⟨_⟩, s0_9⟩ := s0_8.cons
  obtain ⟨_, _, rfl, ⟨_⟩, s0_10⟩ := s0_9.cons
  obtain rfl := s0_10.nil
  obtain ⟨_, _, rfl, ⟨_⟩, s1_1⟩ := s1_0.cons
  obtain ⟨_, _, rfl, ⟨_⟩, s1_2⟩ := s1_1.cons
  obtain ⟨_, _, rfl, ⟨_⟩, s1_3⟩ := s1_2.cons
  obtain ⟨_, _, rfl, ⟨_⟩, s1_4⟩ := s1_3.cons
  obtain ⟨_, _, rfl, ⟨_⟩, s1_5⟩ := s1_4.cons
  obtain ⟨_, _, rfl, ⟨_⟩, s1_6⟩ := s1_5.cons
  obtain rfl := s1_6.nil
  show some (K.f3_0 _ _ _ _ _ _ _ _ _ _ _ _ _ _ _ _ _ _) = _
  rw [K.law3]; rfl
set_option maxRecDepth 100000 in
theorem walk (v0 v1 : Value) (w : World) (a0 : Arg Try.prog w 24 [.int .i64, .int .i64, .int .i64, .int .i64, .int .i64, .int .i64, .int .i64, .int .i64, .int .i64, .int .i64] v0) (a1 : Arg Try.prog w 28 [.int .i64, .int .i64, .int .i64, .int .i64, .int .i64, .int .i64] v1) :
    Calls Try.prog 3 #[v0, v1] w fun e w' => e = .returned (.bool true) ∧ Below w.heap.size w w' := by
  obtain ⟨d0, s0, r0⟩ := a0
  obtain ⟨d1, s1, r1⟩ := a1
  have hd := dec s0 s1
  rw [ag24] at r0
  rw [ag28] at r1
  refine law_calls (ds := [(true, d0), (true, d1)]) K.io3_0 (show 2 ≤ K.nt3 by decide) hd ?_
  refine ⟨rfl, fun i d v hd hv => ?_⟩
  match i with
  | 0 => simp at hd hv; subst hd; subst hv; exact r0
  | 1 => simp at hd hv; subst hd; subst hv; exact r1
  | i + 2 => simp at hd
set_option maxRecDepth 100000 in
theorem lifted (os : Os) (started : os.Started) (H : Type) (enc : TypeId × Value → H) :
    ReturnsInHanded {} Try.checked os 3 .any (Rows.meterSeesSpec.pre6 enc Try.prog Try.f3 Rows.meterSeesRow.domain false) (Rows.meterSeesSpec.post enc Try.prog Try.f3 false true false false) := by
  refine returnsInHanded_of_change (C := Try.checked) own started (by kernel_rfl) Try.func3
    (ChangeSpec.witness6 (enc := enc) (C := Try.checked) false ⟨#[], #[.agg #[.int .i64 0, .int .i64 0, .int .i64 0, .int .i64 0, .int .i64 0, .int .i64 0, .int .i64 0, .int .i64 0, .int .i64 0, .int .i64 0], .agg #[.int .i64 0, .int .i64 0, .int .i64 0, .int .i64 0, .int .i64 0, .int .i64 0]], []⟩ 8 (by kernel_rfl) (by kernel_rfl) (by kernel_rfl) (by kernel_rfl)) ?_
  intro W base args ds gs before hval0 hW hcnd _
  have hval : ∀ (j : Nat) t v, Try.f3.params[j]? = some t → args[j]? = some v → Value.okWide Try.prog W .any base t v := hval0
  have hW' := hW
  obtain ⟨p, q, hA0, hV, rfl, hfz, hnd⟩ := hW
  have hA : DataW.TrodAll enc Try.prog W 0 (fun _ => true) true Try.f3.params.toList args.toList ds p := hA0
  rw [Try.params3] at hA hval
  obtain ⟨v0, vs0, d0, ds0, p0, q0, hargs, rfl, rfl, h0, r0⟩ := trodAll_cons hA
  obtain ⟨v1, vs1, d1, ds1, p1, q1, rfl, rfl, rfl, h1, r1⟩ := trodAll_cons r0
  obtain ⟨rfl, rfl, rfl⟩ := trodAll_nil r1
  obtain rfl : args = #[v0, v1] := by cases args; simp_all
  obtain ⟨rfl, rfl⟩ := trodVars_none hV
  have lt0 : ∀ x ∈ p0, x.block < W.heap.size := by obtain ⟨m, hm⟩ := h0; exact DataW.trod_lt m _ _ _ hm
  have lt1 : ∀ x ∈ p1, x.block < W.heap.size := by obtain ⟨m, hm⟩ := h1; exact DataW.trod_lt m _ _ _ hm
  have k0 := arg_ok (hval 0 24 v0 rfl rfl) h0 ts24
  have k1 := arg_ok (hval 1 28 v1 rfl rfl) h1 ts28
  clear hA0 hval0
  refine (walk v0 v1 W k0 k1).mono fun e W' ⟨he, bel⟩ => ?_
  subst he
  exact ⟨_, rfl, _, _, _, [], _, [], hW', trodAll_mk1 (shut_bool Try.underlying4 _), (trodAll_cons_mk (Below.trod laidOut (by kernel_rfl) (of_decide_eq_true (by kernel_rfl)) h0 bel lt0) (trodAll_cons_mk (Below.trod laidOut (by kernel_rfl) (of_decide_eq_true (by kernel_rfl)) h1 bel lt1) trodAll_mk0)), rfl, bel.frame _, fun h => by cases h⟩
theorem over : Rows.meterSeesRow.holds Try.pinned (OpenSpec.ofChange Rows.meterSeesSpec) :=
  OpenClaim.holds_of_wide 3 Try.f3 rfl rfl rfl rfl rfl rfl rfl ⟨rfl, rfl, rfl, rfl, rfl⟩ rfl rfl rfl rfl rfl (by kernel_rfl) Try.func3 (by kernel_rfl)
    (of_decide_eq_true (by kernel_rfl)) (by unfold Func.isWrapper; first | (rw [if_pos (by decide +kernel)]; kernel_rfl) | (rw [if_neg (by decide +kernel)]; exact ⟨rfl, rfl⟩))
    (fun os started H enc _ => lifted os started H enc)
theorem meterSees_holds : Rows.MeterSeesSaid := over
#print axioms meterSees_holds
end Go.Proofs.Ytmhghbkdcdpicaa.Mr3
