/- MeterTrue: for every input the statement is true, and the input reads as it did. No condition. -/
import Derived.Test.YtjifpcjmnhnpkaaRows
import Derived.Test.YtjifpcjmnhnpkaaMQ6
import Derived.Test.YtjifpcjmnhnpkaaKF1
namespace Go.Proofs.Ytjifpcjmnhnpkaa.Mt6
open Go.ChangeShapes Go.WideShapes Go.ChangeAt Go.RowKit Go.AM
set_option linter.unusedVariables false

theorem own : ownKnob Try.prog.godebug = none := by kernel_rfl
theorem laidOut : laidOutB Try.prog = true := by kernel_rfl

theorem ts68 : tsOf Try.prog 8 68 = some [.int .i64, .int .i64, .int .i64, .int .i64, .int .i64, .int .i64, .int .i64, .int .i64, .int .i64, .int .i64, .int .i64, .int .i64, .int .i64, .int .i64, .int .i64] := by kernel_rfl
theorem ag68 : isAggT Try.prog 68 = true := by kernel_rfl
theorem ts3 : tsOf Try.prog 8 3 = some [.int .i64] := by kernel_rfl
theorem ag3 : isAggT Try.prog 3 = false := by kernel_rfl

theorem dec {d0 d1 : List DC} (s0_0 : TSoks [.int .i64, .int .i64, .int .i64, .int .i64, .int .i64, .int .i64, .int .i64, .int .i64, .int .i64, .int .i64, .int .i64, .int .i64, .int .i64, .int .i64, .int .i64] d0) (s1_0 : TSoks [.int .i64] d1) :
    K.pa6_0.dec [(true, d0), (false, d1)] (K.Fn6_0 K.f6_0 _ some) = some (some [rB true]) := by
  obtain ⟨_, _, rfl, ⟨_⟩, s0_1⟩ := s0_0.cons
  obtain ⟨_, _, rfl, ⟨_⟩, s0_2⟩ := s0_1.cons
  obtain ⟨_, _, rfl, ⟨_⟩, s0_3⟩ := s0_2.cons
  obtain ⟨_, _, rfl, ⟨_⟩, s0_4⟩ := s0_3.cons
  obtain ⟨_, _, rfl, ⟨_⟩, s0_5⟩ := s0_4.cons
  obtain ⟨_, _, rfl, ⟨_⟩, s0_6⟩ := s0_5.cons
  obtain ⟨_, _, rfl, ⟨_⟩, s0_7⟩ := s0_6.cons
  obtain ⟨_, _, rfl, ⟨_⟩, s0_8⟩ := s0_7.cons
  obtain ⟨_, _, rfl, ⟨_⟩, s0_9⟩ := s0_8.cons
  obtain ⟨_, _, rfl, ⟨_⟩, s0_10⟩ := s0_9.cons
  obtain ⟨_, _, rfl, ⟨_⟩, s0_11⟩ := s0_10.cons
  obtain ⟨_, _, rfl, ⟨_⟩, s0_12⟩ := s0_11.cons
  obtain ⟨_, _, rfl, ⟨_⟩, s0_13⟩ := s0_12.cons
  obtain ⟨_, _, rfl, ⟨_⟩, s0_14⟩ := s0_13.cons
  obtain ⟨_, _, rfl, ⟨_⟩, s0_15⟩ := s0_14.cons
  obtain rfl := s0_15.nil
  obtain ⟨_, _, rfl, ⟨_⟩, s1_1⟩ := s1_0.cons
  obtain rfl := s1_1.nil
  show some (K.f6_0 _ _ _ _ _ _ _ _ _ _ _ _ _ _ _ _ _ _) = _
  rw [K.law6]; rfl

set_option maxRecDepth 100000 in
theorem walk (v0 v1 : Value) (w : World) (a0 : Arg Try.prog w 68 [.int .i64, .int .i64, .int .i64, .int .i64, .int .i64, .int .i64, .int .i64, .int .i64, .int .i64, .int .i64, .int .i64, .int .i64, .int .i64, .int .i64, .int .i64] v0) (a1 : Arg Try.prog w 3 [.int .i64] v1) :
    Calls Try.prog 6 #[v0, v1] w fun e w' => e = .returned (.bool true) ∧ Below w.heap.size w w' := by
  obtain ⟨d0, s0, r0⟩ := a0
  obtain ⟨d1, s1, r1⟩ := a1
  have hd := dec s0 s1
  rw [ag68] at r0
  rw [ag3] at r1
  refine law_calls (ds := [(true, d0), (false, d1)]) K.io6_0 (show 2 ≤ K.nt6 by decide) hd ?_
  refine ⟨rfl, fun i d v hd hv => ?_⟩
  match i with
  | 0 => simp at hd hv; subst hd; subst hv; exact r0
  | 1 => simp at hd hv; subst hd; subst hv; exact r1
  | i + 2 => simp at hd

set_option maxRecDepth 100000 in
theorem lifted (os : Os) (started : os.Started) (H : Type) (enc : TypeId × Value → H) :
    ReturnsInHanded {} Try.checked os 6 .any (Rows.meterTrueSpec.pre6 enc Try.prog Try.f6 Rows.meterTrueRow.domain false) (Rows.meterTrueSpec.post enc Try.prog Try.f6 false true false false) := by
  refine returnsInHanded_of_change (C := Try.checked) own started (by kernel_rfl) Try.func6
    (ChangeSpec.witness6 (enc := enc) (C := Try.checked) false ⟨#[], #[.agg #[.int .i64 0, .int .i64 0, .int .i64 0, .int .i64 0, .int .i64 0, .int .i64 0, .int .i64 0, .int .i64 0, .int .i64 0, .int .i64 0, .int .i64 0, .int .i64 0, .int .i64 0, .int .i64 0, .int .i64 0], .int .i64 0], []⟩ 8 (by kernel_rfl) (by kernel_rfl) (by kernel_rfl) (by kernel_rfl)) ?_
  intro W base args ds gs before hval0 hW hcnd _
  have hval : ∀ (j : Nat) t v, Try.f6.params[j]? = some t → args[j]? = some v → Value.okWide Try.prog W .any base t v := hval0
  have hW' := hW
  obtain ⟨p, q, hA0, hV, rfl, hfz, hnd⟩ := hW
  have hA : DataW.TrodAll enc Try.prog W 0 (fun _ => true) true Try.f6.params.toList args.toList ds p := hA0
  rw [Try.params6] at hA hval
  obtain ⟨v0, vs0, d0, ds0, p0, q0, hargs, rfl, rfl, h0, r0⟩ := trodAll_cons hA
  obtain ⟨v1, vs1, d1, ds1, p1, q1, rfl, rfl, rfl, h1, r1⟩ := trodAll_cons r0
  obtain ⟨rfl, rfl, rfl⟩ := trodAll_nil r1
  obtain rfl : args = #[v0, v1] := by cases args; simp_all
  obtain ⟨rfl, rfl⟩ := trodVars_none hV
  have lt0 : ∀ x ∈ p0, x.block < W.heap.size := by obtain ⟨m, hm⟩ := h0; exact DataW.trod_lt m _ _ _ hm
  have lt1 : ∀ x ∈ p1, x.block < W.heap.size := by obtain ⟨m, hm⟩ := h1; exact DataW.trod_lt m _ _ _ hm
  have k0 := arg_ok (hval 0 68 v0 rfl rfl) h0 ts68
  have k1 := arg_ok (hval 1 3 v1 rfl rfl) h1 ts3
  clear hA0 hval0
  refine (walk v0 v1 W k0 k1).mono fun e W' ⟨he, bel⟩ => ?_
  subst he
  exact ⟨_, rfl, _, _, _, [], _, [], hW', trodAll_mk1 (shut_bool Try.underlying4 _), (trodAll_cons_mk (Below.trod laidOut (by kernel_rfl) (of_decide_eq_true (by kernel_rfl)) h0 bel lt0) (trodAll_cons_mk (Below.trod laidOut (by kernel_rfl) (of_decide_eq_true (by kernel_rfl)) h1 bel lt1) trodAll_mk0)), rfl, bel.frame _, fun h => by cases h⟩

theorem over : Rows.meterTrueRow.holds Try.pinned (OpenSpec.ofChange Rows.meterTrueSpec) :=
  OpenClaim.holds_of_wide 6 Try.f6 rfl rfl rfl rfl rfl rfl rfl ⟨rfl, rfl, rfl, rfl, rfl⟩ rfl rfl rfl rfl rfl (by kernel_rfl) Try.func6 (by kernel_rfl)
    (of_decide_eq_true (by kernel_rfl)) (by unfold Func.isWrapper; first | (rw [if_pos (by decide +kernel)]; kernel_rfl) | (rw [if_neg (by decide +kernel)]; exact ⟨rfl, rfl⟩))
    (fun os started H enc _ => lifted os started H enc)

theorem meterTrue_holds : Rows.MeterTrueSaid := over
#print axioms meterTrue_holds
end Go.Proofs.Ytjifpcjmnhnpkaa.Mt6
