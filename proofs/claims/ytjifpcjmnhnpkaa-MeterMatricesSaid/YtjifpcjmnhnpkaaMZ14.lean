/- MeterMatrices: for every input the statement is true, and the input reads as it did. No condition. -/
import Derived.Test.YtjifpcjmnhnpkaaRows
import Derived.Test.YtjifpcjmnhnpkaaMQ14
import Derived.Test.YtjifpcjmnhnpkaaKF1
namespace Go.Proofs.Ytjifpcjmnhnpkaa.Mt14
open Go.ChangeShapes Go.WideShapes Go.ChangeAt Go.RowKit Go.AM
set_option linter.unusedVariables false

theorem own : ownKnob Try.prog.godebug = none := by kernel_rfl
theorem laidOut : laidOutB Try.prog = true := by kernel_rfl

theorem ts128 : tsOf Try.prog 8 128 = some [.int .i64, .int .i64, .int .i64, .int .i64, .int .i64, .int .i64, .int .i64, .int .i64, .int .i64, .int .i64, .int .i64, .int .i64, .int .i64, .int .i64, .int .i64, .int .i64, .int .i64, .int .i64, .int .i64, .int .i64] := by kernel_rfl
theorem ag128 : isAggT Try.prog 128 = true := by kernel_rfl
theorem ts55 : tsOf Try.prog 8 55 = some [.int .i64, .int .i64, .int .i64] := by kernel_rfl
theorem ag55 : isAggT Try.prog 55 = true := by kernel_rfl
theorem ts40 : tsOf Try.prog 8 40 = some [.int .i64, .int .i64, .int .i64, .int .i64, .int .i64, .int .i64] := by kernel_rfl
theorem ag40 : isAggT Try.prog 40 = true := by kernel_rfl

theorem dec {d0 d1 d2 : List DC} (s0_0 : TSoks [.int .i64, .int .i64, .int .i64, .int .i64, .int .i64, .int .i64, .int .i64, .int .i64, .int .i64, .int .i64, .int .i64, .int .i64, .int .i64, .int .i64, .int .i64, .int .i64, .int .i64, .int .i64, .int .i64, .int .i64] d0) (s1_0 : TSoks [.int .i64, .int .i64, .int .i64] d1) (s2_0 : TSoks [.int .i64, .int .i64, .int .i64, .int .i64, .int .i64, .int .i64] d2) :
    K.pa14_0.dec [(true, d0), (true, d1), (true, d2)] (K.Fn14_0 K.f14_0 _ some) = some (some [rB true]) := by
  obtain ⟨_, _, rfl, ⟨_⟩, s0_1⟩ := s0_0.cons
  obtain ⟨_, _, rfl, ⟨_⟩, s0_2⟩ := s0_1.cons
  obtain ⟨_, _, rfl, ⟨_⟩, s0_3⟩ := s0_2.cons
  obtain ⟨_, _, rfl, ⟨_⟩, s0_4⟩ := s0_3.cons
  obtain ⟨_, _, rfl, ⟨_⟩, s0_5⟩ := s0_4.cons
  obtain ⟨_, _, rfl, ⟨_⟩, s0_6⟩ := s0_5.cons
  obtain ⟨_, _, rfl, ⟨_⟩, s0_7⟩ := s0_6.cons
  obtain ⟨_, _, rfl, ⟨_⟩, s0_8⟩ := s0_7.cons
  obtain ⟨_, _, rfl, ⟨_⟩, s0_9⟩ := s0_8.cons
  obtain ⟨_, _, rfl, ⟨_⟩, s0_10⟩ := s0_9.cons
  obtain ⟨_, _, rfl, ⟨_⟩, s0_11⟩ := s0_10.cons
  obtain ⟨_, _, rfl, ⟨_⟩, s0_12⟩ := s0_11.cons
  obtain ⟨_, _, rfl, ⟨_⟩, s0_13⟩ := s0_12.cons
  obtain ⟨_, _, rfl, ⟨_⟩, s0_14⟩ := s0_13.cons
  obtain ⟨_, _, rfl, ⟨_⟩, s0_15⟩ := s0_14.cons
  obtain ⟨_, _, rfl, ⟨_⟩, s0_16⟩ := s0_15.cons
  obtain ⟨_, _, rfl, ⟨_⟩, s0_17⟩ := s0_16.cons
  obtain ⟨_, _, rfl, ⟨_⟩, s0_18⟩ := s0_17.cons
  obtain ⟨_, _, rfl, ⟨_⟩, s0_19⟩ := s0_18.cons
  obtain ⟨_, _, rfl, ⟨_⟩, s0_20⟩ := s0_19.cons
  obtain rfl := s0_20.nil
  obtain ⟨_, _, rfl, ⟨_⟩, s1_1⟩ := s1_0.cons
  obtain ⟨_, _, rfl, ⟨_⟩, s1_2⟩ := s1_1.cons
  obtain ⟨_, _, rfl, ⟨_⟩, s1_3⟩ := s1_2.cons
  obtain rfl := s1_3.nil
  obtain ⟨_, _, rfl, ⟨_⟩, s2_1⟩ := s2_0.cons
  obtain ⟨_, _, rfl, ⟨_⟩, s2_2⟩ := s2_1.cons
  obtain ⟨_, _, rfl, ⟨_⟩, s2_3⟩ := s2_2.cons
  obtain ⟨_, _, rfl, ⟨_⟩, s2_4⟩ := s2_3.cons
  obtain ⟨_, _, rfl, ⟨_⟩, s2_5⟩ := s2_4.cons
  obtain ⟨_, _, rfl, ⟨_⟩, s2_6⟩ := s2_5.cons
  obtain rfl := s2_6.nil
  show some (K.f14_0 _ _ _ _ _ _ _ _ _ _ _ _ _ _ _ _ _ _ _ _ _ _ _ _ _ _ _ _ _ _ _) = _
  rw [K.law14]; rfl

set_option maxRecDepth 100000 in
theorem walk (v0 v1 v2 : Value) (w : World) (a0 : Arg Try.prog w 128 [.int .i64, .int .i64, .int .i64, .int .i64, .int .i64, .int .i64, .int .i64, .int .i64, .int .i64, .int .i64, .int .i64, .int .i64, .int .i64, .int .i64, .int .i64, .int .i64, .int .i64, .int .i64, .int .i64, .int .i64] v0) (a1 : Arg Try.prog w 55 [.int .i64, .int .i64, .int .i64] v1) (a2 : Arg Try.prog w 40 [.int .i64, .int .i64, .int .i64, .int .i64, .int .i64, .int .i64] v2) :
    Calls Try.prog 14 #[v0, v1, v2] w fun e w' => e = .returned (.bool true) ∧ Below w.heap.size w w' := by
  obtain ⟨d0, s0, r0⟩ := a0
  obtain ⟨d1, s1, r1⟩ := a1
  obtain ⟨d2, s2, r2⟩ := a2
  have hd := dec s0 s1 s2
  rw [ag128] at r0
  rw [ag55] at r1
  rw [ag40] at r2
  refine law_calls (ds := [(true, d0), (true, d1), (true, d2)]) K.io14_0 (show 3 ≤ K.nt14 by decide) hd ?_
  refine ⟨rfl, fun i d v hd hv => ?_⟩
  match i with
  | 0 => simp at hd hv; subst hd; subst hv; exact r0
  | 1 => simp at hd hv; subst hd; subst hv; exact r1
  | 2 => simp at hd hv; subst hd; subst hv; exact r2
  | i + 3 => simp at hd

set_option maxRecDepth 100000 in
theorem lifted (os : Os) (started : os.Started) (H : Type) (enc : TypeId × Value → H) :
    ReturnsInHanded {} Try.checked os 14 .any (Rows.meterMatricesSpec.pre6 enc Try.prog Try.f14 Rows.meterMatricesRow.domain false) (Rows.meterMatricesSpec.post enc Try.prog Try.f14 false true false false) := by
  refine returnsInHanded_of_change (C := Try.checked) own started (by kernel_rfl) Try.func14
    (ChangeSpec.witness6 (enc := enc) (C := Try.checked) false ⟨#[], #[.agg #[.int .i64 0, .int .i64 0, .int .i64 0, .int .i64 0, .int .i64 0, .int .i64 0, .int .i64 0, .int .i64 0, .int .i64 0, .int .i64 0, .int .i64 0, .int .i64 0, .int .i64 0, .int .i64 0, .int .i64 0, .int .i64 0, .int .i64 0, .int .i64 0, .int .i64 0, .int .i64 0], .agg #[.int .i64 0, .int .i64 0, .int .i64 0], .agg #[.int .i64 0, .int .i64 0, .int .i64 0, .int .i64 0, .int .i64 0, .int .i64 0]], []⟩ 8 (by kernel_rfl) (by kernel_rfl) (by kernel_rfl) (by kernel_rfl)) ?_
  intro W base args ds gs before hval0 hW hcnd _
  have hval : ∀ (j : Nat) t v, Try.f14.params[j]? = some t → args[j]? = some v → Value.okWide Try.prog W .any base t v := hval0
  have hW' := hW
  obtain ⟨p, q, hA0, hV, rfl, hfz, hnd⟩ := hW
  have hA : DataW.TrodAll enc Try.prog W 0 (fun _ => true) true Try.f14.params.toList args.toList ds p := hA0
  rw [Try.params14] at hA hval
  obtain ⟨v0, vs0, d0, ds0, p0, q0, hargs, rfl, rfl, h0, r0⟩ := trodAll_cons hA
  obtain ⟨v1, vs1, d1, ds1, p1, q1, rfl, rfl, rfl, h1, r1⟩ := trodAll_cons r0
  obtain ⟨v2, vs2, d2, ds2, p2, q2, rfl, rfl, rfl, h2, r2⟩ := trodAll_cons r1
  obtain ⟨rfl, rfl, rfl⟩ := trodAll_nil r2
  obtain rfl : args = #[v0, v1, v2] := by cases args; simp_all
  obtain ⟨rfl, rfl⟩ := trodVars_none hV
  have lt0 : ∀ x ∈ p0, x.block < W.heap.size := by obtain ⟨m, hm⟩ := h0; exact DataW.trod_lt m _ _ _ hm
  have lt1 : ∀ x ∈ p1, x.block < W.heap.size := by obtain ⟨m, hm⟩ := h1; exact DataW.trod_lt m _ _ _ hm
  have lt2 : ∀ x ∈ p2, x.block < W.heap.size := by obtain ⟨m, hm⟩ := h2; exact DataW.trod_lt m _ _ _ hm
  have k0 := arg_ok (hval 0 128 v0 rfl rfl) h0 ts128
  have k1 := arg_ok (hval 1 55 v1 rfl rfl) h1 ts55
  have k2 := arg_ok (hval 2 40 v2 rfl rfl) h2 ts40
  clear hA0 hval0
  refine (walk v0 v1 v2 W k0 k1 k2).mono fun e W' ⟨he, bel⟩ => ?_
  subst he
  exact ⟨_, rfl, _, _, _, [], _, [], hW', trodAll_mk1 (shut_bool Try.underlying4 _), (trodAll_cons_mk (Below.trod laidOut (by kernel_rfl) (of_decide_eq_true (by kernel_rfl)) h0 bel lt0) (trodAll_cons_mk (Below.trod laidOut (by kernel_rfl) (of_decide_eq_true (by kernel_rfl)) h1 bel lt1) (trodAll_cons_mk (Below.trod laidOut (by kernel_rfl) (of_decide_eq_true (by kernel_rfl)) h2 bel lt2) trodAll_mk0))), rfl, bel.frame _, fun h => by cases h⟩

theorem over : Rows.meterMatricesRow.holds Try.pinned (OpenSpec.ofChange Rows.meterMatricesSpec) :=
  OpenClaim.holds_of_wide 14 Try.f14 rfl rfl rfl rfl rfl rfl rfl ⟨rfl, rfl, rfl, rfl, rfl⟩ rfl rfl rfl rfl rfl (by kernel_rfl) Try.func14 (by kernel_rfl)
    (of_decide_eq_true (by kernel_rfl)) (by unfold Func.isWrapper; first | (rw [if_pos (by decide +kernel)]; kernel_rfl) | (rw [if_neg (by decide +kernel)]; exact ⟨rfl, rfl⟩))
    (fun os started H enc _ => lifted os started H enc)

theorem meterMatrices_holds : Rows.MeterMatricesSaid := over
#print axioms meterMatrices_holds
end Go.Proofs.Ytjifpcjmnhnpkaa.Mt14
