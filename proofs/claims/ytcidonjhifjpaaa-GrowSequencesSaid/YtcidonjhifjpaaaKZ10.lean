/- GrowSequences: for every input the statement is true, and the input reads as it did. No condition. -/
import Derived.Test.YtcidonjhifjpaaaRows
import Derived.Test.YtcidonjhifjpaaaKC10
import Derived.Test.YtcidonjhifjpaaaKF2
import Derived.Test.YtcidonjhifjpaaaKF1
namespace Go.Proofs.Ytcidonjhifjpaaa.Gr10
open Go.ChangeShapes Go.WideShapes Go.ChangeAt Go.RowKit Go.AM
set_option linter.unusedVariables false

theorem own : ownKnob Try.prog.godebug = none := by kernel_rfl
theorem laidOut : laidOutB Try.prog = true := by kernel_rfl

theorem ts86 : tsOf Try.prog 8 86 = some [.sl [.str], .sl [.int .i64, .bool, .int .i64, .bool]] := by kernel_rfl
theorem ag86 : isAggT Try.prog 86 = true := by kernel_rfl
theorem ts101 : tsOf Try.prog 8 101 = some [.sl [.bool], .sl [.bool]] := by kernel_rfl
theorem ag101 : isAggT Try.prog 101 = true := by kernel_rfl

theorem dec {d0 d1 : List DC} (s0 : TSoks [.sl [.str], .sl [.int .i64, .bool, .int .i64, .bool]] d0) (s1 : TSoks [.sl [.bool], .sl [.bool]] d1) :
    K.pa10_0.dec [(true, d0), (true, d1)] (K.Fn10_0 K.f10_0 _ some) = some (some [rB true]) := by
  obtain ⟨_, _, rfl, t0, s3⟩ := s0.cons
  obtain ⟨_, _, rfl, t1, s4⟩ := s3.cons
  obtain rfl := s4.nil
  obtain ⟨_, _, rfl, t2, s5⟩ := s1.cons
  obtain ⟨_, _, rfl, t3, s6⟩ := s5.cons
  obtain rfl := s6.nil
  obtain ⟨r0, rfl, _, q0⟩ := t0.rows
  obtain ⟨r1, rfl, _, q1⟩ := t1.rows
  obtain ⟨r2, rfl, _, q2⟩ := t2.rows
  obtain ⟨r3, rfl, _, q3⟩ := t3.rows
  obtain ⟨D, hD, rfl⟩ := rows_ofP ofS r0 q0
  obtain ⟨R, rfl⟩ := rows_of ofR r1 q1
  obtain ⟨s, rfl⟩ := rows_of ofB r2 q2
  obtain ⟨t, rfl⟩ := rows_of ofB r3 q3
  show some (K.f10_0 _ _ _ _ _ _) = _
  rw [K.law10 hD]; rfl

set_option maxRecDepth 100000 in
theorem walk (v0 v1 : Value) (w : World) (a0 : Arg Try.prog w 86 [.sl [.str], .sl [.int .i64, .bool, .int .i64, .bool]] v0) (a1 : Arg Try.prog w 101 [.sl [.bool], .sl [.bool]] v1) :
    Calls Try.prog 10 #[v0, v1] w fun e w' => e = .returned (.bool true) ∧ Below w.heap.size w w' := by
  obtain ⟨d0, s0, r0⟩ := a0
  obtain ⟨d1, s1, r1⟩ := a1
  have hd := dec s0 s1
  rw [ag86] at r0
  rw [ag101] at r1
  refine law_calls (ds := [(true, d0), (true, d1)]) K.io10_0 (show 2 ≤ K.nt10 by decide) hd ?_
  refine ⟨rfl, fun i d v hd hv => ?_⟩
  match i with
  | 0 => simp at hd hv; subst hd; subst hv; exact r0
  | 1 => simp at hd hv; subst hd; subst hv; exact r1
  | i + 2 => simp at hd

set_option maxRecDepth 100000 in
theorem lifted (os : Os) (started : os.Started) (H : Type) (enc : TypeId × Value → H) :
    ReturnsInHanded {} Try.checked os 10 .any (Rows.growSequencesSpec.pre6 enc Try.prog Try.f10 Rows.growSequencesRow.domain false) (Rows.growSequencesSpec.post enc Try.prog Try.f10 false true false false) := by
  refine returnsInHanded_of_change (C := Try.checked) own started (by kernel_rfl) Try.func10
    (ChangeSpec.witness6 (enc := enc) (C := Try.checked) false ⟨#[], #[.agg #[.slice none 0 0, .slice none 0 0], .agg #[.slice none 0 0, .slice none 0 0]], []⟩ 8 (by kernel_rfl) (by kernel_rfl) (by kernel_rfl) (by kernel_rfl)) ?_
  intro W base args ds gs before hval0 hW hcnd _
  have hval : ∀ (j : Nat) t v, Try.f10.params[j]? = some t → args[j]? = some v → Value.okWide Try.prog W .any base t v := hval0
  have hW' := hW
  obtain ⟨p, q, hA0, hV, rfl, hfz, hnd⟩ := hW
  have hA : DataW.TrodAll enc Try.prog W 0 (fun _ => true) true Try.f10.params.toList args.toList ds p := hA0
  rw [Try.params10] at hA hval
  obtain ⟨v0, vs0, d0, ds0, p0, q0, hargs, rfl, rfl, h0, r0⟩ := trodAll_cons hA
  obtain ⟨v1, vs1, d1, ds1, p1, q1, rfl, rfl, rfl, h1, r1⟩ := trodAll_cons r0
  obtain ⟨rfl, rfl, rfl⟩ := trodAll_nil r1
  obtain rfl : args = #[v0, v1] := by cases args; simp_all
  obtain ⟨rfl, rfl⟩ := trodVars_none hV
  have lt0 : ∀ x ∈ p0, x.block < W.heap.size := by obtain ⟨m, hm⟩ := h0; exact DataW.trod_lt m _ _ _ hm
  have lt1 : ∀ x ∈ p1, x.block < W.heap.size := by obtain ⟨m, hm⟩ := h1; exact DataW.trod_lt m _ _ _ hm
  have k0 := arg_ok (hval 0 86 v0 rfl rfl) h0 ts86
  have k1 := arg_ok (hval 1 101 v1 rfl rfl) h1 ts101
  clear hA0 hval0
  refine (walk v0 v1 W k0 k1).mono fun e W' ⟨he, bel⟩ => ?_
  subst he
  exact ⟨_, rfl, _, _, _, [], _, [], hW', trodAll_mk1 (shut_bool Try.underlying4 _), (trodAll_cons_mk (Below.trod laidOut (by kernel_rfl) (of_decide_eq_true (by kernel_rfl)) h0 bel lt0) (trodAll_cons_mk (Below.trod laidOut (by kernel_rfl) (of_decide_eq_true (by kernel_rfl)) h1 bel lt1) trodAll_mk0)), rfl, bel.frame _, fun h => by cases h⟩

theorem over : Rows.growSequencesRow.holds Try.pinned (OpenSpec.ofChange Rows.growSequencesSpec) :=
  OpenClaim.holds_of_wide 10 Try.f10 rfl rfl rfl rfl rfl rfl rfl ⟨rfl, rfl, rfl, rfl, rfl⟩ rfl rfl rfl rfl rfl (by kernel_rfl) Try.func10 (by kernel_rfl)
    (of_decide_eq_true (by kernel_rfl)) (by unfold Func.isWrapper; first | (rw [if_pos (by decide +kernel)]; kernel_rfl) | (rw [if_neg (by decide +kernel)]; exact ⟨rfl, rfl⟩))
    (fun os started H enc _ => lifted os started H enc)

theorem growSequences_holds : Rows.GrowSequencesSaid := over
#print axioms growSequences_holds
end Go.Proofs.Ytcidonjhifjpaaa.Gr10
