/- GlassChecks: for every input the statement is true, and the input reads as it did. No condition. -/
import Derived.Test.YtehamglokkjipaaRows
import Derived.Test.YtehamglokkjipaaGQ3
import Derived.Test.YtehamglokkjipaaKF1
namespace Go.Proofs.Ytehamglokkjipaa.Gl3
open Go.ChangeShapes Go.WideShapes Go.ChangeAt Go.RowKit Go.AM
set_option linter.unusedVariables false
theorem own : ownKnob Try.prog.godebug = none := by kernel_rfl
theorem laidOut : laidOutB Try.prog = true := by kernel_rfl
theorem ts26 : tsOf Try.prog 8 26 = some [.str, .int .i64, .sl [.int .i64], .sl [.flt .f32], .sl [.flt .f32], .int .i64, .int .i64] := by kernel_rfl
theorem ag26 : isAggT Try.prog 26 = true := by kernel_rfl
theorem of1 (r : List DC) (h : TSoks [.int .i64] r) : ∃ a : Int, r = rI1 a := by
  obtain ⟨_, _, rfl, ⟨_⟩, h1⟩ := h.cons
  obtain rfl := h1.nil
  exact ⟨_, rfl⟩
theorem ofF (r : List DC) (h : TSoks [.flt .f32] r) : ∃ a : Nat, r = K.rF a := by
  obtain ⟨_, _, rfl, ⟨_⟩, h1⟩ := h.cons
  obtain rfl := h1.nil
  exact ⟨_, rfl⟩
theorem dec {d0 : List DC} (s0 : TSoks [.str, .int .i64, .sl [.int .i64], .sl [.flt .f32], .sl [.flt .f32], .int .i64, .int .i64] d0) :
    K.pa3_0.dec [(true, d0)] (K.Fn3_0 K.f3_0 _ some) = some (some [rB true]) := by
  obtain ⟨_, _, rfl, ⟨_⟩, s1⟩ := s0.cons
  obtain ⟨_, _, rfl, ⟨_⟩, s2⟩ := s1.cons
  obtain ⟨_, _, rfl, t2, s3⟩ := s2.cons
  obtain ⟨_, _, rfl, t3, s4⟩ := s3.cons
  obtain ⟨_, _, rfl, t4, s5⟩ := s4.cons
  obtain ⟨_, _, rfl, ⟨_⟩, s6⟩ := s5.cons
  obtain ⟨_, _, rfl, ⟨_⟩, s7⟩ := s6.cons
  obtain rfl := s7.nil
  obtain ⟨r2, rfl, _, q2⟩ := t2.rows
  obtain ⟨r3, rfl, _, q3⟩ := t3.rows
  obtain ⟨r4, rfl, _, q4⟩ := t4.rows
  obtain ⟨lw, rfl⟩ := rows_of of1 r2 q2
  obtain ⟨lx, rfl⟩ := rows_of ofF r3 q3
  obtain ⟨ly, rfl⟩ := rows_of ofF r4 q4
  show some (K.f3_0 _ _ _ _ _ _ _ _ _) = _
  rw [K.law3]; rfl
set_option maxRecDepth 100000 in
theorem walk (v0 : Value) (w : World) (a0 : Arg Try.prog w 26 [.str, .int .i64, .sl [.int .i64], .sl [.flt .f32], .sl [.flt .f32], .int .i64, .int .i64] v0) :
    Calls Try.prog 3 #[v0] w fun e w' => e = .returned (.bool true) ∧ Below w.heap.size w w' := by
  obtain ⟨d0, s0, r0⟩ := a0
  have hd := dec s0
  rw [ag26] at r0
  refine law_calls (ds := [(true, d0)]) K.io3_0 (show 1 ≤ K.nt3 by decide) hd ?_
  refine ⟨rfl, fun i d v hd hv => ?_⟩
  match i with
  | 0 => simp at hd hv; subst hd; subst hv; exact r0
  | i + 1 => simp at hd
set_option maxRecDepth 100000 in
theorem lifted (os : Os) (started : os.Started) (H : Type) (enc : TypeId × Value → H) :
    ReturnsInHanded {} Try.checked os 3 .any (Rows.glassChecksSpec.pre6 enc Try.prog Try.f3 Rows.glassChecksRow.domain false) (Rows.glassChecksSpec.post enc Try.prog Try.f3 false true false false) := by
  refine returnsInHanded_of_change (C := Try.checked) own started (by kernel_rfl) Try.func3
    (ChangeSpec.witness6 (enc := enc) (C := Try.checked) false ⟨#[], #[.agg #[.string ⟨#[]⟩, .int .i64 0, .slice none 0 0, .slice none 0 0, .slice none 0 0, .int .i64 0, .int .i64 0]], []⟩ 8 (by kernel_rfl) (by kernel_rfl) (by kernel_rfl) (by kernel_rfl)) ?_
  intro W base args ds gs before hval0 hW hcnd _
  have hval : ∀ (j : Nat) t v, Try.f3.params[j]? = some t → args[j]? = some v → Value.okWide Try.prog W .any base t v := hval0
  have hW' := hW
  obtain ⟨p, q, hA0, hV, rfl, hfz, hnd⟩ := hW
  have hA : DataW.TrodAll enc Try.prog W 0 (fun _ => true) true Try.f3.params.toList args.toList ds p := hA0
  rw [Try.params3] at hA hval
  obtain ⟨v0, vs0, d0, ds0, p0, q0, hargs, rfl, rfl, h0, r0⟩ := trodAll_cons hA
  obtain ⟨rfl, rfl, rfl⟩ := trodAll_nil r0
  obtain rfl : args = #[v0] := by cases args; simp_all
  obtain ⟨rfl, rfl⟩ := trodVars_none hV
  have lt0 : ∀ x ∈ p0, x.block < W.heap.size := by obtain ⟨m, hm⟩ := h0; exact DataW.trod_lt m _ _ _ hm
  have k0 := arg_ok (hval 0 26 v0 rfl rfl) h0 ts26
  clear hA0 hval0
  refine (walk v0 W k0).mono fun e W' ⟨he, bel⟩ => ?_
  subst he
  exact ⟨_, rfl, _, _, _, [], _, [], hW', trodAll_mk1 (shut_bool Try.underlying4 _), (trodAll_cons_mk (Below.trod laidOut (by kernel_rfl) (of_decide_eq_true (by kernel_rfl)) h0 bel lt0) trodAll_mk0), rfl, bel.frame _, fun h => by cases h⟩
theorem over : Rows.glassChecksRow.holds Try.pinned (OpenSpec.ofChange Rows.glassChecksSpec) :=
  OpenClaim.holds_of_wide 3 Try.f3 rfl rfl rfl rfl rfl rfl rfl ⟨rfl, rfl, rfl, rfl, rfl⟩ rfl rfl rfl rfl rfl (by kernel_rfl) Try.func3 (by kernel_rfl)
    (of_decide_eq_true (by kernel_rfl)) (by unfold Func.isWrapper; first | (rw [if_pos (by decide +kernel)]; kernel_rfl) | (rw [if_neg (by decide +kernel)]; exact ⟨rfl, rfl⟩))
    (fun os started H enc _ => lifted os started H enc)
theorem glassChecks_holds : Rows.GlassChecksSaid := over
#print axioms glassChecks_holds
end Go.Proofs.Ytehamglokkjipaa.Gl3
