/- GlassWithin: for every input the statement is true, and the input reads as it did. No condition. -/
import Derived.Test.YtehamglokkjipaaRows
import Derived.Test.YtehamglokkjipaaGQ6
import Derived.Test.YtehamglokkjipaaKF1
namespace Go.Proofs.Ytehamglokkjipaa.Gl6
open Go.ChangeShapes Go.WideShapes Go.ChangeAt Go.RowKit Go.AM
set_option linter.unusedVariables false
theorem own : ownKnob Try.prog.godebug = none := by kernel_rfl
theorem laidOut : laidOutB Try.prog = true := by kernel_rfl
theorem ts26 : tsOf Try.prog 8 26 = some [.str, .int .i64, .sl [.int .i64], .sl [.flt .f32], .sl [.flt .f32], .int .i64, .int .i64] := by kernel_rfl
theorem ag26 : isAggT Try.prog 26 = true := by kernel_rfl
theorem ts36 : tsOf Try.prog 8 36 = some [.int .i64, .int .i64] := by kernel_rfl
theorem ag36 : isAggT Try.prog 36 = true := by kernel_rfl
theorem ts3 : tsOf Try.prog 8 3 = some [.int .i64] := by kernel_rfl
theorem ag3 : isAggT Try.prog 3 = false := by kernel_rfl
theorem of1 (r : List DC) (h : TSoks [.int .i64] r) : ∃ a : Int, r = rI1 a := by
  obtain ⟨_, _, rfl, ⟨_⟩, h1⟩ := h.cons
  obtain rfl := h1.nil
  exact ⟨_, rfl⟩
theorem ofF (r : List DC) (h : TSoks [.flt .f32] r) : ∃ a : Nat, r = K.rF a := by
  obtain ⟨_, _, rfl, ⟨_⟩, h1⟩ := h.cons
  obtain rfl := h1.nil
  exact ⟨_, rfl⟩
theorem dec {d0 d1 d2 : List DC} (s0 : TSoks [.str, .int .i64, .sl [.int .i64], .sl [.flt .f32], .sl [.flt .f32], .int .i64, .int .i64] d0) (u0 : TSoks [.int .i64, .int .i64] d1) (z0 : TSoks [.int .i64] d2) :
    K.pa6_0.dec [(true, d0), (true, d1), (false, d2)] (K.Fn6_0 K.f6_0 _ some) = some (some [rB true]) := by
  obtain ⟨_, _, rfl, ⟨_⟩, s1⟩ := s0.cons
  obtain ⟨_, _, rfl, ⟨_⟩, s2⟩ := s1.cons
  obtain ⟨_, _, rfl, t2, s3⟩ := s2.cons
  obtain ⟨_, _, rfl, t3, s4⟩ := s3.cons
  obtain ⟨_, _, rfl, t4, s5⟩ := s4.cons
  obtain ⟨_, _, rfl, ⟨_⟩, s6⟩ := s5.cons
  obtain ⟨_, _, rfl, ⟨_⟩, s7⟩ := s6.cons
  obtain rfl := s7.nil
  obtain ⟨_, _, rfl, ⟨_⟩, u1⟩ := u0.cons
  obtain ⟨_, _, rfl, ⟨_⟩, u2⟩ := u1.cons
  obtain rfl := u2.nil
  obtain ⟨_, _, rfl, ⟨_⟩, z1⟩ := z0.cons
  obtain rfl := z1.nil
  obtain ⟨r2, rfl, _, q2⟩ := t2.rows
  obtain ⟨r3, rfl, _, q3⟩ := t3.rows
  obtain ⟨r4, rfl, _, q4⟩ := t4.rows
  obtain ⟨lw, rfl⟩ := rows_of of1 r2 q2
  obtain ⟨lx, rfl⟩ := rows_of ofF r3 q3
  obtain ⟨ly, rfl⟩ := rows_of ofF r4 q4
  show some (K.f6_0 _ _ _ _ _ _ _ _ _ _ _ _) = _
  rw [K.law6]; rfl
set_option maxRecDepth 100000 in
theorem walk (v0 v1 v2 : Value) (w : World) (a0 : Arg Try.prog w 26 [.str, .int .i64, .sl [.int .i64], .sl [.flt .f32], .sl [.flt .f32], .int .i64, .int .i64] v0) (a1 : Arg Try.prog w 36 [.int .i64, .int .i64] v1) (a2 : Arg Try.prog w 3 [.int .i64] v2) :
    Calls Try.prog 6 #[v0, v1, v2] w fun e w' => e = .returned (.bool true) ∧ Below w.heap.size w w' := by
  obtain ⟨d0, s0, r0⟩ := a0
  obtain ⟨d1, s1, r1⟩ := a1
  obtain ⟨d2, s2, r2⟩ := a2
  have hd := dec s0 s1 s2
  rw [ag26] at r0
  rw [ag36] at r1
  rw [ag3] at r2
  refine law_calls (ds := [(true, d0), (true, d1), (false, d2)]) K.io6_0 (show 3 ≤ K.nt6 by decide) hd ?_
  refine ⟨rfl, fun i d v hd hv => ?_⟩
  match i with
  | 0 => simp at hd hv; subst hd; subst hv; exact r0
  | 1 => simp at hd hv; subst hd; subst hv; exact r1
  | 2 => simp at hd hv; subst hd; subst hv; exact r2
  | i + 3 => simp at hd
set_option maxRecDepth 100000 in
theorem lifted (os : Os) (started : os.Started) (H : Type) (enc : TypeId × Value → H) :
    ReturnsInHanded {} Try.checked os 6 .any (Rows.glassWithinSpec.pre6 enc Try.prog Try.f6 Rows.glassWithinRow.domain false) (Rows.glassWithinSpec.post enc Try.prog Try.f6 false true false false) := by
  refine returnsInHanded_of_change (C := Try.checked) own started (by kernel_rfl) Try.func6
    (ChangeSpec.witness6 (enc := enc) (C := Try.checked) false ⟨#[], #[.agg #[.string ⟨#[]⟩, .int .i64 0, .slice none 0 0, .slice none 0 0, .slice none 0 0, .int .i64 0, .int .i64 0], .agg #[.int .i64 0, .int .i64 0], .int .i64 0], []⟩ 8 (by kernel_rfl) (by kernel_rfl) (by kernel_rfl) (by kernel_rfl)) ?_
  intro W base args ds gs before hval0 hW hcnd _
  have hval : ∀ (j : Nat) t v, Try.f6.params[j]? = some t → args[j]? = some v → Value.okWide Try.prog W .any base t v := hval0
  have hW' := hW
  obtain ⟨p, q, hA0, hV, rfl, hfz, hnd⟩ := hW
  have hA : DataW.TrodAll enc Try.prog W 0 (fun _ => true) true Try.f6.params.toList args.toList ds p := hA0
  rw [Try.params6] at hA hval
  obtain ⟨v0, vs0, d0, ds0, p0, q0, hargs, rfl, rfl, h0, r0⟩ := trodAll_cons hA
  obtain ⟨v1, vs1, d1, ds1, p1, q1, rfl, rfl, rfl, h1, r1⟩ := trodAll_cons r0
  obtain ⟨v2, vs2, d2, ds2, p2, q2, rfl, rfl, rfl, h2, r2⟩ := trodAll_cons r1
  obtain ⟨rfl, rfl, rfl⟩ := trodAll_nil r2
  obtain rfl : args = #[v0, v1, v2] := by cases args; simp_all
  obtain ⟨rfl, rfl⟩ := trodVars_none hV
  have lt0 : ∀ x ∈ p0, x.block < W.heap.size := by obtain ⟨m, hm⟩ := h0; exact DataW.trod_lt m _ _ _ hm
  have lt1 : ∀ x ∈ p1, x.block < W.heap.size := by obtain ⟨m, hm⟩ := h1; exact DataW.trod_lt m _ _ _ hm
  have lt2 : ∀ x ∈ p2, x.block < W.heap.size := by obtain ⟨m, hm⟩ := h2; exact DataW.trod_lt m _ _ _ hm
  have k0 := arg_ok (hval 0 26 v0 rfl rfl) h0 ts26
  have k1 := arg_ok (hval 1 36 v1 rfl rfl) h1 ts36
  have k2 := arg_ok (hval 2 3 v2 rfl rfl) h2 ts3
  clear hA0 hval0
  refine (walk v0 v1 v2 W k0 k1 k2).mono fun e W' ⟨he, bel⟩ => ?_
  subst he
  exact ⟨_, rfl, _, _, _, [], _, [], hW', trodAll_mk1 (shut_bool Try.underlying4 _), (trodAll_cons_mk (Below.trod laidOut (by kernel_rfl) (of_decide_eq_true (by kernel_rfl)) h0 bel lt0) (trodAll_cons_mk (Below.trod laidOut (by kernel_rfl) (of_decide_eq_true (by kernel_rfl)) h1 bel lt1) (trodAll_cons_mk (Below.trod laidOut (by kernel_rfl) (of_decide_eq_true (by kernel_rfl)) h2 bel lt2) trodAll_mk0))), rfl, bel.frame _, fun h => by cases h⟩
theorem over : Rows.glassWithinRow.holds Try.pinned (OpenSpec.ofChange Rows.glassWithinSpec) :=
  OpenClaim.holds_of_wide 6 Try.f6 rfl rfl rfl rfl rfl rfl rfl ⟨rfl, rfl, rfl, rfl, rfl⟩ rfl rfl rfl rfl rfl (by kernel_rfl) Try.func6 (by kernel_rfl)
    (of_decide_eq_true (by kernel_rfl)) (by unfold Func.isWrapper; first | (rw [if_pos (by decide +kernel)]; kernel_rfl) | (rw [if_neg (by decide +kernel)]; exact ⟨rfl, rfl⟩))
    (fun os started H enc _ => lifted os started H enc)
theorem glassWithin_holds : Rows.GlassWithinSaid := over
#print axioms glassWithin_holds
end Go.Proofs.Ytehamglokkjipaa.Gl6
