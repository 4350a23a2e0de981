/- GlassBetween: for every input the statement is true, and the input reads as it did. No condition. -/
import Derived.Test.YtehamglokkjipaaGreatRows
import Derived.Test.YtehamglokkjipaaGreatQGQ6
import Derived.Test.YtehamglokkjipaaGreatKF1
namespace Go.Proofs.YtehamglokkjipaaGreat.Gq6
open Go.ChangeShapes Go.WideShapes Go.ChangeAt Go.RowKit Go.AM
set_option linter.unusedVariables false
theorem own : ownKnob Tryz.prog.godebug = none := by kernel_rfl
theorem laidOut : laidOutB Tryz.prog = true := by kernel_rfl
theorem ts38 : tsOf Tryz.prog 8 38 = some [.str, .int .i64, .sl [.int .i64], .sl [.flt .f32], .sl [.flt .f32], .int .i64, .int .i64] := by kernel_rfl
theorem ag38 : isAggT Tryz.prog 38 = true := by kernel_rfl
theorem ts49 : tsOf Tryz.prog 8 49 = some [.int .i64, .int .i64] := by kernel_rfl
theorem ag49 : isAggT Tryz.prog 49 = true := by kernel_rfl
theorem of1 (r : List DC) (h : TSoks [.int .i64] r) : ∃ a : Int, r = rI1 a := by
  obtain ⟨_, _, rfl, ⟨_⟩, h1⟩ := h.cons
  obtain rfl := h1.nil
  exact ⟨_, rfl⟩
theorem ofF (r : List DC) (h : TSoks [.flt .f32] r) : ∃ a : Nat, r = K.rF a := by
  obtain ⟨_, _, rfl, ⟨_⟩, h1⟩ := h.cons
  obtain rfl := h1.nil
  exact ⟨_, rfl⟩
theorem dec {d0 d1 : List DC} (s0 : TSoks [.str, .int .i64, .sl [.int .i64], .sl [.flt .f32], .sl [.flt .f32], .int .i64, .int .i64] d0) (u0 : TSoks [.int .i64, .int .i64] d1) :
    K.pa6_0.dec [(true, d0), (true, d1)] (K.Fn6_0 K.f6_0 _ some) = some (some [rB true]) := by
  obtain ⟨_, _, rfl, ⟨_⟩, s1⟩ := s0.cons
  obtain ⟨_, _, rfl, ⟨_⟩, s2⟩ := s1.cons
  obtain ⟨_, _, rfl, t2, s3⟩ := s2.cons
  obtain ⟨_, _, rfl, t3, s4⟩ := s3.cons
  obtain ⟨_, _, rfl, t4, s5⟩ := s4.cons
  obtain ⟨_, _, rfl, ⟨_⟩, s6⟩ := s5.cons
  obtain ⟨_, _, rfl, ⟨_⟩, s7⟩ := s6.cons
  obtain rfl := s7.nil
  obtain ⟨_, _, rfl, ⟨_⟩, u1⟩ := u0.cons
  obtain ⟨_, _, rfl, ⟨_⟩, u2⟩ := u1.cons
  obtain rfl := u2.nil
  obtain ⟨r2, rfl, _, q2⟩ := t2.rows
  obtain ⟨r3, rfl, _, q3⟩ := t3.rows
  obtain ⟨r4, rfl, _, q4⟩ := t4.rows
  obtain ⟨lw, rfl⟩ := rows_of of1 r2 q2
  obtain ⟨lx, rfl⟩ := rows_of ofF r3 q3
  obtain ⟨ly, rfl⟩ := rows_of ofF r4 q4
  show some (K.f6_0 _ _ _ _ _ _ _ _ _ _ _) = _
  rw [K.law6]; rfl
set_option maxRecDepth 100000 in
theorem walk (v0 v1 : Value) (w : World) (a0 : Arg Tryz.prog w 38 [.str, .int .i64, .sl [.int .i64], .sl [.flt .f32], .sl [.flt .f32], .int .i64, .int .i64] v0) (a1 : Arg Tryz.prog w 49 [.int .i64, .int .i64] v1) :
    Calls Tryz.prog 6 #[v0, v1] w fun e w' => e = .returned (.bool true) ∧ Below w.heap.size w w' := by
  obtain ⟨d0, s0, r0⟩ := a0
  obtain ⟨d1, s1, r1⟩ := a1
  have hd := dec s0 s1
  rw [ag38] at r0
  rw [ag49] at r1
  refine law_calls (ds := [(true, d0), (true, d1)]) K.io6_0 (show 2 ≤ K.nt6 by decide) hd ?_
  refine ⟨rfl, fun i d v hd hv => ?_⟩
  match i with
  | 0 => simp at hd hv; subst hd; subst hv; exact r0
  | 1 => simp at hd hv; subst hd; subst hv; exact r1
  | i + 2 => simp at hd
set_option maxRecDepth 100000 in
theorem lifted (os : Os) (started : os.Started) (H : Type) (enc : TypeId × Value → H) :
    ReturnsInHanded {} Tryz.checked os 6 .any (Rows.glassBetweenSpec.pre6 enc Tryz.prog Tryz.f6 Rows.glassBetweenRow.domain false) (Rows.glassBetweenSpec.post enc Tryz.prog Tryz.f6 false true false false) := by
  refine returnsInHanded_of_change (C := Tryz.checked) own started (by kernel_rfl) Tryz.func6
    (ChangeSpec.witness6 (enc := enc) (C := Tryz.checked) false ⟨#[], #[.agg #[.string ⟨#[]⟩, .int .i64 0, .slice none 0 0, .slice none 0 0, .slice none 0 0, .int .i64 0, .int .i64 0], .agg #[.int .i64 0, .int .i64 0]], []⟩ 8 (by kernel_rfl) (by kernel_rfl) (by kernel_rfl) (by kernel_rfl)) ?_
  intro W base args ds gs before hval0 hW hcnd _
  have hval : ∀ (j : Nat) t v, Tryz.f6.params[j]? = some t → args[j]? = some v → Value.okWide Tryz.prog W .any base t v := hval0
  have hW' := hW
  obtain ⟨p, q, hA0, hV, rfl, hfz, hnd⟩ := hW
  have hA : DataW.TrodAll enc Tryz.prog W 0 (fun _ => true) true Tryz.f6.params.toList args.toList ds p := hA0
  rw [Tryz.params6] at hA hval
  obtain ⟨v0, vs0, d0, ds0, p0, q0, hargs, rfl, rfl, h0, r0⟩ := trodAll_cons hA
  obtain ⟨v1, vs1, d1, ds1, p1, q1, rfl, rfl, rfl, h1, r1⟩ := trodAll_cons r0
  obtain ⟨rfl, rfl, rfl⟩ := trodAll_nil r1
  obtain rfl : args = #[v0, v1] := by cases args; simp_all
  obtain ⟨rfl, rfl⟩ := trodVars_none hV
  have lt0 : ∀ x ∈ p0, x.block < W.heap.size := by obtain ⟨m, hm⟩ := h0; exact DataW.trod_lt m _ _ _ hm
  have lt1 : ∀ x ∈ p1, x.block < W.heap.size := by obtain ⟨m, hm⟩ := h1; exact DataW.trod_lt m _ _ _ hm
  have k0 := arg_ok (hval 0 38 v0 rfl rfl) h0 ts38
  have k1 := arg_ok (hval 1 49 v1 rfl rfl) h1 ts49
  clear hA0 hval0
  refine (walk v0 v1 W k0 k1).mono fun e W' ⟨he, bel⟩ => ?_
  subst he
  exact ⟨_, rfl, _, _, _, [], _, [], hW', trodAll_mk1 (shut_bool Tryz.underlying4 _), (trodAll_cons_mk (Below.trod laidOut (by kernel_rfl) (of_decide_eq_true (by kernel_rfl)) h0 bel lt0) (trodAll_cons_mk (Below.trod laidOut (by kernel_rfl) (of_decide_eq_true (by kernel_rfl)) h1 bel lt1) trodAll_mk0)), rfl, bel.frame _, fun h => by cases h⟩
theorem over : Rows.glassBetweenRow.holds Tryz.pinned (OpenSpec.ofChange Rows.glassBetweenSpec) :=
  OpenClaim.holds_of_wide 6 Tryz.f6 rfl rfl rfl rfl rfl rfl rfl ⟨rfl, rfl, rfl, rfl, rfl⟩ rfl rfl rfl rfl rfl (by kernel_rfl) Tryz.func6 (by kernel_rfl)
    (of_decide_eq_true (by kernel_rfl)) (by unfold Func.isWrapper; first | (rw [if_pos (by decide +kernel)]; kernel_rfl) | (rw [if_neg (by decide +kernel)]; exact ⟨rfl, rfl⟩))
    (fun os started H enc _ => lifted os started H enc)
theorem glassBetween_holds : Rows.GlassBetweenSaid := over
#print axioms glassBetween_holds
end Go.Proofs.YtehamglokkjipaaGreat.Gq6
