/- GlassIndices: for every input the statement is true, and the input reads as it did. No condition. -/
import Derived.Test.YtehamglokkjipaaGreatRows
import Derived.Test.YtehamglokkjipaaGreatQGQ4
import Derived.Test.YtehamglokkjipaaGreatKF1
namespace Go.Proofs.YtehamglokkjipaaGreat.Gq4
open Go.ChangeShapes Go.WideShapes Go.ChangeAt Go.RowKit Go.AM
set_option linter.unusedVariables false
theorem own : ownKnob Tryz.prog.godebug = none := by kernel_rfl
theorem laidOut : laidOutB Tryz.prog = true := by kernel_rfl
theorem ts38 : tsOf Tryz.prog 8 38 = some [.str, .int .i64, .sl [.int .i64], .sl [.flt .f32], .sl [.flt .f32], .int .i64, .int .i64] := by kernel_rfl
theorem ag38 : isAggT Tryz.prog 38 = true := by kernel_rfl
theorem ts3 : tsOf Tryz.prog 8 3 = some [.int .i64] := by kernel_rfl
theorem ag3 : isAggT Tryz.prog 3 = false := by kernel_rfl
theorem of1 (r : List DC) (h : TSoks [.int .i64] r) : ∃ a : Int, r = rI1 a := by
  obtain ⟨_, _, rfl, ⟨_⟩, h1⟩ := h.cons
  obtain rfl := h1.nil
  exact ⟨_, rfl⟩
theorem ofF (r : List DC) (h : TSoks [.flt .f32] r) : ∃ a : Nat, r = K.rF a := by
  obtain ⟨_, _, rfl, ⟨_⟩, h1⟩ := h.cons
  obtain rfl := h1.nil
  exact ⟨_, rfl⟩
theorem dec {d0 d1 : List DC} (s0 : TSoks [.str, .int .i64, .sl [.int .i64], .sl [.flt .f32], .sl [.flt .f32], .int .i64, .int .i64] d0) (s1 : TSoks [.int .i64] d1) :
    K.pa4_0.dec [(true, d0), (false, d1)] (K.Fn4_0 K.f4_0 _ some) = some (some [rB true]) := by
  obtain ⟨_, _, rfl, ⟨_⟩, s0_0⟩ := s0.cons
  obtain ⟨_, _, rfl, ⟨_⟩, s0_1⟩ := s0_0.cons
  obtain ⟨_, _, rfl, t0_2, s0_2⟩ := s0_1.cons
  obtain ⟨_, _, rfl, t0_3, s0_3⟩ := s0_2.cons
  obtain ⟨_, _, rfl, t0_4, s0_4⟩ := s0_3.cons
  obtain ⟨_, _, rfl, ⟨_⟩, s0_5⟩ := s0_4.cons
  obtain ⟨_, _, rfl, ⟨_⟩, s0_6⟩ := s0_5.cons
  obtain rfl := s0_6.nil
  obtain ⟨_, _, rfl, ⟨_⟩, u1⟩ := s1.cons
  obtain rfl := u1.nil
  obtain ⟨r0_2, rfl, _, q0_2⟩ := t0_2.rows
  obtain ⟨r0_3, rfl, _, q0_3⟩ := t0_3.rows
  obtain ⟨r0_4, rfl, _, q0_4⟩ := t0_4.rows
  obtain ⟨lw0, rfl⟩ := rows_of of1 r0_2 q0_2
  obtain ⟨lx0, rfl⟩ := rows_of ofF r0_3 q0_3
  obtain ⟨ly0, rfl⟩ := rows_of ofF r0_4 q0_4
  show some (K.f4_0 _ _ _ _ _ _ _ _ _ _) = _
  rw [K.law4]; rfl
set_option maxRecDepth 100000 in
theorem walk (v0 v1 : Value) (w : World) (a0 : Arg Tryz.prog w 38 [.str, .int .i64, .sl [.int .i64], .sl [.flt .f32], .sl [.flt .f32], .int .i64, .int .i64] v0) (a1 : Arg Tryz.prog w 3 [.int .i64] v1) :
    Calls Tryz.prog 4 #[v0, v1] w fun e w' => e = .returned (.bool true) ∧ Below w.heap.size w w' := by
  obtain ⟨d0, s0, r0⟩ := a0
  obtain ⟨d1, s1, r1⟩ := a1
  have hd := dec s0 s1
  rw [ag38] at r0
  rw [ag3] at r1
  refine law_calls (ds := [(true, d0), (false, d1)]) K.io4_0 (show 2 ≤ K.nt4 by decide) hd ?_
  refine ⟨rfl, fun i d v hd hv => ?_⟩
  match i with
  | 0 => simp at hd hv; subst hd; subst hv; exact r0
  | 1 => simp at hd hv; subst hd; subst hv; exact r1
  | i + 2 => simp at hd
set_option maxRecDepth 100000 in
theorem lifted (os : Os) (started : os.Started) (H : Type) (enc : TypeId × Value → H) :
    ReturnsInHanded {} Tryz.checked os 4 .any (Rows.glassIndicesSpec.pre6 enc Tryz.prog Tryz.f4 Rows.glassIndicesRow.domain false) (Rows.glassIndicesSpec.post enc Tryz.prog Tryz.f4 false true false false) := by
  refine returnsInHanded_of_change (C := Tryz.checked) own started (by kernel_rfl) Tryz.func4
    (ChangeSpec.witness6 (enc := enc) (C := Tryz.checked) false ⟨#[], #[.agg #[.string ⟨#[]⟩, .int .i64 0, .slice none 0 0, .slice none 0 0, .slice none 0 0, .int .i64 0, .int .i64 0], .int .i64 0], []⟩ 8 (by kernel_rfl) (by kernel_rfl) (by kernel_rfl) (by kernel_rfl)) ?_
  intro W base args ds gs before hval0 hW hcnd _
  have hval : ∀ (j : Nat) t v, Tryz.f4.params[j]? = some t → args[j]? = some v → Value.okWide Tryz.prog W .any base t v := hval0
  have hW' := hW
  obtain ⟨p, q, hA0, hV, rfl, hfz, hnd⟩ := hW
  have hA : DataW.TrodAll enc Tryz.prog W 0 (fun _ => true) true Tryz.f4.params.toList args.toList ds p := hA0
  rw [Tryz.params4] at hA hval
  obtain ⟨v0, vs0, d0, ds0, p0, q0, hargs, rfl, rfl, h0, r0⟩ := trodAll_cons hA
  obtain ⟨v1, vs1, d1, ds1, p1, q1, rfl, rfl, rfl, h1, r1⟩ := trodAll_cons r0
  obtain ⟨rfl, rfl, rfl⟩ := trodAll_nil r1
  obtain rfl : args = #[v0, v1] := by cases args; simp_all
  obtain ⟨rfl, rfl⟩ := trodVars_none hV
  have lt0 : ∀ x ∈ p0, x.block < W.heap.size := by obtain ⟨m, hm⟩ := h0; exact DataW.trod_lt m _ _ _ hm
  have lt1 : ∀ x ∈ p1, x.block < W.heap.size := by obtain ⟨m, hm⟩ := h1; exact DataW.trod_lt m _ _ _ hm
  have k0 := arg_ok (hval 0 38 v0 rfl rfl) h0 ts38
  have k1 := arg_ok (hval 1 3 v1 rfl rfl) h1 ts3
  clear hA0 hval0
  refine (walk v0 v1 W k0 k1).mono fun e W' ⟨he, bel⟩ => ?_
  subst he
  exact ⟨_, rfl, _, _, _, [], _, [], hW', trodAll_mk1 (shut_bool Tryz.underlying4 _), (trodAll_cons_mk (Below.trod laidOut (by kernel_rfl) (of_decide_eq_true (by kernel_rfl)) h0 bel lt0) (trodAll_cons_mk (Below.trod laidOut (by kernel_rfl) (of_decide_eq_true (by kernel_rfl)) h1 bel lt1) trodAll_mk0)), rfl, bel.frame _, fun h => by cases h⟩
theorem over : Rows.glassIndicesRow.holds Tryz.pinned (OpenSpec.ofChange Rows.glassIndicesSpec) :=
  OpenClaim.holds_of_wide 4 Tryz.f4 rfl rfl rfl rfl rfl rfl rfl ⟨rfl, rfl, rfl, rfl, rfl⟩ rfl rfl rfl rfl rfl (by kernel_rfl) Tryz.func4 (by kernel_rfl)
    (of_decide_eq_true (by kernel_rfl)) (by unfold Func.isWrapper; first | (rw [if_pos (by decide +kernel)]; kernel_rfl) | (rw [if_neg (by decide +kernel)]; exact ⟨rfl, rfl⟩))
    (fun os started H enc _ => lifted os started H enc)
theorem glassIndices_holds : Rows.GlassIndicesSaid := over
#print axioms glassIndices_holds
end Go.Proofs.YtehamglokkjipaaGreat.Gq4
