/- MeterLocks: for every input the statement is true, and the input reads as it did. No condition. -/
import Derived.Test.YtjifpcjmnhnpkaaRows
import Derived.Test.YtjifpcjmnhnpkaaMQ13
import Derived.Test.YtjifpcjmnhnpkaaKF1
namespace Go.Proofs.Ytjifpcjmnhnpkaa.Mt13
open Go.ChangeShapes Go.WideShapes Go.ChangeAt Go.RowKit Go.AM
set_option linter.unusedVariables false

theorem own : ownKnob Try.prog.godebug = none := by kernel_rfl
theorem laidOut : laidOutB Try.prog = true := by kernel_rfl

theorem ts22 : tsOf Try.prog 8 22 = some [.sl [.flt .f32]] := by kernel_rfl
theorem ag22 : isAggT Try.prog 22 = false := by kernel_rfl
theorem ts3 : tsOf Try.prog 8 3 = some [.int .i64] := by kernel_rfl
theorem ag3 : isAggT Try.prog 3 = false := by kernel_rfl

theorem ofF (r : List DC) (h : TSoks [.flt .f32] r) : ∃ a : Nat, r = K.rF3 a := by
  obtain ⟨_, _, rfl, ⟨_⟩, h1⟩ := h.cons
  obtain rfl := h1.nil
  exact ⟨_, rfl⟩
theorem dec {d0 d1 d2 : List DC} (s0 : TSoks [.sl [.flt .f32]] d0) (s1 : TSoks [.sl [.flt .f32]] d1) (s2 : TSoks [.int .i64] d2) :
    K.pa13_0.dec [(false, d0), (false, d1), (false, d2)] (K.Fn13_0 K.f13_0 _ some) = some (some [rB true]) := by
  obtain ⟨_, _, rfl, t0, u0⟩ := s0.cons
  obtain rfl := u0.nil
  obtain ⟨_, _, rfl, t1, u1⟩ := s1.cons
  obtain rfl := u1.nil
  obtain ⟨_, _, rfl, ⟨_⟩, u2⟩ := s2.cons
  obtain rfl := u2.nil
  obtain ⟨r0, rfl, _, q0⟩ := t0.rows
  obtain ⟨l0, rfl⟩ := rows_of ofF r0 q0
  obtain ⟨r1, rfl, _, q1⟩ := t1.rows
  obtain ⟨l1, rfl⟩ := rows_of ofF r1 q1
  show some (K.f13_0 _ _ _ _ _) = _
  rw [K.law13]; rfl

set_option maxRecDepth 100000 in
theorem walk (v0 v1 v2 : Value) (w : World) (a0 : Arg Try.prog w 22 [.sl [.flt .f32]] v0) (a1 : Arg Try.prog w 22 [.sl [.flt .f32]] v1) (a2 : Arg Try.prog w 3 [.int .i64] v2) :
    Calls Try.prog 13 #[v0, v1, v2] w fun e w' => e = .returned (.bool true) ∧ Below w.heap.size w w' := by
  obtain ⟨d0, s0, r0⟩ := a0
  obtain ⟨d1, s1, r1⟩ := a1
  obtain ⟨d2, s2, r2⟩ := a2
  have hd := dec s0 s1 s2
  rw [ag22] at r0
  rw [ag22] at r1
  rw [ag3] at r2
  refine law_calls (ds := [(false, d0), (false, d1), (false, d2)]) K.io13_0 (show 3 ≤ K.nt13 by decide) hd ?_
  refine ⟨rfl, fun i d v hd hv => ?_⟩
  match i with
  | 0 => simp at hd hv; subst hd; subst hv; exact r0
  | 1 => simp at hd hv; subst hd; subst hv; exact r1
  | 2 => simp at hd hv; subst hd; subst hv; exact r2
  | i + 3 => simp at hd

set_option maxRecDepth 100000 in
theorem lifted (os : Os) (started : os.Started) (H : Type) (enc : TypeId × Value → H) :
    ReturnsInHanded {} Try.checked os 13 .any (Rows.meterLocksSpec.pre6 enc Try.prog Try.f13 Rows.meterLocksRow.domain false) (Rows.meterLocksSpec.post enc Try.prog Try.f13 false true false false) := by
  refine returnsInHanded_of_change (C := Try.checked) own started (by kernel_rfl) Try.func13
    (ChangeSpec.witness6 (enc := enc) (C := Try.checked) false ⟨#[], #[.slice none 0 0, .slice none 0 0, .int .i64 0], []⟩ 8 (by kernel_rfl) (by kernel_rfl) (by kernel_rfl) (by kernel_rfl)) ?_
  intro W base args ds gs before hval0 hW hcnd _
  have hval : ∀ (j : Nat) t v, Try.f13.params[j]? = some t → args[j]? = some v → Value.okWide Try.prog W .any base t v := hval0
  have hW' := hW
  obtain ⟨p, q, hA0, hV, rfl, hfz, hnd⟩ := hW
  have hA : DataW.TrodAll enc Try.prog W 0 (fun _ => true) true Try.f13.params.toList args.toList ds p := hA0
  rw [Try.params13] at hA hval
  obtain ⟨v0, vs0, d0, ds0, p0, q0, hargs, rfl, rfl, h0, r0⟩ := trodAll_cons hA
  obtain ⟨v1, vs1, d1, ds1, p1, q1, rfl, rfl, rfl, h1, r1⟩ := trodAll_cons r0
  obtain ⟨v2, vs2, d2, ds2, p2, q2, rfl, rfl, rfl, h2, r2⟩ := trodAll_cons r1
  obtain ⟨rfl, rfl, rfl⟩ := trodAll_nil r2
  obtain rfl : args = #[v0, v1, v2] := by cases args; simp_all
  obtain ⟨rfl, rfl⟩ := trodVars_none hV
  have lt0 : ∀ x ∈ p0, x.block < W.heap.size := by obtain ⟨m, hm⟩ := h0; exact DataW.trod_lt m _ _ _ hm
  have lt1 : ∀ x ∈ p1, x.block < W.heap.size := by obtain ⟨m, hm⟩ := h1; exact DataW.trod_lt m _ _ _ hm
  have lt2 : ∀ x ∈ p2, x.block < W.heap.size := by obtain ⟨m, hm⟩ := h2; exact DataW.trod_lt m _ _ _ hm
  have k0 := arg_ok (hval 0 22 v0 rfl rfl) h0 ts22
  have k1 := arg_ok (hval 1 22 v1 rfl rfl) h1 ts22
  have k2 := arg_ok (hval 2 3 v2 rfl rfl) h2 ts3
  clear hA0 hval0
  refine (walk v0 v1 v2 W k0 k1 k2).mono fun e W' ⟨he, bel⟩ => ?_
  subst he
  exact ⟨_, rfl, _, _, _, [], _, [], hW', trodAll_mk1 (shut_bool Try.underlying4 _), (trodAll_cons_mk (Below.trod laidOut (by kernel_rfl) (of_decide_eq_true (by kernel_rfl)) h0 bel lt0) (trodAll_cons_mk (Below.trod laidOut (by kernel_rfl) (of_decide_eq_true (by kernel_rfl)) h1 bel lt1) (trodAll_cons_mk (Below.trod laidOut (by kernel_rfl) (of_decide_eq_true (by kernel_rfl)) h2 bel lt2) trodAll_mk0))), rfl, bel.frame _, fun h => by cases h⟩

theorem over : Rows.meterLocksRow.holds Try.pinned (OpenSpec.ofChange Rows.meterLocksSpec) :=
  OpenClaim.holds_of_wide 13 Try.f13 rfl rfl rfl rfl rfl rfl rfl ⟨rfl, rfl, rfl, rfl, rfl⟩ rfl rfl rfl rfl rfl (by kernel_rfl) Try.func13 (by kernel_rfl)
    (of_decide_eq_true (by kernel_rfl)) (by unfold Func.isWrapper; first | (rw [if_pos (by decide +kernel)]; kernel_rfl) | (rw [if_neg (by decide +kernel)]; exact ⟨rfl, rfl⟩))
    (fun os started H enc _ => lifted os started H enc)

theorem meterLocks_holds : Rows.MeterLocksSaid := over
#print axioms meterLocks_holds
end Go.Proofs.Ytjifpcjmnhnpkaa.Mt13
