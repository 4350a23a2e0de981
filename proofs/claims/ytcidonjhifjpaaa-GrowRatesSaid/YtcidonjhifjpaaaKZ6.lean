/- GrowRates: for every rate, seconds and thickness the statement is true. -/
import Derived.Test.YtcidonjhifjpaaaRows
import Derived.Test.YtcidonjhifjpaaaKP3
import Derived.Test.YtcidonjhifjpaaaKF1
namespace Go.Proofs.Ytcidonjhifjpaaa.Gr6
open Go.ChangeShapes Go.WideShapes Go.ChangeAt Go.RowKit Go.AM
set_option linter.unusedVariables false

theorem own : ownKnob Try.prog.godebug = none := by kernel_rfl
theorem laidOut : laidOutB Try.prog = true := by kernel_rfl

theorem ts0 : tsOf Try.prog 8 23 = some [.int .i64, .int .i64] := by kernel_rfl
theorem ts2 : tsOf Try.prog 8 3 = some [.int .i64] := by kernel_rfl
theorem ag0 : isAggT Try.prog 23 = true := by kernel_rfl
theorem ag2 : isAggT Try.prog 3 = false := by kernel_rfl

theorem TSoks.two {a b : TS} {r : List DC} (h : TSoks [a, b] r) : ∃ x y, r = [x, y] ∧ TSok a x ∧ TSok b y := by
  match r, h.1 with
  | [x, y], _ => exact ⟨x, y, rfl, h.2 0 a x rfl rfl, h.2 1 b y rfl rfl⟩
theorem TSoks.one {a : TS} {r : List DC} (h : TSoks [a] r) : ∃ x, r = [x] ∧ TSok a x := by
  match r, h.1 with
  | [x], _ => exact ⟨x, rfl, h.2 0 a x rfl rfl⟩

set_option maxRecDepth 100000 in
theorem walk (v0 v1 v2 : Value) (w : World) (a0 : Arg Try.prog w 23 [.int .i64, .int .i64] v0) (a1 : Arg Try.prog w 23 [.int .i64, .int .i64] v1) (a2 : Arg Try.prog w 3 [.int .i64] v2) :
    Calls Try.prog 6 #[v0, v1, v2] w fun e w' => e = .returned (.bool true) ∧ Below w.heap.size w w' := by
  obtain ⟨d0, s0, r0⟩ := a0
  obtain ⟨d1, s1, r1⟩ := a1
  obtain ⟨d2, s2, r2⟩ := a2
  obtain ⟨_, _, rfl, ⟨_⟩, ⟨_⟩⟩ := TSoks.two s0
  obtain ⟨_, _, rfl, ⟨_⟩, ⟨_⟩⟩ := TSoks.two s1
  obtain ⟨_, rfl, ⟨_⟩⟩ := TSoks.one s2
  rw [ag0] at r0 r1
  rw [ag2] at r2
  rename_i n1 _ n2 _ n3 _ n4 _ n5 _
  refine law_calls (ds := [(true, [.v (.int .i64 n1), .v (.int .i64 n2)]), (true, [.v (.int .i64 n3), .v (.int .i64 n4)]), (false, [.v (.int .i64 n5)])]) K.io6_0 (show 3 ≤ K.nt6 by decide) ?_ ?_
  · show some (K.f6_0 _ n1 n2 n3 n4 n5 _) = _
    rw [K.law6]; rfl
  · refine ⟨rfl, fun i d v hd hv => ?_⟩
    match i with
    | 0 => simp at hd hv; subst hd; subst hv; exact r0
    | 1 => simp at hd hv; subst hd; subst hv; exact r1
    | 2 => simp at hd hv; subst hd; subst hv; exact r2
    | i + 3 => simp at hd

set_option maxRecDepth 100000 in
theorem lifted (os : Os) (started : os.Started) (H : Type) (enc : TypeId × Value → H) :
    ReturnsInHanded {} Try.checked os 6 .any (Rows.growRatesSpec.pre6 enc Try.prog Try.f6 Rows.growRatesRow.domain false) (Rows.growRatesSpec.post enc Try.prog Try.f6 false true false false) := by
  refine returnsInHanded_of_change (C := Try.checked) own started (by kernel_rfl) Try.func6
    (ChangeSpec.witness6 (enc := enc) (C := Try.checked) false ⟨#[], #[.agg #[.int .i64 0, .int .i64 0], .agg #[.int .i64 0, .int .i64 0], .int .i64 0], []⟩ 8 (by kernel_rfl) (by kernel_rfl) (by kernel_rfl) (by kernel_rfl)) ?_
  intro W base args ds gs before hval0 hW hcnd _
  have hval : ∀ (j : Nat) t v, Try.f6.params[j]? = some t → args[j]? = some v → Value.okWide Try.prog W .any base t v := hval0
  have hW' := hW
  obtain ⟨p, q, hA0, hV, rfl, hfz, hnd⟩ := hW
  have hA : DataW.TrodAll enc Try.prog W 0 (fun _ => true) true Try.f6.params.toList args.toList ds p := hA0
  rw [Try.params6] at hA hval
  obtain ⟨v0, vs0, d0, ds0, p0, q0, hargs, rfl, rfl, h0, r0⟩ := trodAll_cons hA
  obtain ⟨v1, vs1, d1, ds1, p1, q1, rfl, rfl, rfl, h1, r1⟩ := trodAll_cons r0
  obtain ⟨v2, vs2, d2, ds2, p2, q2, rfl, rfl, rfl, h2, r2⟩ := trodAll_cons r1
  obtain ⟨rfl, rfl, rfl⟩ := trodAll_nil r2
  obtain rfl : args = #[v0, v1, v2] := by cases args; simp_all
  obtain ⟨rfl, rfl⟩ := trodVars_none hV
  have lt0 : ∀ x ∈ p0, x.block < W.heap.size := by obtain ⟨m, hm⟩ := h0; exact DataW.trod_lt m _ _ _ hm
  have lt1 : ∀ x ∈ p1, x.block < W.heap.size := by obtain ⟨m, hm⟩ := h1; exact DataW.trod_lt m _ _ _ hm
  have lt2 : ∀ x ∈ p2, x.block < W.heap.size := by obtain ⟨m, hm⟩ := h2; exact DataW.trod_lt m _ _ _ hm
  have k0 := arg_ok (hval 0 23 v0 rfl rfl) h0 ts0
  have k1 := arg_ok (hval 1 23 v1 rfl rfl) h1 ts0
  have k2 := arg_ok (hval 2 3 v2 rfl rfl) h2 ts2
  clear hA0 hval0
  refine (walk v0 v1 v2 W k0 k1 k2).mono fun e W' ⟨he, bel⟩ => ?_
  subst he
  exact ⟨_, rfl, _, _, _, [], _, [], hW', trodAll_mk1 (shut_bool Try.underlying4 _),
    (trodAll_cons_mk (Below.trod laidOut (by kernel_rfl) (of_decide_eq_true (by kernel_rfl)) h0 bel lt0)
    (trodAll_cons_mk (Below.trod laidOut (by kernel_rfl) (of_decide_eq_true (by kernel_rfl)) h1 bel lt1)
    (trodAll_cons_mk (Below.trod laidOut (by kernel_rfl) (of_decide_eq_true (by kernel_rfl)) h2 bel lt2) trodAll_mk0))), rfl, bel.frame _, fun h => by cases h⟩

theorem over : Rows.growRatesRow.holds Try.pinned (OpenSpec.ofChange Rows.growRatesSpec) :=
  OpenClaim.holds_of_wide 6 Try.f6 rfl rfl rfl rfl rfl rfl rfl ⟨rfl, rfl, rfl, rfl, rfl⟩ rfl rfl rfl rfl rfl (by kernel_rfl) Try.func6 (by kernel_rfl)
    (of_decide_eq_true (by kernel_rfl)) (by unfold Func.isWrapper; first | (rw [if_pos (by decide +kernel)]; kernel_rfl) | (rw [if_neg (by decide +kernel)]; exact ⟨rfl, rfl⟩))
    (fun os started H enc _ => lifted os started H enc)

theorem growRates_holds : Rows.GrowRatesSaid := over
#print axioms growRates_holds
end Go.Proofs.Ytcidonjhifjpaaa.Gr6
