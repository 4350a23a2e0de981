/- MeterReads: for every input the statement is true, and the input reads as it did. No condition. -/
import Derived.Test.YtjifpcjmnhnpkaaRows
import Derived.Test.YtjifpcjmnhnpkaaML5
import Derived.Test.YtjifpcjmnhnpkaaKF1
namespace Go.Proofs.Ytjifpcjmnhnpkaa.Mt5
open Go.ChangeShapes Go.WideShapes Go.ChangeAt Go.RowKit Go.AM
set_option linter.unusedVariables false

theorem own : ownKnob Try.prog.godebug = none := by kernel_rfl
theorem laidOut : laidOutB Try.prog = true := by kernel_rfl

theorem ts57 : tsOf Try.prog 8 57 = some [.str, .int .i64, .int .i64, .int .i64, .int .i64, .int .i64, .int .i64, .int .i64, .int .i64, .int .i64, .int .i64, .int .i64, .int .i64, .int .i64, .int .i64, .int .i64, .int .i64, .int .i64, .int .i64] := by kernel_rfl
theorem ag57 : isAggT Try.prog 57 = true := by kernel_rfl

theorem str_le {d : DC} (h : TSok .str d) : ∃ s : ByteArray, d = .v (.string s) ∧ s.size ≤ 9223372036854775807 := by
  cases h with
  | str hs => exact ⟨_, rfl, Nat.le_trans hs (by decide)⟩
theorem dec {d0 : List DC} (s0_0 : TSoks [.str, .int .i64, .int .i64, .int .i64, .int .i64, .int .i64, .int .i64, .int .i64, .int .i64, .int .i64, .int .i64, .int .i64, .int .i64, .int .i64, .int .i64, .int .i64, .int .i64, .int .i64, .int .i64] d0) :
    K.pa5_0.dec [(true, d0)] (K.Fn5_0 K.f5_0 _ some) = some (some [rB true]) := by
  obtain ⟨_, _, rfl, t0, s0_1⟩ := s0_0.cons
  obtain ⟨_, rfl, hs0⟩ := str_le t0
  obtain ⟨_, _, rfl, ⟨_⟩, s0_2⟩ := s0_1.cons
  obtain ⟨_, _, rfl, ⟨_⟩, s0_3⟩ := s0_2.cons
  obtain ⟨_, _, rfl, ⟨_⟩, s0_4⟩ := s0_3.cons
  obtain ⟨_, _, rfl, ⟨_⟩, s0_5⟩ := s0_4.cons
  obtain ⟨_, _, rfl, ⟨_⟩, s0_6⟩ := s0_5.cons
  obtain ⟨_, _, rfl, ⟨_⟩, s0_7⟩ := s0_6.cons
  obtain ⟨_, _, rfl, ⟨_⟩, s0_8⟩ := s0_7.cons
  obtain ⟨_, _, rfl, ⟨_⟩, s0_9⟩ := s0_8.cons
  obtain ⟨_, _, rfl, ⟨_⟩, s0_10⟩ := s0_9.cons
  obtain ⟨_, _, rfl, ⟨_⟩, s0_11⟩ := s0_10.cons
  obtain ⟨_, _, rfl, ⟨_⟩, s0_12⟩ := s0_11.cons
  obtain ⟨_, _, rfl, ⟨_⟩, s0_13⟩ := s0_12.cons
  obtain ⟨_, _, rfl, ⟨_⟩, s0_14⟩ := s0_13.cons
  obtain ⟨_, _, rfl, ⟨_⟩, s0_15⟩ := s0_14.cons
  obtain ⟨_, _, rfl, ⟨_⟩, s0_16⟩ := s0_15.cons
  obtain ⟨_, _, rfl, ⟨_⟩, s0_17⟩ := s0_16.cons
  obtain ⟨_, _, rfl, ⟨_⟩, s0_18⟩ := s0_17.cons
  obtain ⟨_, _, rfl, ⟨_⟩, s0_19⟩ := s0_18.cons
  obtain rfl := s0_19.nil
  show some (K.f5_0 _ _ _ _ _ _ _ _ _ _ _ _ _ _ _ _ _ _ _ _ _) = _
  rw [K.law5 hs0]; rfl

set_option maxRecDepth 100000 in
theorem walk (v0 : Value) (w : World) (a0 : Arg Try.prog w 57 [.str, .int .i64, .int .i64, .int .i64, .int .i64, .int .i64, .int .i64, .int .i64, .int .i64, .int .i64, .int .i64, .int .i64, .int .i64, .int .i64, .int .i64, .int .i64, .int .i64, .int .i64, .int .i64] v0) :
    Calls Try.prog 5 #[v0] w fun e w' => e = .returned (.bool true) ∧ Below w.heap.size w w' := by
  obtain ⟨d0, s0, r0⟩ := a0
  have hd := dec s0
  rw [ag57] at r0
  refine law_calls (ds := [(true, d0)]) K.io5_0 (show 1 ≤ K.nt5 by decide) hd ?_
  refine ⟨rfl, fun i d v hd hv => ?_⟩
  match i with
  | 0 => simp at hd hv; subst hd; subst hv; exact r0
  | i + 1 => simp at hd

set_option maxRecDepth 100000 in
theorem lifted (os : Os) (started : os.Started) (H : Type) (enc : TypeId × Value → H) :
    ReturnsInHanded {} Try.checked os 5 .any (Rows.meterReadsSpec.pre6 enc Try.prog Try.f5 Rows.meterReadsRow.domain false) (Rows.meterReadsSpec.post enc Try.prog Try.f5 false true false false) := by
  refine returnsInHanded_of_change (C := Try.checked) own started (by kernel_rfl) Try.func5
    (ChangeSpec.witness6 (enc := enc) (C := Try.checked) false ⟨#[], #[.agg #[.string ⟨#[]⟩, .int .i64 0, .int .i64 0, .int .i64 0, .int .i64 0, .int .i64 0, .int .i64 0, .int .i64 0, .int .i64 0, .int .i64 0, .int .i64 0, .int .i64 0, .int .i64 0, .int .i64 0, .int .i64 0, .int .i64 0, .int .i64 0, .int .i64 0, .int .i64 0]], []⟩ 8 (by kernel_rfl) (by kernel_rfl) (by kernel_rfl) (by kernel_rfl)) ?_
  intro W base args ds gs before hval0 hW hcnd _
  have hval : ∀ (j : Nat) t v, Try.f5.params[j]? = some t → args[j]? = some v → Value.okWide Try.prog W .any base t v := hval0
  have hW' := hW
  obtain ⟨p, q, hA0, hV, rfl, hfz, hnd⟩ := hW
  have hA : DataW.TrodAll enc Try.prog W 0 (fun _ => true) true Try.f5.params.toList args.toList ds p := hA0
  rw [Try.params5] at hA hval
  obtain ⟨v0, vs0, d0, ds0, p0, q0, hargs, rfl, rfl, h0, r0⟩ := trodAll_cons hA
  obtain ⟨rfl, rfl, rfl⟩ := trodAll_nil r0
  obtain rfl : args = #[v0] := by cases args; simp_all
  obtain ⟨rfl, rfl⟩ := trodVars_none hV
  have lt0 : ∀ x ∈ p0, x.block < W.heap.size := by obtain ⟨m, hm⟩ := h0; exact DataW.trod_lt m _ _ _ hm
  have k0 := arg_ok (hval 0 57 v0 rfl rfl) h0 ts57
  clear hA0 hval0
  refine (walk v0 W k0).mono fun e W' ⟨he, bel⟩ => ?_
  subst he
  exact ⟨_, rfl, _, _, _, [], _, [], hW', trodAll_mk1 (shut_bool Try.underlying4 _), (trodAll_cons_mk (Below.trod laidOut (by kernel_rfl) (of_decide_eq_true (by kernel_rfl)) h0 bel lt0) trodAll_mk0), rfl, bel.frame _, fun h => by cases h⟩

theorem over : Rows.meterReadsRow.holds Try.pinned (OpenSpec.ofChange Rows.meterReadsSpec) :=
  OpenClaim.holds_of_wide 5 Try.f5 rfl rfl rfl rfl rfl rfl rfl ⟨rfl, rfl, rfl, rfl, rfl⟩ rfl rfl rfl rfl rfl (by kernel_rfl) Try.func5 (by kernel_rfl)
    (of_decide_eq_true (by kernel_rfl)) (by unfold Func.isWrapper; first | (rw [if_pos (by decide +kernel)]; kernel_rfl) | (rw [if_neg (by decide +kernel)]; exact ⟨rfl, rfl⟩))
    (fun os started H enc _ => lifted os started H enc)

theorem meterReads_holds : Rows.MeterReadsSaid := over
#print axioms meterReads_holds
end Go.Proofs.Ytjifpcjmnhnpkaa.Mt5
