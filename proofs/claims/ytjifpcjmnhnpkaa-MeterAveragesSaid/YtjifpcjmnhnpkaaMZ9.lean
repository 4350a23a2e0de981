/- MeterAverages: for every input the statement is true, and the input reads as it did. No condition. -/
import Derived.Test.YtjifpcjmnhnpkaaRows
import Derived.Test.YtjifpcjmnhnpkaaML9
import Derived.Test.YtjifpcjmnhnpkaaKF1
namespace Go.Proofs.Ytjifpcjmnhnpkaa.Mt9
open Go.ChangeShapes Go.WideShapes Go.ChangeAt Go.RowKit Go.AM
set_option linter.unusedVariables false

theorem own : ownKnob Try.prog.godebug = none := by kernel_rfl
theorem laidOut : laidOutB Try.prog = true := by kernel_rfl

theorem ts93 : tsOf Try.prog 8 93 = some [.sl [.str, .int .i64, .int .i64, .int .i64, .int .i64, .int .i64, .int .i64, .int .i64, .int .i64, .int .i64]] := by kernel_rfl
theorem ag93 : isAggT Try.prog 93 = false := by kernel_rfl

theorem str_le {d : DC} (h : TSok .str d) : ∃ s : ByteArray, d = .v (.string s) ∧ s.size ≤ 9223372036854775807 := by
  cases h with
  | str hs => exact ⟨_, rfl, Nat.le_trans hs (by decide)⟩
theorem rows_ofP {A : Type} {P : A → Prop} {enc : A → List DC} {l : List TS} (h : ∀ r, TSoks l r → ∃ a, P a ∧ r = enc a) : ∀ rows : List (List DC), (∀ r ∈ rows, TSoks l r) → ∃ L : List A, (∀ a ∈ L, P a) ∧ rows = L.map enc
  | [], _ => ⟨[], by simp, rfl⟩
  | r :: rows, hr => by
    obtain ⟨a, ha, rfl⟩ := h r (hr r (by simp))
    obtain ⟨L, hL, rfl⟩ := rows_ofP h rows fun q hq => hr q (List.mem_cons_of_mem _ hq)
    refine ⟨a :: L, fun b hb => ?_, rfl⟩
    rcases List.mem_cons.1 hb with h1 | h1
    · subst h1; exact ha
    · exact hL b h1
theorem ofRd (r : List DC) (h : TSoks [.str, .int .i64, .int .i64, .int .i64, .int .i64, .int .i64, .int .i64, .int .i64, .int .i64, .int .i64] r) : ∃ a : K.Rdg, a.nm.size ≤ 9223372036854775807 ∧ r = K.rRd a := by
  obtain ⟨_, _, rfl, t1, h1⟩ := h.cons
  obtain ⟨_, rfl, hs⟩ := str_le t1
  obtain ⟨_, _, rfl, ⟨_⟩, h2⟩ := h1.cons
  obtain ⟨_, _, rfl, ⟨_⟩, h3⟩ := h2.cons
  obtain ⟨_, _, rfl, ⟨_⟩, h4⟩ := h3.cons
  obtain ⟨_, _, rfl, ⟨_⟩, h5⟩ := h4.cons
  obtain ⟨_, _, rfl, ⟨_⟩, h6⟩ := h5.cons
  obtain ⟨_, _, rfl, ⟨_⟩, h7⟩ := h6.cons
  obtain ⟨_, _, rfl, ⟨_⟩, h8⟩ := h7.cons
  obtain ⟨_, _, rfl, ⟨_⟩, h9⟩ := h8.cons
  obtain ⟨_, _, rfl, ⟨_⟩, h10⟩ := h9.cons
  obtain rfl := h10.nil
  exact ⟨⟨_, _, _, _, _, _, _, _, _, _⟩, hs, rfl⟩
theorem dec {d0 : List DC} (s0 : TSoks [.sl [.str, .int .i64, .int .i64, .int .i64, .int .i64, .int .i64, .int .i64, .int .i64, .int .i64, .int .i64]] d0) :
    K.pa9_0.dec [(false, d0)] (K.Fn9_0 K.f9_0 _ some) = some (some [rB true]) := by
  obtain ⟨_, _, rfl, t0, s1⟩ := s0.cons
  obtain rfl := s1.nil
  obtain ⟨r0, rfl, hl, q0⟩ := t0.rows
  obtain ⟨l, hP, rfl⟩ := rows_ofP ofRd r0 q0
  show some (K.f9_0 _ _ _) = _
  rw [K.law9 hP]; rfl

set_option maxRecDepth 100000 in
theorem walk (v0 : Value) (w : World) (a0 : Arg Try.prog w 93 [.sl [.str, .int .i64, .int .i64, .int .i64, .int .i64, .int .i64, .int .i64, .int .i64, .int .i64, .int .i64]] v0) :
    Calls Try.prog 9 #[v0] w fun e w' => e = .returned (.bool true) ∧ Below w.heap.size w w' := by
  obtain ⟨d0, s0, r0⟩ := a0
  have hd := dec s0
  rw [ag93] at r0
  refine law_calls (ds := [(false, d0)]) K.io9_0 (show 1 ≤ K.nt9 by decide) hd ?_
  refine ⟨rfl, fun i d v hd hv => ?_⟩
  match i with
  | 0 => simp at hd hv; subst hd; subst hv; exact r0
  | i + 1 => simp at hd

set_option maxRecDepth 100000 in
theorem lifted (os : Os) (started : os.Started) (H : Type) (enc : TypeId × Value → H) :
    ReturnsInHanded {} Try.checked os 9 .any (Rows.meterAveragesSpec.pre6 enc Try.prog Try.f9 Rows.meterAveragesRow.domain false) (Rows.meterAveragesSpec.post enc Try.prog Try.f9 false true false false) := by
  refine returnsInHanded_of_change (C := Try.checked) own started (by kernel_rfl) Try.func9
    (ChangeSpec.witness6 (enc := enc) (C := Try.checked) false ⟨#[], #[.slice none 0 0], []⟩ 8 (by kernel_rfl) (by kernel_rfl) (by kernel_rfl) (by kernel_rfl)) ?_
  intro W base args ds gs before hval0 hW hcnd _
  have hval : ∀ (j : Nat) t v, Try.f9.params[j]? = some t → args[j]? = some v → Value.okWide Try.prog W .any base t v := hval0
  have hW' := hW
  obtain ⟨p, q, hA0, hV, rfl, hfz, hnd⟩ := hW
  have hA : DataW.TrodAll enc Try.prog W 0 (fun _ => true) true Try.f9.params.toList args.toList ds p := hA0
  rw [Try.params9] at hA hval
  obtain ⟨v0, vs0, d0, ds0, p0, q0, hargs, rfl, rfl, h0, r0⟩ := trodAll_cons hA
  obtain ⟨rfl, rfl, rfl⟩ := trodAll_nil r0
  obtain rfl : args = #[v0] := by cases args; simp_all
  obtain ⟨rfl, rfl⟩ := trodVars_none hV
  have lt0 : ∀ x ∈ p0, x.block < W.heap.size := by obtain ⟨m, hm⟩ := h0; exact DataW.trod_lt m _ _ _ hm
  have k0 := arg_ok (hval 0 93 v0 rfl rfl) h0 ts93
  clear hA0 hval0
  refine (walk v0 W k0).mono fun e W' ⟨he, bel⟩ => ?_
  subst he
  exact ⟨_, rfl, _, _, _, [], _, [], hW', trodAll_mk1 (shut_bool Try.underlying4 _), (trodAll_cons_mk (Below.trod laidOut (by kernel_rfl) (of_decide_eq_true (by kernel_rfl)) h0 bel lt0) trodAll_mk0), rfl, bel.frame _, fun h => by cases h⟩

theorem over : Rows.meterAveragesRow.holds Try.pinned (OpenSpec.ofChange Rows.meterAveragesSpec) :=
  OpenClaim.holds_of_wide 9 Try.f9 rfl rfl rfl rfl rfl rfl rfl ⟨rfl, rfl, rfl, rfl, rfl⟩ rfl rfl rfl rfl rfl (by kernel_rfl) Try.func9 (by kernel_rfl)
    (of_decide_eq_true (by kernel_rfl)) (by unfold Func.isWrapper; first | (rw [if_pos (by decide +kernel)]; kernel_rfl) | (rw [if_neg (by decide +kernel)]; exact ⟨rfl, rfl⟩))
    (fun os started H enc _ => lifted os started H enc)

theorem meterAverages_holds : Rows.MeterAveragesSaid := over
#print axioms meterAverages_holds
end Go.Proofs.Ytjifpcjmnhnpkaa.Mt9
