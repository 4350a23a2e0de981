/- TopModulatedBack: for every input the statement is true, and the input reads as it did. Of the library's variables that the row lists, it is assumed that they read as listed. -/
import Derived.Test.YtnhkllkecbmchaaGreatDoorRows
import Derived.Test.YtnhkllkecbmchaaGreatDoorV5
import Derived.Test.YtnhkllkecbmchaaGreatDoorKF4
import Derived.Test.YtnhkllkecbmchaaGreatDoorUZG
import Derived.Shelf.Vars
namespace Go.Proofs.YtnhkllkecbmchaaGreatDoor.Tm8
open Go.ChangeShapes Go.WideShapes Go.ChangeAt Go.RowKit Go.AM
set_option linter.unusedVariables false
theorem own : ownKnob Tryz.prog.godebug = none := by kernel_rfl
theorem laidOut : laidOutB Tryz.prog = true := by kernel_rfl
theorem ts87 : tsOf Tryz.prog 8 87 = some [.int .i64, .int .i64, .int .i64, .int .i64] := by kernel_rfl
theorem ag87 : isAggT Tryz.prog 87 = true := by kernel_rfl
theorem ts93 : tsOf Tryz.prog 8 93 = some [.int .i64, .int .i64, .int .i64, .int .i64, .int .i64, .int .i64, .int .i64, .int .i64, .int .i64, .int .i64, .int .i64, .int .i64, .int .i64, .int .i64, .int .i64, .int .i64, .int .i64, .int .i64, .int .i64] := by kernel_rfl
theorem ag93 : isAggT Tryz.prog 93 = true := by kernel_rfl
theorem dec {d0 d1 : List DC} (s0_0 : TSoks [.int .i64, .int .i64, .int .i64, .int .i64] d0) (s1_0 : TSoks [.int .i64, .int .i64, .int .i64, .int .i64, .int .i64, .int .i64, .int .i64, .int .i64, .int .i64, .int .i64, .int .i64, .int .i64, .int .i64, .int .i64, .int .i64, .int .i64, .int .i64, .int .i64, .int .i64] d1) :
    K.pa8_0.dec [(true, d0), (true, d1)] (K.Fn8_0 K.f8_0 _ some) = some (some [rB true]) := by
  obtain ⟨_, _, rfl, ⟨_⟩, s0_1⟩ := s0_0.cons
  obtain ⟨_, _, rfl, ⟨_⟩, s0_2⟩ := s0_1.cons
  obtain ⟨_, _, rfl, ⟨_⟩, s0_3⟩ := s0_2.cons
  obtain ⟨_, _, rfl, ⟨_⟩, s0_4⟩ := s0_3.cons
  obtain rfl := s0_4.nil
  obtain ⟨_, _, rfl, ⟨_⟩, s1_1⟩ := s1_0.cons
  obtain ⟨_, _, rfl, ⟨_⟩, s1_2⟩ := s1_1.cons
  obtain ⟨_, _, rfl, ⟨_⟩, s1_3⟩ := s1_2.cons
  obtain ⟨_, _, rfl, ⟨_⟩, s1_4⟩ := s1_3.cons
  obtain ⟨_, _, rfl, ⟨_⟩, s1_5⟩ := s1_4.cons
  obtain ⟨_, _, rfl, ⟨_⟩, s1_6⟩ := s1_5.cons
  obtain ⟨_, _, rfl, ⟨_⟩, s1_7⟩ := s1_6.cons
  obtain ⟨_, _, rfl, ⟨_⟩, s1_8⟩ := s1_7.cons
  obtain ⟨_, _, rfl, ⟨_⟩, s1_9⟩ := s1_8.cons
  obtain ⟨_, _, rfl, ⟨_⟩, s1_10⟩ := s1_9.cons
  obtain ⟨_, _, rfl, ⟨_⟩, s1_11⟩ := s1_10.cons
  obtain ⟨_, _, rfl, ⟨_⟩, s1_12⟩ := s1_11.cons
  obtain ⟨_, _, rfl, ⟨_⟩, s1_13⟩ := s1_12.cons
  obtain ⟨_, _, rfl, ⟨_⟩, s1_14⟩ := s1_13.cons
  obtain ⟨_, _, rfl, ⟨_⟩, s1_15⟩ := s1_14.cons
  obtain ⟨_, _, rfl, ⟨_⟩, s1_16⟩ := s1_15.cons
  obtain ⟨_, _, rfl, ⟨_⟩, s1_17⟩ := s1_16.cons
  obtain ⟨_, _, rfl, ⟨_⟩, s1_18⟩ := s1_17.cons
  obtain ⟨_, _, rfl, ⟨_⟩, s1_19⟩ := s1_18.cons
  obtain rfl := s1_19.nil
  show some (K.f8_0 _ _ _ _ _ _ _ _ _ _ _ _ _ _ _ _ _ _ _ _ _ _ _ _ _) = _
  rw [K.law8]; rfl
set_option maxRecDepth 100000 in
theorem walk (v0 v1 : Value) (w : World) (a0 : Arg Tryz.prog w 87 [.int .i64, .int .i64, .int .i64, .int .i64] v0) (a1 : Arg Tryz.prog w 93 [.int .i64, .int .i64, .int .i64, .int .i64, .int .i64, .int .i64, .int .i64, .int .i64, .int .i64, .int .i64, .int .i64, .int .i64, .int .i64, .int .i64, .int .i64, .int .i64, .int .i64, .int .i64, .int .i64] v1) (hl : Laid Tryz.prog w) :
    Calls Tryz.prog 8 #[v0, v1] w fun e w' => e = .returned (.bool true) /\ Below w.heap.size w w' := by
  obtain ⟨d0, s0, r0⟩ := a0
  obtain ⟨d1, s1, r1⟩ := a1
  have hd := dec s0 s1
  rw [ag87] at r0
  rw [ag93] at r1
  refine law_calls (ds := [(true, d0), (true, d1)]) K.io8_0 (show 2 <= K.nt8 by decide) hd ?_ hl
  refine ⟨rfl, fun i d v hd hv => ?_⟩
  match i with
  | 0 => simp at hd hv; subst hd; subst hv; exact r0
  | 1 => simp at hd hv; subst hd; subst hv; exact r1
  | i + 2 => simp at hd
theorem star : "*" ++ "errors.errorString" = "*errors.errorString" := by decide
theorem rowErr (u : TypeId) (h : Tryz.prog.typeName? 3 u = some "*errors.errorString") : u = 452 :=
  typeName_ptr_named (nm := "errors.errorString") (by rw [star]; kernel_rfl) (by kernel_rfl) (by decide) u (by rw [star]; exact h)
set_option maxRecDepth 100000 in
theorem laidAll {w : World} (hL0 : laidMetH Tryz.prog Rows.topModulatedBackRow.laid w) (hsh : w.ShapedOpen Tryz.prog) : Laid Tryz.prog w := by
  rw [MakeChecks.laidMetH_plain _ _ _ (by kernel_rfl)] at hL0
  have hL : laidMet Tryz.prog [("math/bits.deBruijn32tab", Rows.laid_math_bits_deBruijn32tab), ("math/bits.deBruijn64tab", Rows.laid_math_bits_deBruijn64tab), ("internal/strconv.uint64pow10", Lib.tabData .u64 Lib.pow10Tab), ("unicode/utf8.acceptRanges", Rows.laid_unicode_utf8_acceptRanges), ("strconv.ErrRange", Rows.laid_strconv_ErrRange), ("strconv.ErrSyntax", Rows.laid_strconv_ErrSyntax), ("unicode/utf8.first", Rows.laid_unicode_utf8_first)] w := hL0
  have hT := Lib.tabIs_of_head (g := 3) (t := 448) (e := 370) (n := 20) (by kernel_rfl) (by kernel_rfl) Tryz.underlying448 Tryz.underlying370 (by kernel_rfl) (by kernel_rfl) hL.tail.tail
  obtain ⟨a0, s0, h0, _⟩ := laid_sentinel (g := 2) (ti := 153) (tp := 452) (te := 454) (ts := 9) hL.tail.tail.tail.tail (by kernel_rfl) (by kernel_rfl) Tryz.underlying153 rowErr Tryz.underlying452 Tryz.underlying454 rfl rfl Tryz.underlying9 (by kernel_rfl) (by kernel_rfl)
  obtain ⟨a1, s1, h1, _⟩ := laid_sentinel (g := 1) (ti := 153) (tp := 452) (te := 454) (ts := 9) hL.tail.tail.tail.tail.tail (by kernel_rfl) (by kernel_rfl) Tryz.underlying153 rowErr Tryz.underlying452 Tryz.underlying454 rfl rfl Tryz.underlying9 (by kernel_rfl) (by kernel_rfl)
  refine laid_of hT (fun b hb => ?_) ⟨_, _, h1⟩ ⟨_, _, h0⟩
  have : Tryz.prog.globalNamed "internal/bytealg.MaxLen" = some 4 := by kernel_rfl
  obtain rfl := Option.some.inj (this.symm.trans hb)
  exact cell_of_shapedOpen_int (zero := #[.int .i64 0]) (t := 3) hsh (of_decide_eq_true (by kernel_rfl)) (by kernel_rfl) rfl (by kernel_rfl) (by kernel_rfl) Tryz.underlying3
set_option maxRecDepth 100000 in
theorem lifted (os : Os) (started : os.Started) (H : Type) (enc : TypeId × Value -> H) :
    ReturnsInHanded {} Tryz.checked os 8 .any (fun w args => (Rows.topModulatedBackSpec.pre enc Tryz.prog Tryz.f8 Rows.topModulatedBackRow.domain false w args /\ laidMetH Tryz.prog Rows.topModulatedBackRow.laid w) /\ sizedMet enc Tryz.prog Tryz.f8 (OpenSpec.ofChange Rows.topModulatedBackSpec) false w args) (Rows.topModulatedBackSpec.post enc Tryz.prog Tryz.f8 false true false false) := by
  refine handed_shaped (C := Tryz.checked) (X := fun w _ => laidMetH Tryz.prog Rows.topModulatedBackRow.laid w) (fun _ _ _ hh h => h.of_heap hh) own started (by kernel_rfl) Tryz.func8
    (ChangeSpec.witness_shaped (enc := enc) (C := Tryz.checked) (os := os) (X := fun w _ => laidMetH Tryz.prog Rows.topModulatedBackRow.laid w) false (World.laidAll Tryz.prog os Rows.topModulatedBackRow.laid) #[.agg #[.int .i64 0, .int .i64 0, .int .i64 0, .int .i64 0], .agg #[.int .i64 0, .int .i64 0, .int .i64 0, .int .i64 0, .int .i64 0, .int .i64 0, .int .i64 0, .int .i64 0, .int .i64 0, .int .i64 0, .int .i64 0, .int .i64 0, .int .i64 0, .int .i64 0, .int .i64 0, .int .i64 0, .int .i64 0, .int .i64 0, .int .i64 0]] 8 (World.laidAll_os _ _ _)
      (World.shaped_of_ZipB (by kernel_rfl) (by kernel_rfl)) (by kernel_rfl) (by kernel_rfl) (by kernel_rfl)
      (by rw [MakeChecks.laidMetH_plain _ _ _ (by kernel_rfl)]; exact laidMet_laidAll _ (by kernel_rfl) (by kernel_rfl))) ?_
  intro W base args ds gs before hval0 hW hcnd hL hsh _
  have hval : ∀ (j : Nat) t v, Tryz.f8.params[j]? = some t -> args[j]? = some v -> Value.okWide Tryz.prog W .any base t v := hval0
  have hW' := hW
  obtain ⟨p, q, hA0, hV, rfl, hfz, hnd⟩ := hW
  have hA : DataW.TrodAll enc Tryz.prog W 0 (fun _ => true) true Tryz.f8.params.toList args.toList ds p := hA0
  rw [Tryz.params8] at hA hval
  obtain ⟨v0, vs0, d0, ds0, p0, q0, hargs, rfl, rfl, h0, r0⟩ := trodAll_cons hA
  obtain ⟨v1, vs1, d1, ds1, p1, q1, rfl, rfl, rfl, h1, r1⟩ := trodAll_cons r0
  obtain ⟨rfl, rfl, rfl⟩ := trodAll_nil r1
  obtain rfl : args = #[v0, v1] := by cases args; simp_all
  obtain ⟨rfl, rfl⟩ := trodVars_none hV
  have lt0 : ∀ x ∈ p0, x.block < W.heap.size := by obtain ⟨m, hm⟩ := h0; exact DataW.trod_lt m _ _ _ hm
  have lt1 : ∀ x ∈ p1, x.block < W.heap.size := by obtain ⟨m, hm⟩ := h1; exact DataW.trod_lt m _ _ _ hm
  have k0 := arg_ok (hval 0 87 v0 rfl rfl) h0 ts87
  have k1 := arg_ok (hval 1 93 v1 rfl rfl) h1 ts93
  clear hA0 hval0
  refine (walk v0 v1 W k0 k1 (laidAll hL hsh)).mono fun e W' ⟨he, bel⟩ => ?_
  subst he
  exact ⟨_, rfl, _, _, _, [], _, [], hW', trodAll_mk1 (shut_bool Tryz.underlying4 _), (trodAll_cons_mk (Below.trod laidOut (by kernel_rfl) (of_decide_eq_true (by kernel_rfl)) h0 bel lt0) (trodAll_cons_mk (Below.trod laidOut (by kernel_rfl) (of_decide_eq_true (by kernel_rfl)) h1 bel lt1) trodAll_mk0)), rfl, bel.frame _, fun h => by cases h⟩
theorem over : Rows.topModulatedBackRow.holds Tryz.pinned (OpenSpec.ofChange Rows.topModulatedBackSpec) :=
  OpenClaim.holds_of_wide 8 Tryz.f8 rfl rfl rfl rfl rfl rfl rfl ⟨rfl, rfl, rfl, rfl, rfl⟩ rfl rfl rfl rfl rfl named Tryz.func8 closed inst wrapper
    (fun os started H enc _ => lifted os started H enc)
theorem topModulatedBack_holds : Rows.TopModulatedBackSaid := over
end Go.Proofs.YtnhkllkecbmchaaGreatDoor.Tm8
