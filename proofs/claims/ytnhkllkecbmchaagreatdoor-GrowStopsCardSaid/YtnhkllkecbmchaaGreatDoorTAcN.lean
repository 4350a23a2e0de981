/- The safe states behind one switch: the iterator. -/
import Derived.Test.YtnhkllkecbmchaaGreatDoorAMc
import Derived.Test.YtnhkllkecbmchaaGreatDoorTAcW
namespace Go.AM
open Go.Proofs
set_option maxRecDepth 100000
set_option maxHeartbeats 1000000
set_option linter.unusedSimpArgs false
theorem eff_not {P : Program} {E : Env} {T : Tab} {ρ : Operand → AV} {dst t : Nat} {o : Oper} {x : Nat} {b : Bool} (ho : o.op = .unOp .not t (.tmp x)) (h : ρ (.tmp x) = .val false [.d (.v (.bool b))]) :
    eff P E T ρ dst (.pure o) = some (.val false [.d (.v (.bool !b))], []) := by
  have h1 : valO ρ (.tmp x) = some (.bool b) := by simp [valO, h, toVal, plainC]
  simp only [eff, nanPure, nanCx, ho, Op.operands, List.all_cons, List.all_nil, h1]
  simp [execOp, ho, h1, evalPure, ofVal, ofValC, plain, bind, Sem.bind, pure]
  rfl
theorem eff_not' {P : Program} {E : Env} {T : Tab} {ρ : Operand → AV} {dst t x ty : Nat} {d : Option Nat} {pos : String} {aft : Array Edge} {g : Option (Nat × Bool)} {b : Bool} (h : ρ (.tmp x) = .val false [.d (.v (.bool b))]) :
    eff P E T ρ dst (.pure { dst := d, op := .unOp .not t (.tmp x), type := ty, pos := pos, after := aft, guard := g }) = some (.val false [.d (.v (.bool !b))], []) := eff_not rfl h
section
variable {P : Program} {E : Env} {T : Tab} {ρ : Operand → AV} {dst : Nat}
theorem effE_mv {x : Operand} : eff P E T ρ dst (.mv x) = some (ρ x, []) := rfl
theorem effE_pick {c a b : Operand} : eff P E T ρ dst (.pick c a b) = match boolA (ρ c) with | some t => some (if t then ρ a else ρ b, []) | none => none := rfl
theorem effE_load {agg : Bool} {sz : Nat} {x : Operand} {cs : List DC} {off : Nat} (h : oneA (ρ x) = some (.d (.cref cs off))) : eff P E T ρ dst (.load agg sz x) = if off + sz ≤ cs.length then (aggA agg (((cs.drop off).take sz).map .d)).map fun y => (y, []) else none := by simp only [eff, h]
theorem effE_faddr {off : Nat} {x : Operand} : eff P E T ρ dst (.faddr off x) = match oneA (ρ x) with
    | some (.ptr n o) => some (.val false [.ptr n (o + off)], [])
    | some (.eptr n i o) => some (.val false [.eptr n i (o + off)], [])
    | some (.d (.cref cs o)) => some (.val false [.d (.cref cs (o + off))], [])
    | _ => none := rfl
theorem effE_len {x : Operand} : eff P E T ρ dst (.len x) = (rowsA T (ρ x)).map fun rows => (.val false [.d (.v (.int .i64 rows.length))], []) := rfl
theorem effE_call {f : Nat} {args : List Operand} (hio : E.io f = []) : eff P E T ρ dst (.call f args) = match argsA T ρ args with
    | some ds => match E f ds with
      | some res => callOut dst T (args.flatMap fun x => namesA T (ρ x)) res
      | none => none
    | none => none := by simp only [eff, hio]; rfl
theorem effE_bin {op : BinOp} {t : TypeId} {x y : Operand} : eff P E T ρ dst (.bin op t x y) = match toVal (ρ x), toVal (ρ y) with
    | some a, some b => (match binV P op t x y a b with
      | some v => some (ofVal v, [])
      | none => (nanBin op (ρ x) (ρ y)).map fun c => (.val false [c], []))
    | _, _ => (misBin P op t (ρ x) (ρ y)).map fun c => (.val false [c], []) := rfl
end
theorem next_loop {E : Env} (hio1 : E.io 228 = []) (hio2 : E.io 225 = []) {l : Nat} {devs : List (List DC)} {rules : List (List DC)} {s : Int} {xs : List (List Value)} (hlen : devs.length < 1000) : ∀ (m d i : Nat) (ys : List (List Value)), d + m = devs.length → nextGo E [.sl devs, .sl rules] s (List.range' d m) = some ys → xs.drop i = ys → i ≤ xs.length →
    icL Tryz.prog E xs l [(1, .val false [.d (.cref [.sl devs, .sl rules] 0)]), (2, .val false [.d (.cref [.v (.int .i64 s)] 0)])] (some ⟨[0, 1, 2, 9, 10], true, [⟨false, 10, 0, 20010, 0⟩], []⟩)
      (.seq (.region ac227_1 [] (some ⟨[0, 1, 2, 9, 10, 11], false, [], []⟩)) (.seq (.cond (.tmp 11) .skip (.exit 0)) (.seq (.block 1 (.seq (.region ac227_2 [] (some ⟨[0, 1, 2, 4, 9, 10], false, [], []⟩)) (.seq (.region ac227_3 [] (some ⟨[0, 1, 2, 4, 5, 9, 10], false, [], []⟩)) (.seq (.region ac227_4 [] (some ⟨[0, 1, 2, 9, 10, 25], false, [], []⟩)) (.cond (.tmp 25) .ret .skip))))) (.region ac227_5 [] (some ⟨[0, 1, 2, 9, 10], false, [], []⟩)))))
      (m + 1) (.blk 0 .nil) (DoneI xs) (some i) ⟨[(0, .val false [.yld l]), (1, .val false [.d (.cref [.sl devs, .sl rules] 0)]), (2, .val false [.d (.cref [.v (.int .i64 s)] 0)]), (9, .val false [.d (.v (.int .i64 devs.length))]), (10, .val false [.d (.v (.int .i64 d))])], [], []⟩ := by
  intro m
  induction m with
  | zero =>
    intro d i ys hd hgo hdrop hi
    have hcond : ¬ ((d : Int) < (devs.length : Int)) := by omega
    simp -implicitDefEqProofs only [icL_succ, keepsL, pickL, aget, reduceIte, Nat.reduceEqDiff, icC_seq, icC_region, icR_cons, icR_nil, ac227_1, okDst, Option.isNone, wantA, icW_t, icW_f, icY_none, yieldOf, evO, Option.getD, effE_mv, effE_pick, eff.eq_7, effE_call hio1, effE_call hio2, effE_bin, toVal, plainC, binV_lss, hcond, decide_false, Option.map, ofVal, ofValC, plain, icX_some, applyA, putT, aputs, keepO, icK_seq_n, icC_cond, boolA, icB_t, icB_f, icC_exit, icK_seq_e, icK_rounds_e, icK_blk_e, icK_nil, DoneI, true_and]
    have hys : ys = [] := by simpa [nextGo] using hgo.symm
    refine ⟨.inr trivial, .inl ?_⟩
    rw [hys] at hdrop
    have := List.drop_eq_nil_iff.1 hdrop
    congr 1
    omega
  | succ m ih =>
    intro d i ys hd hgo hdrop hi
    have hcond : (d : Int) < (devs.length : Int) := by omega
    rw [List.range'_succ] at hgo
    simp only [nextGo] at hgo
    split at hgo
    · rename_i n h105
      split at hgo
      · rename_i b h116
        split at hgo
        · rename_i out hout
          cases b with
          | false =>
            rw [icL_succ]
            simp -implicitDefEqProofs only [hcond, h105, h116, keepsL, pickL, aget, reduceIte, Nat.reduceEqDiff, icC_seq, icC_block, icC_region, icR_cons, icR_nil, ac227_1, ac227_2, ac227_3, ac227_4, ac227_5, okDst, Option.isNone, wantA, icW_t, icW_f, icY_none, icY_some, yieldOf, evO, Option.getD, effE_mv, effE_pick, eff.eq_7, effE_call hio1, effE_call hio2, effE_bin, toVal, plainC, binV_lss, binV_add, decide_true, decide_false, Option.map, ofVal, ofValC, plain, icX_some, applyA, backI, flatT, flatA, List.all, List.append, putT, aputs, keepO, icK_seq_n, icK_seq_r, icK_blk_n, icK_blk_r, icK_rounds_n, icK_rounds_r, icC_cond, icC_skip, icC_ret, boolA, icB_t, icB_f, icC_exit, icK_seq_e, icK_rounds_e, icK_blk_e, icK_nil, DoneI, true_and, Bool.and_self, oneA, argsA, toDV, toDC, List.mapM_cons, List.mapM_nil, pure_bind, bind_pure_comp, Option.pure_def, Option.bind_eq_bind, Option.bind, aggA, List.drop, List.take, List.length, Nat.reduceAdd, Nat.reduceLeDiff, Option.map_some, valsOf, namesA, namesC, callOut, List.isEmpty, importRs, importCs, freshAll, tupA, List.append_nil, List.nil_append, Bool.not_true, Bool.not_false, valO, Bool.false_eq_true, List.map_cons, List.map_nil, List.drop_zero, List.take_zero, Nat.zero_add, Nat.le_refl, List.length_cons, List.length_nil, List.take_succ_cons, List.any_nil, Bool.if_true_left, if_true, if_false, List.mapM, List.mapM.loop, List.reverse_cons, List.reverse_nil, List.flatMap_cons, List.flatMap_nil, Nat.zero_le, decide_eq_true_eq, Option.isSome, List.flatten_cons, List.flatten_nil, List.any_cons, viewR, viewD, List.mapM_cons, List.cons_append, Bool.or_false, freezeNames, notIn, Nat.add_zero, Nat.mul_zero]
            have := ih (d + 1) i ys (by omega) (by simpa [hgo] using hout.trans (by simpa using hgo)) hdrop hi
            rw [IntWalk.i64_in _ (by omega)]
            exact this
          | true =>
            have hx : xs[i]? = some [.int .i64 d, .int .i64 n] := by
              have : (xs.drop i)[0]? = some [.int .i64 d, .int .i64 n] := by rw [hdrop]; simp at hgo; rw [← hgo]; rfl
              simpa using this
            have hi' : i < xs.length := (List.getElem?_eq_some_iff.1 hx).1
            rw [icL_succ]
            simp -implicitDefEqProofs only [hcond, h105, h116, keepsL, pickL, aget, reduceIte, Nat.reduceEqDiff, icC_seq, icC_block, icC_region, icR_cons, icR_nil, ac227_1, ac227_2, ac227_3, ac227_4, ac227_5, okDst, Option.isNone, wantA, icW_t, icW_f, icY_none, icY_some, yieldOf, evO, Option.getD, effE_mv, effE_pick, eff.eq_7, effE_call hio1, effE_call hio2, effE_bin, toVal, plainC, binV_lss, binV_add, decide_true, decide_false, Option.map, ofVal, ofValC, plain, icX_some, applyA, backI, flatT, flatA, List.all, List.append, putT, aputs, keepO, icK_seq_n, icK_seq_r, icK_blk_n, icK_blk_r, icK_rounds_n, icK_rounds_r, icC_cond, icC_skip, icC_ret, boolA, icB_t, icB_f, icC_exit, icK_seq_e, icK_rounds_e, icK_blk_e, icK_nil, DoneI, true_and, Bool.and_self, oneA, argsA, toDV, toDC, List.mapM_cons, List.mapM_nil, pure_bind, bind_pure_comp, Option.pure_def, Option.bind_eq_bind, Option.bind, aggA, List.drop, List.take, List.length, Nat.reduceAdd, Nat.reduceLeDiff, Option.map_some, valsOf, namesA, namesC, callOut, List.isEmpty, importRs, importCs, freshAll, tupA, List.append_nil, List.nil_append, Bool.not_true, Bool.not_false, valO, Bool.false_eq_true, List.map_cons, List.map_nil, List.drop_zero, List.take_zero, Nat.zero_add, Nat.le_refl, List.length_cons, List.length_nil, List.take_succ_cons, List.any_nil, Bool.if_true_left, if_true, if_false, List.mapM, List.mapM.loop, List.reverse_cons, List.reverse_nil, List.flatMap_cons, List.flatMap_nil, Nat.zero_le, decide_eq_true_eq, Option.isSome, List.flatten_cons, List.flatten_nil, List.any_cons, viewR, viewD, List.mapM_cons, List.cons_append, Bool.or_false, freezeNames, notIn, Nat.add_zero, Nat.mul_zero]
            refine ⟨⟨_, hx, rfl⟩, ?_, ?_⟩
            · rw [eff_not' (b := true) rfl]
              have hys : out = (xs.drop (i + 1)) := by
                simp only [if_true, Option.some.injEq] at hgo
                rw [← List.drop_drop, hdrop, ← hgo]; rfl
              have h1 := ih (d + 1) (i + 1) out (by omega) hout hys.symm (by omega)
              rw [show ((d + 1 : Nat) : Int) = IntKind.wrap .i64 ((d : Int) + 1) by rw [IntWalk.i64_in _ (by omega)]; rfl] at h1
              simp -implicitDefEqProofs only [keepsL, pickL, aget, reduceIte, Nat.reduceEqDiff, icC_seq, icC_block, icC_region, icR_cons, icR_nil, ac227_1, ac227_2, ac227_3, ac227_4, ac227_5, okDst, Option.isNone, wantA, icW_t, icW_f, icY_none, icY_some, yieldOf, evO, Option.getD, effE_mv, effE_pick, eff.eq_7, effE_call hio1, effE_call hio2, effE_bin, toVal, plainC, binV_lss, binV_add, decide_true, decide_false, Option.map, ofVal, ofValC, plain, icX_some, applyA, backI, flatT, flatA, List.all, List.append, putT, aputs, keepO, icK_seq_n, icK_seq_r, icK_blk_n, icK_blk_r, icK_rounds_n, icK_rounds_r, icC_cond, icC_skip, icC_ret, boolA, icB_t, icB_f, icC_exit, icK_seq_e, icK_rounds_e, icK_blk_e, icK_nil, DoneI, true_and, Bool.and_self, oneA, argsA, toDV, toDC, List.mapM_cons, List.mapM_nil, pure_bind, bind_pure_comp, Option.pure_def, Option.bind_eq_bind, Option.bind, aggA, List.drop, List.take, List.length, Nat.reduceAdd, Nat.reduceLeDiff, Option.map_some, valsOf, namesA, namesC, callOut, List.isEmpty, importRs, importCs, freshAll, tupA, List.append_nil, List.nil_append, Bool.not_true, Bool.not_false, valO, Bool.false_eq_true, List.map_cons, List.map_nil, List.drop_zero, List.take_zero, Nat.zero_add, Nat.le_refl, List.length_cons, List.length_nil, List.take_succ_cons, List.any_nil, Bool.if_true_left, if_true, if_false, List.mapM, List.mapM.loop, List.reverse_cons, List.reverse_nil, List.flatMap_cons, List.flatMap_nil, Nat.zero_le, decide_eq_true_eq, Option.isSome, List.flatten_cons, List.flatten_nil, List.any_cons, viewR, viewD, List.mapM_cons, List.cons_append, Bool.or_false, freezeNames, notIn, Nat.add_zero, Nat.mul_zero]
              exact h1
            · rw [eff_not' (b := false) rfl]
              simp -implicitDefEqProofs only [keepsL, pickL, aget, reduceIte, Nat.reduceEqDiff, icC_seq, icC_block, icC_region, icR_cons, icR_nil, ac227_1, ac227_2, ac227_3, ac227_4, ac227_5, okDst, Option.isNone, wantA, icW_t, icW_f, icY_none, icY_some, yieldOf, evO, Option.getD, effE_mv, effE_pick, eff.eq_7, effE_call hio1, effE_call hio2, effE_bin, toVal, plainC, binV_lss, binV_add, decide_true, decide_false, Option.map, ofVal, ofValC, plain, icX_some, applyA, backI, flatT, flatA, List.all, List.append, putT, aputs, keepO, icK_seq_n, icK_seq_r, icK_blk_n, icK_blk_r, icK_rounds_n, icK_rounds_r, icC_cond, icC_skip, icC_ret, boolA, icB_t, icB_f, icC_exit, icK_seq_e, icK_rounds_e, icK_blk_e, icK_nil, DoneI, true_and, Bool.and_self, oneA, argsA, toDV, toDC, List.mapM_cons, List.mapM_nil, pure_bind, bind_pure_comp, Option.pure_def, Option.bind_eq_bind, Option.bind, aggA, List.drop, List.take, List.length, Nat.reduceAdd, Nat.reduceLeDiff, Option.map_some, valsOf, namesA, namesC, callOut, List.isEmpty, importRs, importCs, freshAll, tupA, List.append_nil, List.nil_append, Bool.not_true, Bool.not_false, valO, Bool.false_eq_true, List.map_cons, List.map_nil, List.drop_zero, List.take_zero, Nat.zero_add, Nat.le_refl, List.length_cons, List.length_nil, List.take_succ_cons, List.any_nil, Bool.if_true_left, if_true, if_false, List.mapM, List.mapM.loop, List.reverse_cons, List.reverse_nil, List.flatMap_cons, List.flatMap_nil, Nat.zero_le, decide_eq_true_eq, Option.isSome, List.flatten_cons, List.flatten_nil, List.any_cons, viewR, viewD, List.mapM_cons, List.cons_append, Bool.or_false, freezeNames, notIn, Nat.add_zero, Nat.mul_zero]
              simp
        · cases hgo
      · cases hgo
    · cases hgo
theorem nextGo_plain {E : Env} {cs : List DC} {s : Int} : ∀ (l : List Nat) (xs : List (List Value)), nextGo E cs s l = some xs → ∀ x ∈ xs, ∀ v ∈ x, plainV v = true
  | [], xs, h => by simp only [nextGo, Option.some.injEq] at h; subst h; simp
  | d :: r, xs, h => by
    simp only [nextGo] at h
    split at h
    · rename_i n h105
      split at h
      · rename_i b h116
        split at h
        · rename_i out hout
          have ih := nextGo_plain r out hout
          simp only [Option.some.injEq] at h
          subst h
          cases b with
          | false => exact ih
          | true =>
            intro x hx v hv
            rcases List.mem_cons.1 hx with h1 | h1
            · subst h1
              rcases List.mem_cons.1 hv with h2 | h2
              · subst h2; rfl
              · simp only [List.mem_singleton] at h2; subst h2; rfl
            · exact ih x h1 v hv
        · cases h
      · cases h
    · cases h
theorem next_core {E : Env} (hE : EnvOk Tryz.prog E) (hio1 : E.io 228 = []) (hio2 : E.io 225 = []) {devs rules : List (List DC)} {s : Int} {xs : List (List Value)} (hlen : devs.length < 1000)
    (h : nextGo E [.sl devs, .sl rules] s (List.range' 0 devs.length) = some xs) : IterOk Tryz.prog 227 [.cref [.sl devs, .sl rules] 0, .cref [.v (.int .i64 s)] 0] xs ∧ Bodied Tryz.prog 227 := by
  obtain ⟨fn, h1, h2, h3, h4, h5⟩ := is227
  cases hb : fn.body with
  | none => rw [hb] at h3; cases h3
  | some c =>
    rw [hb] at h3
    have hfn : fn = Tryz.f227 := by
      have := h1.symm.trans Tryz.func227
      simpa using this
    refine ⟨iterOk_of hE h1 hb (by rw [hfn]; rfl) ?_ (by rw [h2]; exact h3) (by rw [h2]; simp) (nextGo_plain _ _ h) fun l => ?_, ⟨fn, h1, by rw [hb]; rfl, h5⟩⟩
    · have : (Tryz.f227.body.map noDraw) = some true := by kernel_rfl
      rw [← hfn, hb] at this
      simpa using this
    · apply wp_ic
      simp -implicitDefEqProofs only [ac227, ac227_0, capT, effE_faddr, effE_len, rowsA, keepsL, pickL, aget, reduceIte, Nat.reduceEqDiff, icC_seq, icC_block, icC_region, icR_cons, icR_nil, ac227_1, ac227_2, ac227_3, ac227_4, ac227_5, okDst, Option.isNone, wantA, icW_t, icW_f, icY_none, icY_some, yieldOf, evO, Option.getD, effE_mv, effE_pick, eff.eq_7, effE_call hio1, effE_call hio2, effE_bin, toVal, plainC, binV_lss, binV_add, decide_true, decide_false, Option.map, ofVal, ofValC, plain, icX_some, applyA, backI, flatT, flatA, List.all, List.append, putT, aputs, keepO, icK_seq_n, icK_seq_r, icK_blk_n, icK_blk_r, icK_rounds_n, icK_rounds_r, icC_cond, icC_skip, icC_ret, boolA, icB_t, icB_f, icC_exit, icK_seq_e, icK_rounds_e, icK_blk_e, icK_nil, DoneI, true_and, Bool.and_self, oneA, argsA, toDV, toDC, List.mapM_cons, List.mapM_nil, pure_bind, bind_pure_comp, Option.pure_def, Option.bind_eq_bind, Option.bind, aggA, List.drop, List.take, List.length, Nat.reduceAdd, Nat.reduceLeDiff, Option.map_some, valsOf, namesA, namesC, callOut, List.isEmpty, importRs, importCs, freshAll, tupA, List.append_nil, List.nil_append, Bool.not_true, Bool.not_false, valO, Bool.false_eq_true, List.map_cons, List.map_nil, List.drop_zero, List.take_zero, Nat.zero_add, Nat.le_refl, List.length_cons, List.length_nil, List.take_succ_cons, List.any_nil, Bool.if_true_left, if_true, if_false, List.mapM, List.mapM.loop, List.reverse_cons, List.reverse_nil, List.flatMap_cons, List.flatMap_nil, Nat.zero_le, decide_eq_true_eq, Option.isSome, List.flatten_cons, List.flatten_nil, List.any_cons, viewR, viewD, List.mapM_cons, List.cons_append, Bool.or_false, freezeNames, notIn, Nat.add_zero, Nat.mul_zero]
      refine ⟨devs.length + 1, ?_⟩
      exact next_loop hio1 hio2 hlen devs.length 0 0 xs (by omega) h rfl (Nat.zero_le _)
theorem next_ok (E : Env) (hE : EnvOk Tryz.prog E) (f : Nat) (caps : List DC) (xs : List (List Value)) (h : nextSq E f caps = some xs) : IterOk Tryz.prog f caps xs ∧ Bodied Tryz.prog f := by
  unfold nextSq at h
  split at h
  · rename_i hf
    subst hf
    split at h
    · rename_i hio
      obtain ⟨hio1, hio2⟩ := hio
      split at h
      · rename_i devs rules s
        split at h
        · rename_i hlen
          exact next_core hE hio1 hio2 hlen h
        · cases h
      · cases h
    · cases h
  · cases h
end Go.AM
