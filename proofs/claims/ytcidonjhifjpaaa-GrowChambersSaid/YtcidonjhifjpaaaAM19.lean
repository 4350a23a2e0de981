/- The abstract machine: what an operation's effect depends on. -/
import Derived.Test.YtcidonjhifjpaaaAM18
namespace Go.AM

variable {P : Program} {E : Env} {T T' : Tab} {ρ ρ' : Operand → AV} {dst : Nat}

/-- The operands that an operation reads. -/
def opsOf : AOp → List Operand
  | .mv x | .box x | .load _ _ x | .faddr _ x | .field _ _ _ x | .extract _ x | .len x | .nilchk x | .bytes x => [x]
  | .pick c a b => [c, a, b]
  | .alloc _ | .bad => []
  | .build _ ps => ps.map fun p => p.2.2
  | .bslice _ _ _ ps => ps.map fun p => p.2
  | .store _ x y | .append _ _ x y | .copy _ x y | .bin _ _ x y | .eqagg _ x y | .mkslice _ _ _ x y => [x, y]
  | .iaddr _ _ x i | .index _ _ _ x i => [x, i]
  | .slice _ _ x lo hi | .view _ x lo hi => x :: (lo.toList ++ hi.toList)
  | .mkfn _ cs => cs
  | .call _ as => as
  | .calld x as => x :: as
  | .pure o => o.op.operands.toList

theorem buildGo_congr : ∀ (ps : List (Nat × Nat × Operand)) (cs : List C), (∀ x ∈ ps.map (fun p => p.2.2), ρ x = ρ' x) → buildGo ρ cs ps = buildGo ρ' cs ps
  | [], cs, _ => rfl
  | (off, sz, x) :: r, cs, h => by
    simp only [buildGo, h x (by simp)]
    split
    · split
      · exact buildGo_congr r _ fun y hy => h y (by simp only [List.map_cons, List.mem_cons]; exact .inr hy)
      · rfl
    · rfl

theorem bsliceGo_congr {sz : Nat} : ∀ (ps : List (Nat × Operand)) (T : Tab) (rows : List (List DC)) (es : List (Nat × Entry)), (∀ x ∈ ps.map (·.2), ρ x = ρ' x) → bsliceGo ρ sz T rows es ps = bsliceGo ρ' sz T rows es ps
  | [], _, _, _, _ => rfl
  | (i, x) :: r, T, rows, es, h => by
    simp only [bsliceGo, h x (by simp)]
    split
    · split
      · split
        · exact bsliceGo_congr r _ _ _ fun y hy => h y (by simp only [List.map_cons, List.mem_cons]; exact .inr hy)
        · rfl
      · rfl
    · rfl

theorem capsA_congr : ∀ (cs : List Operand), (∀ x ∈ cs, ρ x = ρ' x) → capsA ρ cs = capsA ρ' cs
  | [], _ => rfl
  | x :: r, h => by simp only [capsA, h x (by simp), capsA_congr r fun y hy => h y (List.mem_cons_of_mem _ hy)]

theorem argsA_congr : ∀ (cs : List Operand), (∀ x ∈ cs, ρ x = ρ' x) → argsA T ρ cs = argsA T ρ' cs
  | [], _ => rfl
  | x :: r, h => by simp only [argsA, h x (by simp), argsA_congr r fun y hy => h y (List.mem_cons_of_mem _ hy)]

theorem flatMap_congr' {α β : Type} {f f' : α → List β} : ∀ (l : List α), (∀ x ∈ l, f x = f' x) → l.flatMap f = l.flatMap f'
  | [], _ => rfl
  | x :: r, h => by simp only [List.flatMap_cons, h x (by simp), flatMap_congr' r fun y hy => h y (List.mem_cons_of_mem _ hy)]

theorem all_congr' {α : Type} {f f' : α → Bool} : ∀ (l : List α), (∀ x ∈ l, f x = f' x) → l.all f = l.all f'
  | [], _ => rfl
  | x :: r, h => by simp only [List.all_cons, h x (by simp), all_congr' r fun y hy => h y (List.mem_cons_of_mem _ hy)]

theorem boundA_congr {d : Int} (x : Option Operand) (h : ∀ y ∈ x.toList, ρ y = ρ' y) : boundA ρ d x = boundA ρ' d x := by
  cases x with
  | none => rfl
  | some y => simp only [boundA, h y (by simp)]

/-- An operation that is no select. -/
def noSel : AOp → Prop
  | .pure o => ∀ cs b, o.op ≠ .select cs b
  | _ => True

theorem eff_congr (ao : AOp) (hn : noSel ao) (h : ∀ x ∈ opsOf ao, ρ x = ρ' x) : eff P E T ρ dst ao = eff P E T ρ' dst ao := by
  cases ao
  case alloc z => rfl
  case bad => rfl
  case build z ps => simp only [eff, buildGo_congr ps z h]
  case bslice s n z ps => simp only [eff, bsliceGo_congr ps _ _ _ h]
  case mkfn f cs => simp only [eff, capsA_congr cs h]
  case call f as => simp only [eff, argsA_congr as h, flatMap_congr' (f := fun x => namesA T (ρ x)) (f' := fun x => namesA T (ρ' x)) as fun x hx => by rw [h x hx]]
  case calld x as =>
    have h' : ∀ y ∈ as, ρ y = ρ' y := fun y hy => h y (List.mem_cons_of_mem _ hy)
    simp only [eff, h x (by simp [opsOf]), argsA_congr as h', flatMap_congr' (f := fun x => namesA T (ρ x)) (f' := fun x => namesA T (ρ' x)) as fun y hy => by rw [h' y hy]]
  case pure o =>
    have e0 : ∀ x, ρ x = ρ' x → valO ρ x = valO ρ' x := fun x hx => by cases x <;> simp [valO, hx]
    have e1 := all_congr' (f := fun x => (valO ρ x).isSome) (f' := fun x => (valO ρ' x).isSome) o.op.operands.toList fun x hx => by rw [e0 x (h x hx)]
    have e2 := execOp_congr (ρ := fun x => (valO ρ x).getD undef) (ρ' := fun x => (valO ρ' x).getD undef) o hn fun x hx => by simp only [e0 x (h x (by simpa [opsOf] using hx))]
    simp only [eff, e1, e2]
  case slice s m x lo hi =>
    have hl : ∀ d, boundA ρ d lo = boundA ρ' d lo := fun d => boundA_congr lo fun y hy => h y (by simp [opsOf]; exact .inr (.inl (by simpa using hy)))
    have hh : ∀ d, boundA ρ d hi = boundA ρ' d hi := fun d => boundA_congr hi fun y hy => h y (by simp [opsOf]; exact .inr (.inr (by simpa using hy)))
    simp only [eff, h x (by simp [opsOf]), hl, hh]
  case view s x lo hi =>
    have hl : ∀ d, boundA ρ d lo = boundA ρ' d lo := fun d => boundA_congr lo fun y hy => h y (by simp [opsOf]; exact .inr (.inl (by simpa using hy)))
    have hh : ∀ d, boundA ρ d hi = boundA ρ' d hi := fun d => boundA_congr hi fun y hy => h y (by simp [opsOf]; exact .inr (.inr (by simpa using hy)))
    simp only [eff, h x (by simp [opsOf]), hl, hh]
  case iaddr s arr x i => cases arr <;> simp only [eff, h x (by simp [opsOf]), h i (by simp [opsOf])]
  case pick c a b => simp only [eff, h c (by simp [opsOf]), h a (by simp [opsOf]), h b (by simp [opsOf])]
  all_goals simp_all [eff, opsOf]

/-! ### The table -/

/-- Two tables say the same of some names. -/
def Agree (l : List Nat) (T T' : Tab) : Prop := ∀ n ∈ l, aget T' n = aget T n

theorem Agree.sub {l l' : List Nat} (h : Agree l T T') (hs : ∀ n ∈ l', n ∈ l) : Agree l' T T' := fun n hn => h n (hs n hn)

theorem Agree.aput {l : List Nat} (h : Agree l T T') (n : Nat) (e : Entry) : Agree l (aput T n e) (aput T' n e) := by
  intro m hm
  rw [aget_aput, aget_aput]
  split
  · rfl
  · exact h m hm

theorem Agree.aputs {l : List Nat} : ∀ (es : List (Nat × Entry)) {T T' : Tab}, Agree l T T' → Agree l (aputs T es) (aputs T' es)
  | [], _, _, h => h
  | (n, e) :: r, _, _, h => Agree.aputs r (h.aput n e)

/-- The names of a cell itself. -/
def nameC : C → List Nat
  | .ref n | .eptr n _ _ | .ptr n _ | .sub n _ _ => [n]
  | _ => []

def nameA : AV → List Nat
  | .val _ cs => cs.flatMap nameC
  | .tup _ => []

theorem nameA_one {x : AV} {c : C} (h : oneA x = some c) : nameA x = nameC c := by
  unfold oneA at h
  split at h
  · simp only [Option.some.injEq] at h; subst h; simp [nameA]
  · cases h

theorem nameA_cells {x : AV} {cs : List C} (h : cellsA x = some cs) : nameA x = cs.flatMap nameC := by
  cases x with
  | val b l => simp only [cellsA, Option.some.injEq] at h; subst h; rfl
  | tup l => cases h

theorem mapM_congr' {α β : Type} {f f' : α → Option β} : ∀ (l : List α), (∀ x ∈ l, f x = f' x) → l.mapM f = l.mapM f'
  | [], _ => rfl
  | x :: r, h => by simp only [List.mapM_cons, h x (by simp), mapM_congr' r fun y hy => h y (List.mem_cons_of_mem _ hy)]

/-- What a cell leads to, and reads as, is a matter of the names it leads to. -/
theorem toDC_congr : ∀ (k : Nat) (c : C), Agree (namesC T k c) T T' → toDC T' k c = toDC T k c ∧ namesC T' k c = namesC T k c
  | 0, _, _ => ⟨rfl, rfl⟩
  | k + 1, c, h => by
    cases c with
    | d x => exact ⟨rfl, rfl⟩
    | nils => exact ⟨rfl, rfl⟩
    | und => exact ⟨rfl, rfl⟩
    | unk => exact ⟨rfl, rfl⟩
    | yld l => exact ⟨rfl, rfl⟩
    | sub n lo hi => exact ⟨rfl, rfl⟩
    | ref n => exact ⟨by simp only [toDC, h n (by simp [namesC])], rfl⟩
    | eptr n i off => exact ⟨by simp only [toDC, h n (by simp [namesC])], rfl⟩
    | ptr n off =>
      have h1 := h n (by simp [namesC])
      simp only [toDC, namesC, h1]
      cases he : aget T n with
      | none => exact ⟨rfl, rfl⟩
      | some e =>
        cases e with
        | box cs =>
          have ih : ∀ c ∈ cs, toDC T' k c = toDC T k c ∧ namesC T' k c = namesC T k c := fun c hc =>
            toDC_congr k c (h.sub fun m hm => by simp only [namesC, he]; exact List.mem_cons_of_mem _ (List.mem_flatMap.2 ⟨c, hc, hm⟩))
          exact ⟨by simp only [mapM_congr' cs fun c hc => (ih c hc).1], by simp only [flatMap_congr' cs fun c hc => (ih c hc).2]⟩
        | _ => exact ⟨rfl, rfl⟩
    | fn f caps =>
      have ih : ∀ c ∈ caps, capDC (toDC T' k) T' c = capDC (toDC T k) T c ∧
          (match c with | .ptr n => n :: (match aget T' n with | some (.box cs) => cs.flatMap (namesC T' k) | _ => []) | .d _ => []) =
          (match c with | .ptr n => n :: (match aget T n with | some (.box cs) => cs.flatMap (namesC T k) | _ => []) | .d _ => []) := by
        intro c hc
        cases c with
        | d x => exact ⟨rfl, rfl⟩
        | ptr n =>
          have hsub : ∀ m ∈ n :: (match aget T n with | some (.box cs) => cs.flatMap (namesC T k) | _ => []), m ∈ namesC T (k + 1) (.fn f caps) := fun m hm => by
            simp only [namesC]; exact List.mem_flatMap.2 ⟨.ptr n, hc, hm⟩
          have h1 := h n (hsub n (by simp))
          simp only [capDC, h1]
          cases he : aget T n with
          | none => exact ⟨rfl, rfl⟩
          | some e =>
            cases e with
            | box cs =>
              have ih : ∀ c ∈ cs, toDC T' k c = toDC T k c ∧ namesC T' k c = namesC T k c := fun c hc =>
                toDC_congr k c (h.sub fun m hm => hsub m (by simp only [he]; exact List.mem_cons_of_mem _ (List.mem_flatMap.2 ⟨c, hc, hm⟩)))
              exact ⟨by simp only [mapM_congr' cs fun c hc => (ih c hc).1], by simp only [flatMap_congr' cs fun c hc => (ih c hc).2]⟩
            | _ => exact ⟨rfl, rfl⟩
      refine ⟨by simp only [toDC, mapM_congr' caps fun c hc => (ih c hc).1], ?_⟩
      simp only [namesC]
      exact flatMap_congr' caps fun c hc => (ih c hc).2

theorem toDV_congr {x : AV} (h : Agree (namesA T x) T T') : toDV T' x = toDV T x ∧ namesA T' x = namesA T x := by
  cases x with
  | tup l => exact ⟨rfl, rfl⟩
  | val b cs =>
    have ih : ∀ c ∈ cs, toDC T' 4 c = toDC T 4 c ∧ namesC T' 4 c = namesC T 4 c := fun c hc => toDC_congr 4 c (h.sub fun m hm => List.mem_flatMap.2 ⟨c, hc, hm⟩)
    exact ⟨by simp only [toDV, mapM_congr' cs fun c hc => (ih c hc).1], by simp only [namesA, flatMap_congr' cs fun c hc => (ih c hc).2]⟩

theorem argsT_congr : ∀ (cs : List Operand), Agree (cs.flatMap fun x => namesA T (ρ x)) T T' →
    argsA T' ρ cs = argsA T ρ cs ∧ (cs.flatMap fun x => namesA T' (ρ x)) = cs.flatMap fun x => namesA T (ρ x)
  | [], _ => ⟨rfl, rfl⟩
  | x :: r, h => by
    obtain ⟨h1, h2⟩ := toDV_congr (x := ρ x) (h.sub fun m hm => by simp only [List.flatMap_cons]; exact List.mem_append_left _ hm)
    obtain ⟨h3, h4⟩ := argsT_congr r (h.sub fun m hm => by simp only [List.flatMap_cons]; exact List.mem_append_right _ hm)
    exact ⟨by simp only [argsA, h1, h3], by simp only [List.flatMap_cons, h2, h4]⟩

theorem freezeC_congr {c : C} (h : Agree (nameC c) T T') : freezeC T' c = freezeC T c := by
  cases c with
  | ref n => simp only [freezeC, h n (by simp [nameC])]
  | fn f caps => cases caps <;> rfl
  | _ => rfl

theorem freezeCs_congr : ∀ (cs : List C) {T T' : Tab}, Agree (cs.flatMap nameC) T T' → freezeCs T' cs = freezeCs T cs
  | [], _, _, _ => rfl
  | c :: r, T, T', h => by
    simp only [freezeCs, freezeC_congr (h.sub fun m hm => by simp only [List.flatMap_cons]; exact List.mem_append_left _ hm)]
    cases freezeC T c with
    | none => rfl
    | some p =>
      simp only []
      rw [freezeCs_congr r ((h.sub fun m hm => by simp only [List.flatMap_cons]; exact List.mem_append_right _ hm).aputs p.2)]

theorem bsliceT_congr {sz : Nat} : ∀ (ps : List (Nat × Operand)) {T T' : Tab} (rows : List (List DC)) (es : List (Nat × Entry)), Agree (ps.flatMap fun p => nameA (ρ p.2)) T T' →
    bsliceGo ρ sz T' rows es ps = bsliceGo ρ sz T rows es ps
  | [], _, _, _, _, _ => rfl
  | (i, x) :: r, T, T', rows, es, h => by
    simp only [bsliceGo]
    cases hx : cellsA (ρ x) with
    | none => rfl
    | some xs =>
      simp only []
      rw [freezeCs_congr xs (h.sub fun m hm => by simp only [List.flatMap_cons, nameA_cells hx]; exact List.mem_append_left _ hm)]
      cases freezeCs T xs with
      | none => rfl
      | some p =>
        simp only []
        split
        · exact bsliceT_congr r _ _ ((h.sub fun m hm => by simp only [List.flatMap_cons]; exact List.mem_append_right _ hm).aputs p.2)
        · rfl

theorem rowsA_congr {x : AV} (h : Agree (nameA x) T T') : rowsA T' x = rowsA T x := by
  unfold rowsA
  split
  · rfl
  · rfl
  · rename_i n; rw [h n (by simp [nameA, nameC])]
  · rename_i n lo hi; rw [h n (by simp [nameA, nameC])]
  · rfl

theorem freezeNames_congr : ∀ (l : List Nat) {T T' : Tab}, Agree l T T' → freezeNames T' l = freezeNames T l
  | [], _, _, _ => rfl
  | n :: r, T, T', h => by
    have h' : Agree r T T' := h.sub fun m hm => List.mem_cons_of_mem _ hm
    simp only [freezeNames, h n (by simp)]
    split
    · rw [freezeNames_congr r (h'.aput n _)]
    · rw [freezeNames_congr r (h'.aput n _)]
    · exact freezeNames_congr r h'

theorem freshAll_congr : ∀ (es : List (Nat × Entry)) {T T' : Tab}, Agree (es.map (·.1)) T T' → freshAll T' es = freshAll T es
  | [], _, _, _ => rfl
  | p :: r, T, T', h => by
    simp only [freshAll, h p.1 (by simp), freshAll_congr r (h.sub fun m hm => by simp only [List.map_cons]; exact List.mem_cons_of_mem _ hm)]

theorem callOut_congr {base : Nat} {names : List Nat} {res : List RV} {y : AV} {es : List (Nat × Entry)} (h : Agree (names ++ es.map (·.1)) T T') (hc : callOut base T names res = some (y, es)) :
    callOut base T' names res = some (y, es) := by
  unfold callOut at hc ⊢
  rw [freezeNames_congr names (h.sub fun m hm => List.mem_append_left _ hm)]
  simp only [] at hc ⊢
  generalize hf : (if names.isEmpty = true then ([] : List (Nat × Entry)) else if (res.any fun r => r.2.any viewR) = true then freezeNames T names else []) = frz at hc ⊢
  have hag : Agree ((importRs base 0 res).2.map (·.1)) (aputs T frz) (aputs T' frz) := by
    split at hc
    · simp only [Option.some.injEq, Prod.mk.injEq] at hc
      refine (h.sub fun m hm => List.mem_append_right _ ?_).aputs frz
      rw [← hc.2, List.map_append]
      exact List.mem_append_right _ hm
    · cases hc
  rw [freshAll_congr _ hag]
  exact hc

/-- The names that an operation looks at, but for those that it makes. -/
def looksN (T : Tab) (ρ : Operand → AV) : AOp → List Nat
  | .load _ _ x | .len x | .iaddr _ none x _ | .slice _ _ x _ _ | .view _ x _ _ => nameA (ρ x)
  | .store _ x y | .append _ _ x y | .copy _ x y => nameA (ρ x) ++ nameA (ρ y)
  | .bslice _ _ _ ps => ps.flatMap fun p => nameA (ρ p.2)
  | .call _ as => as.flatMap fun x => namesA T (ρ x)
  | .calld x as => (match oneA (ρ x) with | some c => namesC T 4 c | none => []) ++ as.flatMap fun x => namesA T (ρ x)
  | _ => []

theorem Agree.none_new {l : List Nat} {es : List (Nat × Entry)} (h : Agree (l ++ es.map (·.1)) T T') {n : Nat} {e : Entry} (hn : (n, e) ∈ es) : aget T' n = aget T n :=
  h n (List.mem_append_right _ (List.mem_map.2 ⟨_, hn, rfl⟩))

theorem effT_congr {ao : AOp} {y : AV} {es : List (Nat × Entry)} (h : Agree (looksN T ρ ao ++ es.map (·.1)) T T') (he : eff P E T ρ dst ao = some (y, es)) : eff P E T' ρ dst ao = some (y, es) := by
  have hl : Agree (looksN T ρ ao) T T' := h.sub fun m hm => List.mem_append_left _ hm
  have hx : ∀ {x : AV} {c : C}, oneA x = some c → (∀ m ∈ nameA x, m ∈ looksN T ρ ao) → Agree (nameC c) T T' := fun h1 h2 => hl.sub fun m hm => h2 m (by rw [nameA_one h1]; exact hm)
  cases ao
  case alloc z =>
    simp only [eff] at he ⊢
    split at he
    · rename_i hf
      simp only [Option.some.injEq, Prod.mk.injEq] at he
      have := h.none_new (n := dst) (e := .box z) (by rw [← he.2]; simp)
      rw [this, if_pos hf]
      simp only [Option.some.injEq, Prod.mk.injEq]; exact he
    · cases he
  case box x =>
    simp only [eff] at he ⊢
    split at he
    · rename_i cs hcs
      split at he
      · rename_i hf
        simp only [Option.some.injEq, Prod.mk.injEq] at he
        have := h.none_new (n := dst) (e := .box cs) (by rw [← he.2]; simp)
        rw [this, if_pos hf]
        simp only [Option.some.injEq, Prod.mk.injEq]; exact he
      · cases he
    · cases he
  case bslice s n z ps =>
    simp only [eff] at he ⊢
    have hb : Agree (ps.flatMap fun p => nameA (ρ p.2)) T T' := hl
    rw [bsliceT_congr ps _ _ hb]
    split at he
    · rename_i rows es' hgo
      split at he
      · rename_i hf
        simp only [Option.some.injEq, Prod.mk.injEq] at he
        have ha : Agree [dst] T T' := h.sub fun m hm => by
          simp only [List.mem_singleton] at hm
          refine List.mem_append_right _ ?_
          rw [← he.2, hm]; simp
        have := (ha.aputs es') dst (by simp)
        rw [this, if_pos hf]
        simp only [Option.some.injEq, Prod.mk.injEq]; exact he
      · cases he
    · cases he
  case load agg sz x =>
    simp only [eff] at he ⊢
    split at he <;> rename_i h1
    · rw [(hx h1 fun m hm => hm) _ (by simp [nameC])]; exact he
    · rw [(hx h1 fun m hm => hm) _ (by simp [nameC])]; exact he
    · exact he
    · cases he
  case store sz x y =>
    simp only [eff] at he ⊢
    split at he
    · rename_i h1 h2
      rw [(hx h2 fun m hm => List.mem_append_left _ hm) _ (by simp [nameC])]; exact he
    · rename_i ys n i off h1 h2
      have hys : Agree (ys.flatMap nameC) T T' := hl.sub fun m hm => List.mem_append_right _ (by rw [nameA_cells h1]; exact hm)
      rw [freezeCs_congr ys hys]
      split at he
      · rename_i ds es' hf
        have ha : Agree [n] T T' := (hx h2 fun m hm => List.mem_append_left _ hm).sub fun m hm => by simpa [nameC] using hm
        rw [(ha.aputs es') n (by simp)]
        exact he
      · cases he
    · cases he
  case iaddr sz arr x i =>
    cases arr with
    | none =>
      simp only [eff] at he ⊢
      split at he <;> rename_i h0 h1
      · exact he
      · rw [(hx h1 fun m hm => hm) _ (by simp [nameC])]; exact he
      · cases he
    | some len => exact he
  case slice sz mv x lo hi =>
    simp only [eff] at he ⊢
    split at he <;> rename_i h1
    · exact he
    · exact he
    · rename_i n
      rw [(hx h1 fun m hm => hm) _ (by simp [nameC])]
      split at he
      · rename_i s rows h2
        split at he
        · rename_i l hh h3 h4
          split at he
          · rename_i hc
            split at he
            · rename_i hm
              split at he
              · rename_i hf
                simp only [Option.some.injEq, Prod.mk.injEq] at he
                have := h.none_new (n := dst) (e := .own s ((rows.take hh.toNat).drop l.toNat)) (by rw [← he.2]; simp)
                rw [this]
                rw [if_pos hc, if_pos hm, if_pos hf]
                simp only [Option.some.injEq, Prod.mk.injEq]; exact he
              · cases he
            · rename_i hm
              rw [if_pos hc, if_neg hm]
              exact he
          · cases he
        · cases he
      · exact he
      · cases he
    · cases he
  case mkslice sz bytes z l c =>
    simp only [eff] at he ⊢
    split at he
    · split at he
      · rename_i hc
        simp only [Option.some.injEq, Prod.mk.injEq] at he
        have := h.none_new (n := dst) (by rw [← he.2]; exact List.mem_singleton.2 rfl)
        rw [this, if_pos hc]
        simp only [Option.some.injEq, Prod.mk.injEq]; exact he
      · cases he
    · cases he
  case bytes x =>
    simp only [eff] at he ⊢
    split at he
    · split at he
      · rename_i hf
        simp only [Option.some.injEq, Prod.mk.injEq] at he
        have := h.none_new (n := dst) (by rw [← he.2]; exact List.mem_singleton.2 rfl)
        rw [this, if_pos hf]
        simp only [Option.some.injEq, Prod.mk.injEq]; exact he
      · cases he
    · cases he
  case len x =>
    simp only [eff] at he ⊢
    rw [rowsA_congr (x := ρ x) (hl.sub fun m hm => hm)]; exact he
  case append sz bytes x y =>
    simp only [eff] at he ⊢
    rw [rowsA_congr (x := ρ y) (hl.sub fun m hm => List.mem_append_right _ hm)]
    split at he
    · split at he
      · split at he
        · rename_i hc
          simp only [Option.some.injEq, Prod.mk.injEq] at he
          have := h.none_new (n := dst) (by rw [← he.2]; exact List.mem_singleton.2 rfl)
          rw [this, if_pos hc]
          simp only [Option.some.injEq, Prod.mk.injEq]; exact he
        · cases he
      · rename_i n h1
        rw [(hx h1 fun m hm => List.mem_append_left _ hm) _ (by simp [nameC])]
        split at he
        · split at he
          · rename_i hc
            simp only [Option.some.injEq, Prod.mk.injEq] at he
            have := h.none_new (n := dst) (by rw [← he.2]; exact List.mem_cons_of_mem _ (List.mem_singleton.2 rfl))
            rw [this, if_pos hc]
            simp only [Option.some.injEq, Prod.mk.injEq]; exact he
          · cases he
        · cases he
      · cases he
    · cases he
  case copy sz x y =>
    simp only [eff] at he ⊢
    rw [rowsA_congr (x := ρ y) (hl.sub fun m hm => List.mem_append_right _ hm)]
    cases hone : oneA (ρ x) with
    | none => rw [hone] at he; simp only [Option.bind_none] at he; split at he <;> simp_all
    | some c =>
      rw [hone] at he
      have hc := hx hone fun m hm => List.mem_append_left _ hm
      have hp : partA T' c = partA T c := by
        cases c <;> try rfl
        case ref n => simp only [partA, hc n (by simp [nameC])]
      simp only [Option.bind_some, hp] at he ⊢
      split at he
      · rename_i rows2 n lo hi h1 h2
        have hn : aget T' n = aget T n := by
          refine hc n ?_
          cases c with
          | ref k =>
            simp only [partA] at h2
            split at h2
            · simp only [Option.some.injEq, Prod.mk.injEq] at h2; obtain ⟨rfl, _, _⟩ := h2; simp [nameC]
            · cases h2
          | sub k a b => simp only [partA, Option.some.injEq, Prod.mk.injEq] at h2; obtain ⟨rfl, _, _⟩ := h2; simp [nameC]
          | _ => simp [partA] at h2
        rw [hn]
        exact he
      · cases he
  case view sz x lo hi =>
    simp only [eff] at he ⊢
    split at he <;> rename_i h1
    · rename_i n
      rw [(hx h1 fun m hm => hm) _ (by simp [nameC])]
      exact he
    · cases he
  case call f as =>
    simp only [eff] at he ⊢
    obtain ⟨h1, h2⟩ := argsT_congr as (T := T) (T' := T') (ρ := ρ) hl
    rw [h1, h2]
    split at he
    · split at he
      · exact callOut_congr h he
      · cases he
    · cases he
  case calld x as =>
    simp only [eff] at he ⊢
    obtain ⟨h1, h2⟩ := argsT_congr as (T := T) (T' := T') (ρ := ρ) (hl.sub fun m hm => by simp only [looksN]; exact List.mem_append_right _ hm)
    rw [h1, h2]
    split at he
    · rename_i c ds hc hds
      obtain ⟨h3, h4⟩ := toDC_congr (T := T) (T' := T') 4 c (hl.sub fun m hm => by simp only [looksN, hc]; exact List.mem_append_left _ hm)
      rw [h3, h4]
      split at he
      · split at he
        · refine callOut_congr ?_ he
          simp only [looksN, hc] at h
          exact h
        · cases he
      · cases he
    · cases he
  all_goals exact he

end Go.AM
