/- Runs in continuation form: operations on memory; code. -/
import Derived.Test.YtcidonjhifjpaaaKM3
namespace Go.AM
variable {α β : Type} {P : Program}

def viewDR : RC → Bool
  | .d x => viewD x
  | .own _ _ => false
def ownRC : List RC → List (List (List DC))
  | [] => []
  | .d _ :: r => ownRC r
  | .own _ rows :: r => rows :: ownRC r
def ownRs : List RV → List (List (List DC))
  | [] => []
  | x :: r => ownRC x.2 ++ ownRs r
/-- Slices of cells that lead nowhere. -/
def flatK (l : List (List (List DC))) (x : Option α) : Option α := match l with
  | [] => x
  | rows :: r => match flatRows rows && r.all flatRows with
    | true => x
    | false => none

def outRs (dst : Nat) (T : Tab) (frz : List (Nat × Entry)) (res : List RV) (k : AV → List (Nat × Entry) → Option α) : Option α :=
  let es := (importRs dst 0 res).2
  match freshAll (aputs T frz) es with
  | true => k (tupA (importRs dst 0 res).1) (frz ++ es)
  | false => none

def callOutK (dst : Nat) (T : Tab) (names : List Nat) (res : List RV) (k : AV → List (Nat × Entry) → Option α) : Option α :=
  match names with
  | [] => outRs dst T [] res k
  | _ :: _ => match res.any fun r => r.2.any viewDR with
    | true => outRs dst T (freezeNames T names) res k
    | false => flatK (ownRs res) (outRs dst T [] res k)

theorem outRs_some {dst : Nat} {T : Tab} {frz : List (Nat × Entry)} {res : List RV} {k : AV → List (Nat × Entry) → Option α} {a : α} (h : outRs dst T frz res k = some a) :
    freshAll (aputs T frz) (importRs dst 0 res).2 = true ∧ k (tupA (importRs dst 0 res).1) (frz ++ (importRs dst 0 res).2) = some a := by
  unfold outRs at h
  simp only at h
  split at h
  · rename_i hf; exact ⟨hf, h⟩
  · cases h

theorem flatK_some {l : List (List (List DC))} {x : Option α} {a : α} (h : flatK l x = some a) : l.all flatRows = true ∧ x = some a := by
  unfold flatK at h
  split at h
  · exact ⟨rfl, h⟩
  · split at h
    · rename_i hf; exact ⟨by simpa using hf, h⟩
    · cases h

theorem viewDR_flat : ∀ (cs : List RC), cs.any viewDR = false → (ownRC cs).all flatRows = true → cs.any viewR = false
  | [], _, _ => rfl
  | .d x :: r, h1, h2 => by
    simp only [List.any_cons, viewDR, Bool.or_eq_false_iff] at h1
    simp only [List.any_cons, viewR, h1.1, Bool.false_or]
    exact viewDR_flat r h1.2 (by simpa [ownRC] using h2)
  | .own s rows :: r, h1, h2 => by
    simp only [List.any_cons, viewDR, Bool.false_or] at h1
    simp only [ownRC, List.all_cons, Bool.and_eq_true] at h2
    simp only [List.any_cons, viewR, h2.1, Bool.not_true, Bool.false_or]
    exact viewDR_flat r h1 h2.2

theorem viewDRs_flat : ∀ (res : List RV), (res.any fun r => r.2.any viewDR) = false → (ownRs res).all flatRows = true → (res.any fun r => r.2.any viewR) = false
  | [], _, _ => rfl
  | x :: r, h1, h2 => by
    simp only [List.any_cons, Bool.or_eq_false_iff] at h1 ⊢
    simp only [ownRs, List.all_append, Bool.and_eq_true] at h2
    exact ⟨viewDR_flat _ h1.1 h2.1, viewDRs_flat r h1.2 h2.2⟩

theorem viewDR_any : ∀ (cs : List RC), cs.any viewDR = true → cs.any viewR = true
  | [], h => by cases h
  | .d x :: r, h => by
    simp only [List.any_cons, viewDR, viewR, Bool.or_eq_true] at h ⊢
    exact h.imp id (viewDR_any r)
  | .own s rows :: r, h => by
    simp only [List.any_cons, viewDR, Bool.false_or] at h
    simp only [List.any_cons, viewDR_any r h, Bool.or_true]

theorem callOutK_some {dst : Nat} {T : Tab} {names : List Nat} {res : List RV} {k : AV → List (Nat × Entry) → Option α} {a : α} (h : callOutK dst T names res k = some a) : ∃ y es, callOut dst T names res = some (y, es) ∧ k y es = some a := by
  unfold callOutK at h
  split at h
  · obtain ⟨h1, h2⟩ := outRs_some h
    exact ⟨_, _, by simp only [callOut, List.isEmpty, if_true]; rw [if_pos h1], h2⟩
  · rename_i n ns
    split at h
    · rename_i hv
      obtain ⟨h1, h2⟩ := outRs_some h
      have hv' : (res.any fun r => r.2.any viewR) = true := by
        obtain ⟨x, hx, hh⟩ := List.any_eq_true.1 hv
        exact List.any_eq_true.2 ⟨x, hx, viewDR_any _ hh⟩
      exact ⟨_, _, by simp only [callOut, List.isEmpty, hv', if_true, Bool.false_eq_true, if_false]; rw [if_pos h1], h2⟩
    · rename_i hv
      obtain ⟨h3, h4⟩ := flatK_some h
      obtain ⟨h1, h2⟩ := outRs_some h4
      have hv' := viewDRs_flat res hv h3
      exact ⟨_, _, by simp only [callOut, List.isEmpty, hv', Bool.false_eq_true, if_false]; rw [if_pos h1], h2⟩

theorem outRs_bind {dst : Nat} {T : Tab} {frz : List (Nat × Entry)} {res : List RV} {k : AV → List (Nat × Entry) → Option α} {g : α → Option β} : (outRs dst T frz res k).bind g = outRs dst T frz res fun y es => (k y es).bind g := by
  unfold outRs; simp only; split <;> rfl
theorem flatK_bind {l : List (List (List DC))} {x : Option α} {g : α → Option β} : (flatK l x).bind g = flatK l (x.bind g) := by
  unfold flatK; split
  · rfl
  · split <;> rfl
theorem callOutK_bind {dst : Nat} {T : Tab} {names : List Nat} {res : List RV} {k : AV → List (Nat × Entry) → Option α} {g : α → Option β} : (callOutK dst T names res k).bind g = callOutK dst T names res fun y es => (k y es).bind g := by
  unfold callOutK
  split
  · exact outRs_bind
  · split
    · exact outRs_bind
    · rw [flatK_bind, outRs_bind]

def effK (P : Program) (E : EnvK) (T : Tab) (ρ : Operand → AV) (dst : Nat) (sh : List Sh) (ao : AOp) (k : AV → List (Nat × Entry) → Option α) : Option α :=
  match ao with
  | .pick c a b => match boolA (ρ c) with
    | some t => cK t (k (ρ a) []) (k (ρ b) [])
    | none => none
  | .iaddr sz none x i => match intA (ρ i), oneA (ρ x) with
    | some z, some (.d (.sl rows)) => if sh.length = sz then rowK rows z sh (unc sh fun cs => k (.val false [.d (.cref cs 0)]) []) else none
    | some z, some (.ref n) => match aget T n with
      | some (.own _ rows) | some (.imm rows) => ixK rows z sz (k (.val false [.eptr n z.toNat 0]) [])
      | _ => none
    | _, _ => none
  | .iaddr sz (some len) x i => match intA (ρ i), oneA (ρ x) with
    | some z, some (.ptr n o) => selK len z fun j => k (.val false [.ptr n (o + j * sz)]) []
    | some z, some (.eptr n m o) => selK len z fun j => k (.val false [.eptr n m (o + j * sz)]) []
    | some z, some (.d (.cref cs o)) => selK len z fun j => k (.val false [.d (.cref cs (o + j * sz))]) []
    | _, _ => none
  | .load agg sz x => match oneA (ρ x) with
    | some (.eptr n i off) => match aget T n with
      | some (.own _ rows) | some (.imm rows) => if sh.length = sz ∧ 0 < sz then ldK rows i off sh (unc sh fun cs => match aggA agg (cs.map .d) with | some y => k y [] | none => none) else none
      | _ => none
    | _ => dfltK P E.env T ρ dst ao k
  | .store sz x y => match cellsA (ρ y), oneA (ρ x) with
    | some ys, some (.eptr n i off) => match freezeCs T ys with
      | some (ds, es) => match aget (aputs T es) n with
        | some (.own s rows) => if ys.length = sz then stK rows i off sz (k (.val false [.und]) (es ++ [(n, .own s (rows.set i (splice (rowAt rows i) off ds)))])) else none
        | _ => none
      | none => none
    | _, _ => dfltK P E.env T ρ dst ao k
  | .index agg len sz x i => match aggCs (ρ x), intA (ρ i) with
    | some cs, some z => selK len z fun j => if j * sz + sz ≤ cs.length then match aggA agg ((cs.drop (j * sz)).take sz) with | some y => k y [] | none => none else none
    | _, _ => none
  | .slice sz move x lo hi => match oneA (ρ x) with
    | some (.d (.sl rows)) => match boundA ρ 0 lo, boundA ρ rows.length hi with
      | some l, some h => gK (decide (0 ≤ l ∧ l ≤ h ∧ h ≤ rows.length ∧ allLen sz rows = true)) (k (.val false [.d (.sl ((rows.take h.toNat).drop l.toNat))]) [])
      | _, _ => none
    | some (.ref n) => match aget T n with
      | some (.own s rows) => match boundA ρ 0 lo, boundA ρ rows.length hi with
        | some l, some h => if s = sz then gK (decide (0 ≤ l ∧ l ≤ h ∧ h ≤ rows.length))
            (match move with
            | true => (if (aget T dst).isNone then k (.val false [.ref dst]) [(n, .dead), (dst, .own s ((rows.take h.toNat).drop l.toNat))] else none)
            | false => k (.val false [.d (.sl ((rows.take h.toNat).drop l.toNat))]) [(n, .imm rows)]) else none
        | _, _ => none
      | some (.imm rows) => match boundA ρ 0 lo, boundA ρ rows.length hi with
        | some l, some h => gK (decide (0 ≤ l ∧ l ≤ h ∧ h ≤ rows.length ∧ allLen sz rows = true)) (k (.val false [.d (.sl ((rows.take h.toNat).drop l.toNat))]) [])
        | _, _ => none
      | _ => none
    | _ => dfltK P E.env T ρ dst ao k
  | .view sz x lo hi => match oneA (ρ x) with
    | some (.ref n) => match aget T n with
      | some (.own s rows) => match boundA ρ 0 lo, boundA ρ rows.length hi with
        | some l, some h => if s = sz then gK (decide (0 ≤ l ∧ l ≤ h ∧ h ≤ rows.length)) (cK (decide (l < h)) (k (.val false [.sub n l.toNat h.toNat]) []) (k (.val false [.d (.sl [])]) [])) else none
        | _, _ => none
      | _ => none
    | _ => none
  | .mkslice sz bytes zero len cap => match intA (ρ len), intA (ρ cap) with
    | some l, some c => if (aget T dst).isNone then gK (decide (0 ≤ l ∧ l ≤ c ∧ bytes * c ≤ 140737488355328 ∧ c ≤ 9223372036854775807)) (k (.val false [.ref dst]) [(dst, .own sz (List.replicate l.toNat zero))]) else none
    | _, _ => none
  | .append sz bytes x y => match rowsA T (ρ y) with
    | some rows2 => match oneA (ρ x) with
      | some .nils => if (aget T dst).isNone then gK (decide (allLen sz rows2 = true ∧ rows2.length * bytes ≤ 140737488355328 ∧ rows2.length ≤ 9223372036854775807)) (k (.val false [.ref dst]) [(dst, .own sz rows2)]) else none
      | some (.ref n) => match aget T n with
        | some (.own s rows) => if s = sz ∧ (aget T dst).isNone then
            gK (decide (allLen sz rows2 = true ∧ (rows.length + rows2.length) * bytes ≤ 140737488355328 ∧ rows.length + rows2.length ≤ 9223372036854775807)) (k (.val false [.ref dst]) [(n, .dead), (dst, .own sz (rows ++ rows2))]) else none
        | _ => none
      | _ => none
    | none => none
  | .copy sz x y => match rowsA T (ρ y), (oneA (ρ x)).bind (partA T) with
    | some rows2, some (n, lo, hi) => match aget T n with
      | some (.own s rows) => if s = sz then gK (decide (allLen sz rows2 = true ∧ lo < hi ∧ hi ≤ rows.length))
          (k (.val false [.d (.v (.int .i64 (min rows2.length (hi - lo) : Nat)))]) [(n, .own s (splice rows lo (rows2.take (hi - lo))))]) else none
      | _ => none
    | _, _ => none
  | .bytes x => match toVal (ρ x) with
    | some (.string s) => if (aget T dst).isNone then gK (decide (s.size ≤ 9223372036854775807)) (k (.val false [.ref dst]) [(dst, .own 1 (s.data.toList.map fun b => [.v (.int .u8 b.toNat)]))]) else none
    | _ => none
  | .call f args => match argsA T ρ args with
    | some ds => E.call α f ds fun res => callOutK dst T (args.flatMap fun x => namesA T (ρ x)) res k
    | none => none
  | .calld x args => match oneA (ρ x), argsA T ρ args with
    | some c, some ds => match toDC T 4 c with
      | some (.fn f caps) => E.call α f (ds ++ caps.map fun d => (false, [d])) fun res => callOutK dst T (namesC T 4 c ++ args.flatMap fun x => namesA T (ρ x)) res k
      | _ => none
    | _, _ => none
  | .bin op t x y => match toVal (ρ x), toVal (ρ y) with
    | some a, some b => binK P op t x y a b fun v => k (ofVal v) []
    | _, _ => none
  | .pure o => pureK P E.env T ρ dst o k
  | ao => dfltK P E.env T ρ dst ao k

theorem pmatch_some {o : Option (AV × List (Nat × Entry))} {k : AV → List (Nat × Entry) → Option α} {a : α} (h : (match o with | some p => k p.1 p.2 | none => none) = some a) : ∃ y es, o = some (y, es) ∧ k y es = some a := by
  cases o with
  | none => cases h
  | some p => exact ⟨p.1, p.2, rfl, h⟩

theorem ymatch_some {o : Option AV} {k : AV → Option α} {a : α} (h : (match o with | some y => k y | none => none) = some a) : ∃ y, o = some y ∧ k y = some a := by
  cases o with
  | none => cases h
  | some p => exact ⟨p, rfl, h⟩

theorem EnvK.Nat'.split {E : EnvK} (hE : E.Nat') {f : Nat} {ds : List DV} {k : List RV → Option α} {a : α} (h : E.call α f ds k = some a) : ∃ res, E.env f ds = some res ∧ k res = some a := by
  have := hE _ _ f ds some k
  simp only [Option.bind_some] at this
  rw [show (fun r => k r) = k from rfl] at this
  rw [← this] at h
  obtain ⟨res, h1, h2⟩ := Option.bind_eq_some_iff.1 h
  exact ⟨res, h1, h2⟩

theorem effK_some {E : EnvK} (hE : E.Nat') {T : Tab} {ρ : Operand → AV} {dst : Nat} {sh : List Sh} {ao : AOp} {k : AV → List (Nat × Entry) → Option α} {a : α} (h : effK P E T ρ dst sh ao k = some a) :
    ∃ y es, eff P E.env T ρ dst ao = some (y, es) ∧ k y es = some a := by
  unfold effK at h
  split at h
  · rename_i c x y
    split at h
    · rename_i t h1
      cases t with
      | true => exact ⟨_, _, by simp only [eff, h1]; rfl, h⟩
      | false => exact ⟨_, _, by simp only [eff, h1]; rfl, h⟩
    · cases h
  · rename_i sz x i
    split at h
    · rename_i z rows h1 h2
      split at h
      · rename_i hl
        obtain ⟨h3, r, h4, h5, h6⟩ := rowK_some h
        have h7 : z.toNat < rows.length := (List.getElem?_eq_some_iff.1 h4).1
        have h8 : rowAt rows z.toNat = r := by simp [rowAt, h4]
        refine ⟨_, _, ?_, h6⟩
        simp only [eff, h1, h2, h8]
        rw [if_pos ⟨h3, by omega, by omega⟩]
      · cases h
    · rename_i z n h1 h2
      split at h
      · rename_i s rows hT
        obtain ⟨h3, h4⟩ := ixK_some h
        exact ⟨_, _, by simp only [eff, h1, h2, hT]; rw [if_pos h3], h4⟩
      · rename_i rows hT
        obtain ⟨h3, h4⟩ := ixK_some h
        exact ⟨_, _, by simp only [eff, h1, h2, hT]; rw [if_pos h3], h4⟩
      · cases h
    · cases h
  · rename_i sz len x i
    split at h
    · rename_i z n o h1 h2
      obtain ⟨j, h3, h4, h5⟩ := selK_some h
      subst h4
      exact ⟨_, _, by simp only [eff, h1, h2]; rw [if_pos ⟨by omega, by omega⟩]; rfl, h5⟩
    · rename_i z n m o h1 h2
      obtain ⟨j, h3, h4, h5⟩ := selK_some h
      subst h4
      exact ⟨_, _, by simp only [eff, h1, h2]; rw [if_pos ⟨by omega, by omega⟩]; rfl, h5⟩
    · rename_i z cs o h1 h2
      obtain ⟨j, h3, h4, h5⟩ := selK_some h
      subst h4
      exact ⟨_, _, by simp only [eff, h1, h2]; rw [if_pos ⟨by omega, by omega⟩]; rfl, h5⟩
    · cases h
  · rename_i agg sz x
    split at h
    · rename_i n i off h1
      split at h
      · rename_i s rows hT
        split at h
        · rename_i hl
          have h2 := ldK_some h
          obtain ⟨y, h3, h4⟩ := ymatch_some (ldK_some' h)
          rw [hl.1] at h3 h2
          refine ⟨y, [], ?_, h4⟩
          simp only [eff, h1, hT]
          rw [if_pos (by omega), h3]; rfl
        · cases h
      · rename_i rows hT
        split at h
        · rename_i hl
          have h2 := ldK_some h
          obtain ⟨y, h3, h4⟩ := ymatch_some (ldK_some' h)
          rw [hl.1] at h3 h2
          refine ⟨y, [], ?_, h4⟩
          simp only [eff, h1, hT]
          rw [if_pos (by omega), h3]; rfl
        · cases h
      · cases h
    · exact dfltK_some h
  · rename_i sz x y
    split at h
    · rename_i ys n i off h1 h2
      split at h
      · rename_i ds es h3
        split at h
        · rename_i s rows hT
          split at h
          · rename_i hl
            obtain ⟨h4, h5⟩ := stK_some h
            exact ⟨_, _, by simp only [eff, h1, h2, h3, hT]; rw [if_pos ⟨hl, h4⟩], h5⟩
          · cases h
        · cases h
      · cases h
    · exact dfltK_some h
  · rename_i agg len sz x i
    split at h
    · rename_i cs z h1 h2
      obtain ⟨j, h3, h4, h5⟩ := selK_some h
      subst h4
      split at h5
      · rename_i hj
        obtain ⟨y, h6, h7⟩ := ymatch_some h5
        refine ⟨y, [], ?_, h7⟩
        simp only [eff, h1, h2]
        rw [if_pos ⟨by omega, by omega, hj⟩]
        show Option.map _ (aggA agg (List.take sz (List.drop (j * sz) cs))) = _
        rw [h6]; rfl
      · cases h5
    · cases h
  · rename_i sz move x lo hi
    split at h
    · rename_i rows h1
      split at h
      · rename_i l hh h2 h3
        obtain ⟨h4, h5⟩ := gK_some h
        exact ⟨_, _, by simp only [eff, h1, h2, h3]; rw [if_pos (by simpa using h4)], h5⟩
      · cases h
    · rename_i n h1
      split at h
      · rename_i s rows hT
        split at h
        · rename_i l hh h2 h3
          split at h
          · rename_i hs
            obtain ⟨h4, h5⟩ := gK_some h
            have h4 := of_decide_eq_true h4
            split at h5
            · split at h5
              · rename_i hd
                refine ⟨_, _, ?_, h5⟩
                simp only [eff, h1, h2, h3, hT]
                rw [if_pos ⟨h4.1, h4.2.1, h4.2.2, hs⟩, if_pos trivial, if_pos hd]
              · cases h5
            · refine ⟨_, _, ?_, h5⟩
              simp only [eff, h1, h2, h3, hT]
              rw [if_pos ⟨h4.1, h4.2.1, h4.2.2, hs⟩]
              rfl
          · cases h
        · cases h
      · rename_i rows hT
        split at h
        · rename_i l hh h2 h3
          obtain ⟨h4, h5⟩ := gK_some h
          exact ⟨_, _, by simp only [eff, h1, h2, h3, hT]; rw [if_pos (by simpa using h4)], h5⟩
        · cases h
      · cases h
    · exact dfltK_some h
  · rename_i sz x lo hi
    split at h
    · rename_i n h1
      split at h
      · rename_i s rows hT
        split at h
        · rename_i l hh h2 h3
          split at h
          · rename_i hs
            obtain ⟨h4, h5⟩ := gK_some h
            have h4 := of_decide_eq_true h4
            by_cases hlt : l < hh
            · simp only [hlt, decide_true, cK] at h5
              refine ⟨_, _, ?_, h5⟩
              simp only [eff, h1, h2, h3, hT]
              rw [if_pos ⟨h4.1, h4.2.1, h4.2.2, hs⟩, if_pos hlt]
            · simp only [hlt, decide_false, cK] at h5
              refine ⟨_, _, ?_, h5⟩
              simp only [eff, h1, h2, h3, hT]
              rw [if_pos ⟨h4.1, h4.2.1, h4.2.2, hs⟩, if_neg hlt]
          · cases h
        · cases h
      · cases h
    · cases h
  · rename_i sz bytes zero len cap
    split at h
    · rename_i l c h1 h2
      split at h
      · rename_i hd
        obtain ⟨h4, h5⟩ := gK_some h
        have h4 := of_decide_eq_true h4
        exact ⟨_, _, by simp only [eff, h1, h2]; rw [if_pos ⟨h4.1, h4.2.1, h4.2.2.1, h4.2.2.2, hd⟩], h5⟩
      · cases h
    · cases h
  · rename_i sz bytes x y
    split at h
    · rename_i rows2 h1
      split at h
      · rename_i h2
        split at h
        · rename_i hd
          obtain ⟨h4, h5⟩ := gK_some h
          have h4 := of_decide_eq_true h4
          exact ⟨_, _, by simp only [eff, h1, h2]; rw [if_pos ⟨h4.1, h4.2.1, h4.2.2, hd⟩], h5⟩
        · cases h
      · rename_i n h2
        split at h
        · rename_i s rows hT
          split at h
          · rename_i hd
            obtain ⟨h4, h5⟩ := gK_some h
            have h4 := of_decide_eq_true h4
            exact ⟨_, _, by simp only [eff, h1, h2, hT]; rw [if_pos ⟨hd.1, h4.1, h4.2.1, h4.2.2, hd.2⟩], h5⟩
          · cases h
        · cases h
      · cases h
    · cases h
  · rename_i sz x y
    split at h
    · rename_i rows2 n lo hi h1 h2
      split at h
      · rename_i s rows hT
        split at h
        · rename_i hs
          obtain ⟨h4, h5⟩ := gK_some h
          have h4 := of_decide_eq_true h4
          exact ⟨_, _, by simp only [eff, h1, h2, hT]; rw [if_pos ⟨hs, h4⟩], h5⟩
        · cases h
      · cases h
    · cases h
  · rename_i x
    split at h
    · rename_i s h1
      split at h
      · rename_i hd
        obtain ⟨h4, h5⟩ := gK_some h
        exact ⟨_, _, by simp only [eff, h1]; rw [if_pos ⟨by simpa using h4, hd⟩], h5⟩
      · cases h
    · cases h
  · rename_i f args
    split at h
    · rename_i ds h1
      obtain ⟨res, h2, h3⟩ := hE.split h
      obtain ⟨y, es, h4, h5⟩ := callOutK_some h3
      exact ⟨y, es, by simp only [eff, h1, h2, h4], h5⟩
    · cases h
  · rename_i x args
    split at h
    · rename_i c ds h1 h2
      split at h
      · rename_i f caps h3
        obtain ⟨res, h4, h5⟩ := hE.split h
        obtain ⟨y, es, h6, h7⟩ := callOutK_some h5
        exact ⟨y, es, by simp only [eff, h1, h2, h3, h4, h6], h7⟩
      · cases h
    · cases h
  · rename_i op t x y
    split at h
    · rename_i u v h1 h2
      obtain ⟨r, h3, h4⟩ := binK_some h
      exact ⟨_, _, by simp only [eff, h1, h2, h3]; rfl, h4⟩
    · cases h
  · exact pureK_some h
  · exact dfltK_some h

theorem pmatch_bind {o : Option (AV × List (Nat × Entry))} {k : AV → List (Nat × Entry) → Option α} {g : α → Option β} : (match o with | some p => k p.1 p.2 | none => none).bind g = match o with | some p => (k p.1 p.2).bind g | none => none := by cases o <;> rfl
theorem ymatch_bind {o : Option AV} {k : AV → Option α} {g : α → Option β} : (match o with | some p => k p | none => none).bind g = match o with | some p => (k p).bind g | none => none := by cases o <;> rfl

theorem effK_bind {E : EnvK} (hE : E.Nat') {T : Tab} {ρ : Operand → AV} {dst : Nat} {sh : List Sh} {ao : AOp} {k : AV → List (Nat × Entry) → Option α} {g : α → Option β} :
    (effK P E T ρ dst sh ao k).bind g = effK P E T ρ dst sh ao fun y es => (k y es).bind g := by
  unfold effK
  split
  · split
    · exact cK_bind
    · rfl
  · split
    · split
      · rw [rowK_bind, curB_unc]
      · rfl
    · split <;> first | exact ixK_bind | rfl
    · rfl
  · split <;> first | exact selK_bind | rfl
  · split
    · split
      · split
        · rw [ldK_bind, curB_unc]; congr 2; funext cs; exact ymatch_bind
        · rfl
      · split
        · rw [ldK_bind, curB_unc]; congr 2; funext cs; exact ymatch_bind
        · rfl
      · rfl
    · exact dfltK_bind
  · split
    · split
      · split
        · split
          · exact stK_bind
          · rfl
        · rfl
      · rfl
    · exact dfltK_bind
  · split
    · rw [selK_bind]; congr 1; funext j; split
      · exact ymatch_bind
      · rfl
    · rfl
  · split
    · split <;> first | exact gK_bind | rfl
    · split
      · split
        · split
          · rw [gK_bind]; congr 1; split
            · split <;> rfl
            · rfl
          · rfl
        · rfl
      · split <;> first | exact gK_bind | rfl
      · rfl
    · exact dfltK_bind
  · split
    · split
      · split
        · split
          · rw [gK_bind, cK_bind]
          · rfl
        · rfl
      · rfl
    · rfl
  · split
    · split <;> first | exact gK_bind | rfl
    · rfl
  · split
    · split
      · split <;> first | exact gK_bind | rfl
      · split
        · split <;> first | exact gK_bind | rfl
        · rfl
      · rfl
    · rfl
  · split
    · split
      · split <;> first | exact gK_bind | rfl
      · rfl
    · rfl
  · split
    · split <;> first | exact gK_bind | rfl
    · rfl
  · split
    · rw [hE]; congr 1; funext res; exact callOutK_bind
    · rfl
  · split
    · split
      · rw [hE]; congr 1; funext res; exact callOutK_bind
      · rfl
    · rfl
  · split
    · exact binK_bind
    · rfl
  · exact pureK_bind
  · exact dfltK_bind

end Go.AM
