/- The abstract machine: snapshots, and calls. -/
import Derived.Test.YtcidonjhifjpaaaAM14
namespace Go.AM
open Go.RowKit

variable {P : Program} {E : Env} {w0 : Base} {w w' : World} {N0 : Nat → Prop} {g g' : Gh} {T T' : Tab} {r : Option Nat} {n : Nat} {o : Oper} {a : Act} {ρ : Operand → AV} {dst : Nat}
  {y : AV} {es : List (Nat × Entry)}

/-- What is avoided but for some names. -/
def butFor (N0 : Nat → Prop) (g : Gh) (T : Tab) (names : List Nat) : Nat → Prop := fun b => N0 b ∨ ∃ n, n ∉ names ∧ live T n ∧ g.blk n = some b

theorem butFor_sub {names : List Nat} {b : Nat} (h : butFor N0 g T names b) : avoid N0 g T b := by
  rcases h with h | ⟨n, _, h1, h2⟩
  · exact .inl h
  · exact .inr ⟨n, h1, h2⟩

theorem DRel.less {N N' : Nat → Prop} (hn : ∀ b, N' b → N b) {d : DC} {v : Value} (h : DRel w N d v) : DRel w N' d v := h.mono (Nat.le_refl _) (fun _ _ _ => rfl) (fun b _ h => hn b h)

theorem not_butFor (hM : Mem w0 N0 g T w) {names : List Nat} {n b : Nat} (hn : n ∈ names) (hl : live T n) (hb : g.blk n = some b) : ¬ butFor N0 g T names b := by
  rintro (h | ⟨m, h1, h2, h3⟩)
  · have h1 := hM.n0 b h
    exact (hM.rng n b hl hb).1.elim (fun h => by omega) h1.2
  · have := hM.inj m n b h2 hl h3 hb
    subst this
    exact h1 hn

/-- An owned slice, read as data. -/
theorem own_reads (hM : Mem w0 N0 g T w) {names : List Nat} {m : Nat} {rows : List (List DC)} (hm : (∃ s, aget T m = some (.own s rows)) ∨ aget T m = some (.imm rows)) (hn : m ∈ names) :
    DRel w (butFor N0 g T names) (.sl rows) (g.sv m) := by
  rcases hm with ⟨s, hm⟩ | hm
  · obtain ⟨hs, hst⟩ := hM.ents m _ hm
    have hl : live T m := by unfold live; rw [hm]; trivial
    rcases hs with ⟨hv, hr, _⟩ | ⟨b, off, cap, cells, t, fz, h1, h2, h3, h4, h5, h6, h7, h8, h9, h10⟩
    · rw [hv, hr]; exact .nil
    · rw [h2]
      by_cases hr : rows = []
      · subst hr; exact .nil
      · have hsz : ∀ (i : Nat) (r : List DC), rows[i]? = some r → r.length = s := fun i r hr => h8 r (List.mem_of_getElem? hr)
        refine .sl (sz := s) (fun i j => (cells[off + i * s + j]?).getD undef) (List.length_pos_iff.2 hr) (not_butFor hM hn hl h1) (hM.rng m b hl h1).2 h9 h8 h4 (fun i j hi hj => ?_) (fun i j r d hr hd => ?_)
        · obtain ⟨r, hr⟩ : ∃ r, rows[i]? = some r := ⟨rows[i], by simp [hi]⟩
          obtain ⟨d, hd⟩ : ∃ d, r[j]? = some d := ⟨r[j]'(by rw [hsz i r hr]; exact hj), by simp⟩
          obtain ⟨c, hc, _⟩ := h10 i j r d hr hd
          simp [World.cell?, h3, hc]
        · obtain ⟨c, hc, hx⟩ := h10 i j r d hr hd
          rw [hc]
          exact hx.less fun b hb => butFor_sub hb
  · exact (hM.ents m _ hm).1.less fun b hb => butFor_sub hb

theorem mapM_get {α β : Type} {f : α → Option β} {l : List α} {r : List β} (h : l.mapM f = some r) {i : Nat} {y : β} (hy : r[i]? = some y) : ∃ x, l[i]? = some x ∧ f x = some y := by
  obtain ⟨h1, h2⟩ := mapM_spec h
  have hi : i < l.length := by rw [← h1]; exact (List.getElem?_eq_some_iff.1 hy).1
  obtain ⟨y', hy', hf⟩ := h2 i l[i] (by simp [hi])
  rw [hy] at hy'
  simp only [Option.some.injEq] at hy'
  subst hy'
  exact ⟨l[i], by simp [hi], hf⟩

/-- A snapshot of a cell is data in memory. -/
theorem toDC_ok (hM : Mem w0 N0 g T w) {names : List Nat} : ∀ (k : Nat) {c : C} {d : DC} {v : Value}, CRel w (avoid N0 g T) g T c v → toDC T k c = some d → (∀ m ∈ namesC T k c, m ∈ names) → DRel w (butFor N0 g T names) d v
  | 0, c, d, v, _, h, _ => by simp [toDC] at h
  | k + 1, c, d, v, hc, h, hn => by
    have box : ∀ {m : Nat} {cs : List C} {ds : List DC} {b : Nat}, aget T m = some (.box cs) → cs.mapM (toDC T k) = some ds → (∀ q ∈ cs.flatMap (namesC T k), q ∈ names) → m ∈ names → g.blk m = some b →
        ∀ off, DRel w (butFor N0 g T names) (.cref ds off) (.pointer (some ⟨b, 0 + off, none⟩)) := by
      intro m cs ds b hm hds hq hmn hb off
      obtain ⟨b', cells, t, h1, h2, h3, h4, h5⟩ := hM.box hm
      rw [hb] at h1
      simp only [Option.some.injEq] at h1
      subst h1
      have hl : live T m := by unfold live; rw [hm]; trivial
      obtain ⟨e1, e2⟩ := mapM_spec hds
      refine .cref (fun j => (cells[j]?).getD undef) (not_butFor hM hmn hl hb) (hM.rng m b hl hb).2 (fun j hj => ?_) (fun j d hd => ?_)
      · have : j < cells.size := by omega
        simp [World.cell?, h2, this]
      · obtain ⟨c, hc, hf⟩ := mapM_get hds hd
        have hlt : j < cells.size := by rw [h3]; exact (List.getElem?_eq_some_iff.1 hc).1
        have := toDC_ok hM k (h4 j c cells[j] hc (by simp [hlt])) hf (fun q hq' => hq q (List.mem_flatMap.2 ⟨c, List.mem_of_getElem? hc, hq'⟩))
        simpa [hlt] using this
    cases c with
    | d x => simp only [toDC, Option.some.injEq] at h; subst h; exact DRel.less (fun b hb => butFor_sub hb) hc
    | nils => simp only [toDC, Option.some.injEq] at h; subst h; rw [show v = _ from hc]; exact .nil
    | und => simp [toDC] at h
    | unk => simp [toDC] at h
    | yld l => simp [toDC] at h
    | sub n lo hi => simp [toDC] at h
    | ref m =>
      obtain ⟨_, rfl, _⟩ := hc
      simp only [toDC] at h
      have hmn : m ∈ names := hn m (by simp [namesC])
      split at h
      · rename_i s rows hm
        simp only [Option.some.injEq] at h; subst h
        exact own_reads hM (.inl ⟨_, hm⟩) hmn
      · rename_i rows hm
        simp only [Option.some.injEq] at h; subst h
        exact own_reads hM (.inr hm) hmn
      · cases h
    | ptr m off =>
      obtain ⟨_, b, hb, rfl⟩ := hc
      simp only [toDC] at h
      split at h
      · rename_i cs hm
        cases hds : cs.mapM (toDC T k) with
        | none => rw [hds] at h; simp at h
        | some ds =>
          rw [hds] at h
          simp only [Option.map_some, Option.some.injEq] at h
          subst h
          have hmn : m ∈ names := hn m (by simp [namesC])
          have := box hm hds (fun q hq => hn q (by simp only [namesC, hm]; exact List.mem_cons_of_mem _ hq)) hmn hb off
          simpa using this
      · cases h
    | eptr m i off =>
      obtain ⟨_, b, o', len, cap, hsv, rfl⟩ := hc
      simp only [toDC] at h
      have hmn : m ∈ names := hn m (by simp [namesC])
      have key : ∀ rows, ((∃ s, aget T m = some (.own s rows)) ∨ aget T m = some (.imm rows)) → (rows[i]?).map (fun r => DC.cref r off) = some d → DRel w (butFor N0 g T names) d (.pointer (some ⟨b, o' + i * g.st m + off, none⟩)) := by
        intro rows hm h
        cases hr : rows[i]? with
        | none => rw [hr] at h; simp at h
        | some r0 =>
          rw [hr] at h
          simp only [Option.map_some, Option.some.injEq] at h
          subst h
          have hi := (List.getElem?_eq_some_iff.1 hr).1
          have hne : rows ≠ [] := fun h => by subst h; simp at hi
          have h1 := own_reads hM hm hmn
          obtain ⟨b', off', cap', h2, h3, h4, h5, h6⟩ := hM.rows hm hne
          rw [hsv] at h1 h2
          simp only [Value.slice.injEq, Option.some.injEq, Addr.mk.injEq, and_true] at h2
          obtain ⟨⟨rfl, rfl⟩, hll, rfl⟩ := h2
          subst hll
          cases h1 with
          | nil => exact absurd rfl hne
          | @sl _ _ _ _ sz f hne' hN hb hsz hl hcap hcc hdd =>
            have hst : g.st m = sz := by rw [← h5 r0 (List.mem_of_getElem? hr), hl r0 (List.mem_of_getElem? hr)]
            rw [hst]
            exact .cref (fun j => f i j) hN hb (fun j hj => hcc i j hi (by rw [← hl r0 (List.mem_of_getElem? hr)]; exact hj)) (fun j d hd => hdd i j r0 d hr hd)
      split at h
      · rename_i s rows hm; exact key rows (.inl ⟨_, hm⟩) h
      · rename_i rows hm; exact key rows (.inr hm) h
      · cases h
    | fn f caps =>
      obtain ⟨cs, rfl, h2, h3⟩ := hc
      simp only [toDC] at h
      cases hds : caps.mapM (capDC (toDC T k) T) with
      | none => rw [hds] at h; simp at h
      | some ds =>
        rw [hds] at h
        simp only [Option.map_some, Option.some.injEq] at h
        subst h
        obtain ⟨e1, e2⟩ := mapM_spec hds
        refine .fn (by omega) (fun i d c hd hc => ?_)
        obtain ⟨cap, hcap, hf⟩ := mapM_get hds hd
        have hr := h3 i cap c hcap hc
        cases cap with
        | d x => simp only [capDC, Option.some.injEq] at hf; subst hf; exact DRel.less (fun b hb => butFor_sub hb) hr
        | ptr m =>
          obtain ⟨_, b, hb, rfl⟩ := hr
          simp only [capDC] at hf
          split at hf
          · rename_i bcs hm
            cases hbs : bcs.mapM (toDC T k) with
            | none => rw [hbs] at hf; simp at hf
            | some ds' =>
              rw [hbs] at hf
              simp only [Option.map_some, Option.some.injEq] at hf
              subst hf
              have hsub : ∀ q, q = m ∨ q ∈ bcs.flatMap (namesC T k) → q ∈ names := fun q hq => hn q (by
                simp only [namesC]
                refine List.mem_flatMap.2 ⟨_, List.mem_of_getElem? hcap, ?_⟩
                simp only [hm]
                exact List.mem_cons.2 hq)
              have := box hm hbs (fun q hq => hsub q (.inr hq)) (hsub m (.inl rfl)) hb 0
              simpa using this
          · cases hf

theorem toDV_ok (hM : Mem w0 N0 g T w) {names : List Nat} {x : AV} {d : DV} {v : Value} (hx : AVRel w (avoid N0 g T) g T x v) (h : toDV T x = some d) (hn : ∀ m ∈ namesA T x, m ∈ names) : DVRel w (butFor N0 g T names) d v := by
  cases x with
  | tup l => simp [toDV] at h
  | val b cs =>
    simp only [toDV] at h
    cases hds : cs.mapM (toDC T 4) with
    | none => rw [hds] at h; simp at h
    | some ds =>
      rw [hds] at h
      simp only [Option.map_some, Option.some.injEq] at h
      subst h
      obtain ⟨e1, e2⟩ := mapM_spec hds
      have hsub : ∀ (c : C), c ∈ cs → ∀ q ∈ namesC T 4 c, q ∈ names := fun c hc q hq => hn q (List.mem_flatMap.2 ⟨c, hc, hq⟩)
      cases b with
      | true =>
        obtain ⟨xs, rfl, h2, h3⟩ := hx
        refine ⟨xs, rfl, by omega, fun i d u hd hu => ?_⟩
        obtain ⟨c, hc, hf⟩ := mapM_get hds hd
        exact toDC_ok hM 4 (h3 i c u hc hu) hf (hsub c (List.mem_of_getElem? hc))
      | false =>
        obtain ⟨c, rfl, hc⟩ := hx
        obtain ⟨y, hy, hf⟩ := e2 0 c rfl
        cases ds with
        | nil => simp at hy
        | cons d rest =>
          simp at e1 hy
          subst hy; subst e1
          exact ⟨d, rfl, toDC_ok hM 4 hc hf (hsub c (by simp))⟩

theorem argsA_ok (hM : Mem w0 N0 g T w) (hρ : ∀ x, AVRel w (avoid N0 g T) g T (ρ x) (a.eval x)) {names : List Nat} : ∀ {args : List Operand} {ds : List DV}, argsA T ρ args = some ds → (∀ m ∈ args.flatMap (fun x => namesA T (ρ x)), m ∈ names) →
    ds.length = args.length ∧ ∀ (i : Nat) (d : DV) (v : Value), ds[i]? = some d → (args.map a.eval)[i]? = some v → DVRel w (butFor N0 g T names) d v
  | [], ds, h, _ => by simp [argsA] at h; subst h; simp
  | x :: rest, ds, h, hn => by
    simp only [argsA] at h
    split at h
    · rename_i d ds' h1 h2
      simp only [Option.some.injEq] at h
      subst h
      obtain ⟨h3, h4⟩ := argsA_ok hM hρ h2 (fun m hm => hn m (by simp only [List.flatMap_cons]; exact List.mem_append_right _ hm))
      refine ⟨by simp [h3], fun i d' v hd hv => ?_⟩
      cases i with
      | zero =>
        simp at hd hv
        subst hd; subst hv
        exact toDV_ok hM (hρ x) h1 (fun m hm => hn m (by simp only [List.flatMap_cons]; exact List.mem_append_left _ hm))
      | succ i => exact h4 i d' v (by simpa using hd) (by simpa using hv)
    · cases h

end Go.AM
