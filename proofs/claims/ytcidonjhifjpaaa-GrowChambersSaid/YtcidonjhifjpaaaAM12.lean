/- The abstract machine: operations against the model, one by one: writes. -/
import Derived.Test.YtcidonjhifjpaaaAM11
namespace Go.AM
open Go.RowKit

variable {P : Program} {E : Env} {w0 : Base} {w w' : World} {N0 : Nat → Prop} {g g' : Gh} {T T' : Tab} {r : Option Nat} {n : Nat} {o : Oper} {a : Act} {ρ : Operand → AV} {dst : Nat}
  {y : AV} {es : List (Nat × Entry)}

/-- An owned slice under a new name, its block written perhaps. -/
theorem Mem.move (hM : Mem w0 N0 g T w) {m s : Nat} {rows rows' : List (List DC)} {v : Value} (hm : aget T m = some (.own s rows)) (hf : aget T dst = none) (hg : w.grownBy w' (g.blk m)) (hsz : w'.heap.size = w.heap.size)
    (hE : Keeps N0 g T w (g.set dst (g.blk m) v s) (aput (aput T m .dead) dst (.own s rows')) w' → SliceOwn w' (avoid N0 (g.set dst (g.blk m) v s) (aput (aput T m .dead) dst (.own s rows'))) s rows' v (g.blk m)) :
    Mem w0 N0 (g.set dst (g.blk m) v s) (aput (aput T m .dead) dst (.own s rows')) w' ∧ Keeps N0 g T w (g.set dst (g.blk m) v s) (aput (aput T m .dead) dst (.own s rows')) w' := by
  have hl : live T m := by unfold live; rw [hm]; trivial
  have hne : ∀ k, (aget T k).isSome → k ≠ dst := fun k hk h => by subst h; rw [hf] at hk; cases hk
  have hlive : ∀ k, live (aput (aput T m .dead) dst (.own s rows')) k → k = dst ∨ (k ≠ m ∧ k ≠ dst ∧ live T k) := fun k hk => by
    rw [live_aput] at hk
    by_cases h1 : k = dst
    · exact .inl h1
    · simp only [h1, if_false] at hk
      rw [live_aput] at hk
      by_cases h2 : k = m
      · simp [h2] at hk
      · simp only [h2, if_false] at hk
        exact .inr ⟨h2, h1, hk⟩
  have hblk : ∀ k b, live (aput (aput T m .dead) dst (.own s rows')) k → (g.set dst (g.blk m) v s).blk k = some b → (k = dst ∧ g.blk m = some b) ∨ (k ≠ m ∧ k ≠ dst ∧ live T k ∧ g.blk k = some b) := fun k b hk hb => by
    rcases hlive k hk with h | ⟨h1, h2, h3⟩
    · subst h; simp [Gh.set] at hb; exact .inl ⟨rfl, hb⟩
    · simp [Gh.set, h2] at hb; exact .inr ⟨h1, h2, h3, hb⟩
  have hK : Keeps N0 g T w (g.set dst (g.blk m) v s) (aput (aput T m .dead) dst (.own s rows')) w' := by
    refine Keeps.of (by omega) (fun k hk ha => hg.block k hk (fun h => ha (.inr ⟨m, hl, h.symm⟩))) (fun k hk ha => ?_) (fun k hk => isSome_aput (isSome_aput hk)) (fun k hk => by simp [Gh.set, hne k hk])
    rcases ha with ha | ⟨k', hl', hbm⟩
    · exact .inl ha
    · rcases hblk k' k hl' hbm with ⟨_, h⟩ | ⟨_, _, h1, h2⟩
      · exact .inr ⟨m, hl, h⟩
      · exact .inr ⟨k', h1, h2⟩
  have hbel : Over w0 w w' :=
    ⟨hg.os, hg.tape, hg.output, hg.size, fun k hk ho => by
      have h1 := hM.below.size
      refine hg.block k (by omega) (fun h => ?_)
      exact (hM.rng m k hl h.symm).1.elim (fun h => by omega) ho⟩
  refine ⟨hM.upd hbel hK (fun k e' he' => ?_) (fun k k' c hk hk' bk bk' => ?_) (fun k c hk hc => ?_), hK⟩
  · rw [aget_aput] at he'
    by_cases h : k = dst
    · simp only [h, if_true, Option.some.injEq] at he'
      subst h; subst he'
      exact .inr ⟨by simpa [Gh.set] using hE hK, by simp [Gh.set]⟩
    · simp only [h, if_false] at he'
      rw [aget_aput] at he'
      by_cases h2 : k = m
      · simp only [h2, if_true, Option.some.injEq] at he'
        subst he'
        exact .inr trivial
      · simp only [h2, if_false] at he'
        refine .inl ⟨he', fun c hlk hc => hg.block c (hM.rng k c hlk hc).2 (fun hcb => h2 (hM.inj k m c hlk hl hc hcb.symm))⟩
  · rcases hblk k c hk bk with ⟨rfl, h1⟩ | ⟨h1, h2, h3, h4⟩ <;> rcases hblk k' c hk' bk' with ⟨rfl, k1⟩ | ⟨k1, k2, k3, k4⟩
    · rfl
    · exact absurd (hM.inj k' m c k3 hl k4 h1) k1
    · exact absurd (hM.inj k m c h3 hl h4 k1) h1
    · exact hM.inj k k' c h3 k3 h4 k4
  · rcases hblk k c hk hc with ⟨_, h1⟩ | ⟨_, _, h1, h2⟩
    · have := hM.rng m c hl h1; exact ⟨this.1, by omega⟩
    · have := hM.rng k c h1 h2; exact ⟨this.1, by omega⟩

theorem boundA_rel {N : Nat → Prop} (hρ : ∀ x, AVRel w N g T (ρ x) (a.eval x)) {d z : Int} {x : Option Operand} (h : boundA ρ d x = some z) :
    (x = none ∧ z = d) ∨ ∃ p k, x = some p ∧ a.eval p = .int k z := by
  cases x with
  | none => simp only [boundA, Option.some.injEq] at h; exact .inl ⟨rfl, h.symm⟩
  | some p => obtain ⟨k, hk⟩ := intA_rel (hρ p) h; exact .inr ⟨p, k, rfl, hk⟩

theorem run_slice {N : Nat → Prop} (hρ : ∀ x, AVRel w N g T (ρ x) (a.eval x)) {t e : TypeId} {s : Nat} (hu : P.underlying t = some (.slice e)) (hs : sizeT P e = some s) {x : Operand} {lo hi : Option Operand} (ho : o.op = .slice t x lo hi none)
    {ad : Option Addr} {len cap : Nat} (hx : a.eval x = .slice ad len cap) (hlc : len ≤ cap) {l h : Int} (hl : boundA ρ 0 lo = some l) (hh : boundA ρ len hi = some h) (h1 : 0 ≤ l) (h2 : l ≤ h) (h3 : h ≤ len) :
    (execOp a.eval o).run P w = .ok (.value (.slice (if cap = l.toNat then ad else ad.map (·.add (l.toNat * s))) (h.toNat - l.toNat) (cap - l.toNat))) w := by
  have hb : (Instr.sliceBounds true len cap (lo.map a.eval) (hi.map a.eval) none).run P w = .ok (l.toNat, h.toNat, cap) w := by
    have hhi : (match hi.map a.eval with | some v => Instr.sliceBound v cap .sliceAcap | none => (pure len : Sem Nat)).run P w = .ok h.toNat w := by
      rcases boundA_rel hρ hh with ⟨rfl, rfl⟩ | ⟨p, k, rfl, hp⟩
      · simp
      · have c : 0 ≤ h ∧ h ≤ cap := by omega
        simp [hp, Instr.sliceBound, asIntOf, c]
    have hlo : (match lo.map a.eval with | some v => Instr.sliceBound v h.toNat .sliceB | none => (pure 0 : Sem Nat)).run P w = .ok l.toNat w := by
      rcases boundA_rel hρ hl with ⟨rfl, rfl⟩ | ⟨p, k, rfl, hp⟩
      · simp
      · have c : 0 ≤ l ∧ l ≤ h.toNat := by omega
        simp only [hp, Option.map_some, Instr.sliceBound, asIntOf, Sem.run_bind, Sem.run_pure, Result.andThen_ok]
        rw [if_pos c]
        rfl
    unfold Instr.sliceBounds
    cases hhm : hi.map a.eval <;> cases hlm : lo.map a.eval <;> simp only [hhm, hlm] at hhi hlo ⊢ <;> simp_all
  simp [execOp, ho, Instr.sliceAt, run_underlying hu, hx, Instr.slice, hb, run_sizeOf hs]

theorem sub_get {α : Type} {rows : List α} {l h i : Nat} {r : α} (hr : ((rows.take h).drop l)[i]? = some r) : rows[l + i]? = some r ∧ l + i < h := by
  rw [List.getElem?_drop, List.getElem?_take] at hr
  split at hr
  · exact ⟨hr, by assumption⟩
  · cases hr

theorem sub_len {α : Type} {rows : List α} {l h : Nat} (hl : l ≤ h) (hh : h ≤ rows.length) : ((rows.take h).drop l).length = h - l := by
  simp; omega

theorem allLen_spec {sz : Nat} {rows : List (List DC)} (h : allLen sz rows = true) : ∀ r ∈ rows, r.length = sz := by
  unfold allLen at h
  intro r hr
  simpa using List.all_eq_true.1 h r hr

/-- A part of a slice that is never written again. -/
theorem DRel.sub {N : Nat → Prop} {rows : List (List DC)} {ad : Option Addr} {len cap s l h : Nat} (hd : DRel w N (.sl rows) (.slice ad len cap)) (hall : ∀ r ∈ rows, r.length = s) (h1 : l ≤ h) (h2 : h ≤ rows.length) :
    DRel w N (.sl ((rows.take h).drop l)) (.slice (if cap = l then ad else ad.map (·.add (l * s))) (h - l) (cap - l)) := by
  by_cases he : h = l
  · subst he
    have : (rows.take h).drop h = [] := List.drop_eq_nil_of_le (by simp; omega)
    rw [this, Nat.sub_self]
    exact .nil
  · cases hd with
    | nil => simp at h2; omega
    | @sl _ b off cap sz f hne hN hb hsz hl hcap hc hdd =>
      obtain ⟨r0, hr0⟩ : ∃ r0, r0 ∈ rows := ⟨rows[0], by simp⟩
      have hss : s = sz := by rw [← hall r0 hr0, hl r0 hr0]
      subst hss
      have hcl : ¬ cap = l := by omega
      rw [if_neg hcl, ← sub_len h1 h2, Option.map_some, addr_add]
      refine .sl (sz := s) (fun i j => f (l + i) j) (by rw [sub_len h1 h2]; omega) hN hb hsz (fun r hr => hl r (List.mem_of_mem_take (List.mem_of_mem_drop hr))) (by rw [sub_len h1 h2]; omega) (fun i j hi hj => ?_) (fun i j r d hr hd => ?_)
      · rw [sub_len h1 h2] at hi
        have := hc (l + i) j (by omega) hj
        rwa [Nat.add_mul, ← Nat.add_assoc] at this
      · exact hdd (l + i) j r d (sub_get hr).1 hd

theorem ok_slice (hM : Mem w0 N0 g T w) (hρ : ∀ x, AVRel w (avoid N0 g T) g T (ρ x) (a.eval x)) {t e : TypeId} {s : Nat} {mv : Bool} {x : Operand} {lo hi : Option Operand} (ho : o.op = .slice t x lo hi none)
    (hu : P.underlying t = some (.slice e)) (hs : sizeT P e = some s)
    (he : eff P E T ρ dst (.slice s mv x lo hi) = some (y, es)) : OpOk r n P o a w (Res w0 N0 g T w y es) := by
  have hd : ∀ c, o.op ≠ .defer c := fun c h => by rw [ho] at h; cases h
  simp only [eff] at he
  split at he
  · rename_i rows hx
    have hc := oneA_rel (hρ x) hx
    generalize hv : a.eval x = v at hc
    change DRel w (avoid N0 g T) (.sl rows) v at hc
    split at he
    · rename_i l h hl hh
      split at he
      · rename_i hcond
        obtain ⟨h1, h2, h3, h4⟩ := hcond
        simp only [Option.some.injEq, Prod.mk.injEq] at he
        obtain ⟨rfl, rfl⟩ := he
        obtain ⟨ad, cap, rfl, hlc⟩ : ∃ ad cap, v = .slice ad rows.length cap ∧ rows.length ≤ cap := by
          cases hc with
          | nil => exact ⟨_, _, rfl, Nat.zero_le _⟩
          | sl f _ _ _ _ _ hcap => exact ⟨_, _, rfl, hcap⟩
        refine OpOk.value hd (run_slice hρ hu hs ho hv hlc hl hh h1 h2 h3) (Res.same hM ⟨_, rfl, ?_⟩)
        exact hc.sub (allLen_spec h4) (by omega) (by omega)
      · cases he
    · cases he
  · rename_i hx
    have hv : a.eval x = .slice none 0 0 := oneA_rel (hρ x) hx
    split at he
    · rename_i l h hl hh
      split at he
      · rename_i hcond
        obtain ⟨rfl, rfl⟩ := hcond
        simp only [Option.some.injEq, Prod.mk.injEq] at he
        obtain ⟨rfl, rfl⟩ := he
        have := run_slice (w := w) hρ hu hs ho hv (Nat.le_refl _) hl hh (by omega) (by omega) (by omega)
        exact OpOk.value hd this (Res.same hM ⟨_, rfl, by simp [CRel]⟩)
      · cases he
    · cases he
  · rename_i m hx
    obtain ⟨hsome, hv, _⟩ := oneA_rel (hρ x) hx
    split at he
    · rename_i s' rows hm
      split at he
      · rename_i l h hl hh
        split at he
        · rename_i hcond
          obtain ⟨h1, h2, h3, rfl⟩ := hcond
          obtain ⟨hso, hst⟩ := hM.ents m _ hm
          obtain ⟨ad, cap, hsv, hlc⟩ : ∃ ad cap, g.sv m = .slice ad rows.length cap ∧ rows.length ≤ cap := by
            rcases hso with ⟨hv, hr, _⟩ | ⟨b, off, cap, cells, t, fz, _, k2, _, k4, _⟩
            · exact ⟨none, 0, by rw [hv, hr]; rfl, by rw [hr]; exact Nat.le_refl _⟩
            · exact ⟨_, cap, k2, k4⟩
          have hrun := run_slice (w := w) hρ hu hs ho (hv.trans hsv) hlc hl hh h1 h2 h3
          split at he
          · split at he
            · rename_i hf
              simp only [Option.some.injEq, Prod.mk.injEq] at he
              obtain ⟨rfl, rfl⟩ := he
              have hgg : w.grownBy w (g.blk m) := ⟨rfl, rfl, rfl, Nat.le_refl _, fun _ _ _ => rfl⟩
              obtain ⟨q1, q2⟩ := hM.move (dst := dst) (rows' := (rows.take h.toNat).drop l.toNat) (v := .slice (if cap = l.toNat then ad else ad.map (·.add (l.toNat * s'))) (h.toNat - l.toNat) (cap - l.toNat)) hm (none_of_isNone hf) hgg rfl (fun hK => by
                rcases hso with ⟨hv, hr, hb⟩ | ⟨b, off, cap', cells, t, fz, k1, k2, k3, k4, k5, k6, k7, k8, k9, k10⟩
                · subst hr
                  rw [hv] at hsv
                  simp only [Value.slice.injEq, List.length_nil] at hsv
                  obtain ⟨rfl, _, rfl⟩ := hsv
                  have e1 : l.toNat = 0 := by simp at h3; omega
                  have e2 : h.toNat = 0 := by simp at h3; omega
                  exact .inl ⟨by simp [e1, e2], by simp, hb⟩
                · rw [k2] at hsv
                  simp only [Value.slice.injEq, true_and] at hsv
                  obtain ⟨rfl, rfl⟩ := hsv
                  have e2 : h.toNat ≤ rows.length := by omega
                  have e1 : l.toNat ≤ h.toNat := by omega
                  by_cases hcl : cap' = l.toNat
                  · rw [if_pos hcl]
                    have e0 : (rows.take h.toNat).drop l.toNat = [] := List.drop_eq_nil_of_le (by simp; omega)
                    rw [e0, show h.toNat - l.toNat = 0 by omega, show cap' - l.toNat = 0 by omega]
                    exact .inr ⟨b, off, 0, cells, t, fz, k1, rfl, k3, Nat.le_refl _, by simp [maxLen], by omega, by simp; omega, by simp, k9, by simp⟩
                  · rw [if_neg hcl, Option.map_some, addr_add, ← sub_len e1 e2]
                    have hmul : l.toNat * s' + (cap' - l.toNat) * s' = cap' * s' := by rw [← Nat.add_mul]; congr 1; omega
                    refine .inr ⟨b, off + l.toNat * s', cap' - l.toNat, cells, t, fz, k1, rfl, k3, by rw [sub_len e1 e2]; omega, by omega, by omega, fun j hj1 hj2 => k7 j (by omega) (by omega), fun r hr => k8 r (List.mem_of_mem_take (List.mem_of_mem_drop hr)), k9, fun i j r d hr hdd => ?_⟩
                    obtain ⟨c, hc, hx⟩ := k10 (l.toNat + i) j r d (sub_get hr).1 hdd
                    rw [Nat.add_mul, ← Nat.add_assoc] at hc
                    exact ⟨c, hc, hK.d _ _ hx⟩)
              exact OpOk.value hd hrun ⟨_, q1, q2, _, rfl, by rw [show aputs T [(m, Entry.dead), (dst, .own s' ((rows.take h.toNat).drop l.toNat))] = aput (aput T m .dead) dst (.own s' ((rows.take h.toNat).drop l.toNat)) from rfl, aget_aput_same]; rfl, by simp [Gh.set], _, _, _, rfl⟩
            · cases he
          · simp only [Option.some.injEq, Prod.mk.injEq] at he
            obtain ⟨rfl, rfl⟩ := he
            obtain ⟨q1, q2⟩ := hM.freeze hm
            have hE := q1.ents m _ (aget_aput_same T m (.imm rows))
            have hdr : DRel w (avoid N0 g (aput T m (.imm rows))) (.sl rows) (.slice ad rows.length cap) := by rw [← hsv]; exact hE.1
            refine OpOk.value hd hrun ⟨g, q1, q2, _, rfl, ?_⟩
            exact hdr.sub (fun r hr => by rw [hE.2 r hr, hst]) (by omega) (by omega)
        · cases he
      · cases he
    · rename_i rows hm
      split at he
      · rename_i l h hl hh
        split at he
        · rename_i hcond
          obtain ⟨h1, h2, h3, h4⟩ := hcond
          simp only [Option.some.injEq, Prod.mk.injEq] at he
          obtain ⟨rfl, rfl⟩ := he
          have hc := (hM.ents m _ hm).1
          generalize hv' : g.sv m = v at hc hv
          obtain ⟨ad, cap, rfl, hlc⟩ : ∃ ad cap, v = .slice ad rows.length cap ∧ rows.length ≤ cap := by
            cases hc with
            | nil => exact ⟨_, _, rfl, Nat.zero_le _⟩
            | sl f _ _ _ _ _ hcap => exact ⟨_, _, rfl, hcap⟩
          exact OpOk.value hd (run_slice hρ hu hs ho hv hlc hl hh h1 h2 h3) (Res.same hM ⟨_, rfl, hc.sub (allLen_spec h4) (by omega) (by omega)⟩)
        · cases he
      · cases he
    · cases he
  · cases he

theorem ok_view (hM : Mem w0 N0 g T w) (hρ : ∀ x, AVRel w (avoid N0 g T) g T (ρ x) (a.eval x)) {t e : TypeId} {s : Nat} {x : Operand} {lo hi : Option Operand} (ho : o.op = .slice t x lo hi none)
    (hu : P.underlying t = some (.slice e)) (hs : sizeT P e = some s)
    (he : eff P E T ρ dst (.view s x lo hi) = some (y, es)) : OpOk r n P o a w (Res w0 N0 g T w y es) := by
  have hd : ∀ c, o.op ≠ .defer c := fun c h => by rw [ho] at h; cases h
  simp only [eff] at he
  split at he
  · rename_i m hx
    obtain ⟨hsome, hv, _⟩ := oneA_rel (hρ x) hx
    split at he
    · rename_i s' rows hm
      split at he
      · rename_i l h hl hh
        split at he
        · rename_i hcond
          obtain ⟨h1, h2, h3, rfl⟩ := hcond
          obtain ⟨hso, hst⟩ := hM.ents m _ hm
          obtain ⟨ad, cap, hsv, hlc⟩ : ∃ ad cap, g.sv m = .slice ad rows.length cap ∧ rows.length ≤ cap := by
            rcases hso with ⟨hv, hr, _⟩ | ⟨b, off, cap, cells, t, fz, _, k2, _, k4, _⟩
            · exact ⟨none, 0, by rw [hv, hr]; rfl, by rw [hr]; exact Nat.le_refl _⟩
            · exact ⟨_, cap, k2, k4⟩
          have hrun := run_slice (w := w) hρ hu hs ho (hv.trans hsv) hlc hl hh h1 h2 h3
          split at he
          · rename_i hlt
            simp only [Option.some.injEq, Prod.mk.injEq] at he
            obtain ⟨rfl, rfl⟩ := he
            rcases hso with ⟨hv', hr, _⟩ | ⟨b, off, cap', cells, t', fz, _, k2, _⟩
            · subst hr; simp at h3; omega
            · rw [k2] at hsv
              simp only [Value.slice.injEq, true_and] at hsv
              obtain ⟨rfl, rfl⟩ := hsv
              rw [if_neg (by omega), Option.map_some, addr_add] at hrun
              exact OpOk.value hd hrun (Res.same hM ⟨_, rfl, hsome, by omega, b, off, rows.length, cap', _, k2, by omega, by rw [hst]⟩)
          · rename_i hlt
            simp only [Option.some.injEq, Prod.mk.injEq] at he
            obtain ⟨rfl, rfl⟩ := he
            rw [show h.toNat - l.toNat = 0 by omega] at hrun
            exact OpOk.value hd hrun (Res.same hM ⟨_, rfl, .nil⟩)
        · cases he
      · cases he
    · cases he
  · cases he

end Go.AM
