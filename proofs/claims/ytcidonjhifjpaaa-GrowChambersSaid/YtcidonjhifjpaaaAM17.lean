/- The abstract machine: calls, and all operations. -/
import Derived.Test.YtcidonjhifjpaaaAM16
namespace Go.AM
open Go.RowKit

variable {P : Program} {E : Env} {w0 : Base} {w w' : World} {N0 : Nat → Prop} {g g' : Gh} {T T' : Tab} {r : Option Nat} {n : Nat} {o : Oper} {a : Act} {ρ : Operand → AV} {dst : Nat}
  {y : AV} {es : List (Nat × Entry)}

theorem DRel.flat {N N' : Nat → Prop} {d : DC} {v : Value} (h : DRel w N d v) (hf : viewD d = false) : DRel w N' d v := by
  cases h with
  | v h => exact .v h
  | fn hl hd =>
    rename_i f caps cs
    cases caps with
    | nil => exact .fn hl (by simp)
    | cons => simp [viewD] at hf
  | nil => simp [viewD] at hf
  | sl => simp [viewD] at hf
  | cref => simp [viewD] at hf

theorem SliceOwn.less {N N' : Nat → Prop} {sz : Nat} {rows : List (List DC)} {v : Value} {ob : Option Nat} (hd : ∀ d v, (∃ r ∈ rows, d ∈ r) → DRel w N d v → DRel w N' d v) (h : SliceOwn w N sz rows v ob) : SliceOwn w N' sz rows v ob := by
  rcases h with h | ⟨b, off, cap, cells, t, fz, h1, h2, h3, h4, h5, h6, h7, h8, h9, h10⟩
  · exact .inl h
  · exact .inr ⟨b, off, cap, cells, t, fz, h1, h2, h3, h4, h5, h6, h7, h8, h9, fun i j r d hr hdd => by
      obtain ⟨c, hc, hx⟩ := h10 i j r d hr hdd
      exact ⟨c, hc, hd d c ⟨r, List.mem_of_getElem? hr, List.mem_of_getElem? hdd⟩ hx⟩⟩

theorem flat_mem {rows : List (List DC)} (h : flatRows rows = true) {d : DC} (hd : ∃ r ∈ rows, d ∈ r) : viewD d = false := by
  obtain ⟨r, hr, hd⟩ := hd
  have := List.all_eq_true.1 (List.all_eq_true.1 h r hr) d hd
  simpa using this

theorem RCRel.less {N N' : Nat → Prop} {ob : Option Nat} {c : RC} {v : Value} (hn : (∀ b, N' b → N b) ∨ viewR c = false) (h : RCRel w N ob c v) : RCRel w N' ob c v := by
  cases c with
  | d x =>
    rcases hn with hn | hn
    · exact DRel.less hn h
    · exact DRel.flat h hn
  | own sz rows =>
    refine SliceOwn.less (fun d v hd hx => ?_) h
    rcases hn with hn | hn
    · exact hx.less hn
    · simp only [viewR, Bool.not_eq_eq_eq_not, Bool.not_false] at hn
      exact hx.flat (flat_mem hn hd)

theorem RVRel.less {N N' : Nat → Prop} {ob : Nat → Option Nat} {x : RV} {v : Value} (hn : (∀ b, N' b → N b) ∨ x.2.any viewR = false) (h : RVRel w N ob x v) : RVRel w N' ob x v := by
  obtain ⟨b, cs⟩ := x
  have hc : ∀ c ∈ cs, (∀ b, N' b → N b) ∨ viewR c = false := fun c hc => by
    rcases hn with hn | hn
    · exact .inl hn
    · exact .inr (by simpa using List.any_eq_false.1 hn c hc)
  cases b with
  | true =>
    obtain ⟨xs, h1, h2, h3⟩ := h
    exact ⟨xs, h1, h2, fun j c x hcj hx => (h3 j c x hcj hx).less (hc c (List.mem_of_getElem? hcj))⟩
  | false =>
    obtain ⟨c, h1, h2⟩ := h
    subst h1
    exact ⟨c, rfl, h2.less (hc c (by simp))⟩

theorem tupA_rel {N : Nat → Prop} {l : List (Bool × List C)} {vs : Array Value} (hl : l.length = vs.size) (h : ∀ (i : Nat) (p : Bool × List C) (x : Value), l[i]? = some p → vs[i]? = some x → VlRel w N g T p.1 p.2 x) :
    AVRel w N g T (tupA l) (if h : vs.size = 1 then vs[0] else .tuple vs) := by
  unfold tupA
  split
  · rename_i b cs
    have h1 : vs.size = 1 := by simpa using hl.symm
    rw [dif_pos h1]
    exact h 0 (b, cs) _ rfl (by simp [h1])
  · rename_i hne
    have h1 : ¬ vs.size = 1 := fun h1 => by
      cases l with
      | nil => simp at hl; omega
      | cons p rest =>
        cases rest with
        | nil => exact hne p.1 p.2 rfl
        | cons => simp at hl; omega
    rw [dif_neg h1]
    exact ⟨vs, rfl, hl, h⟩

theorem callOut_ok (hM : Mem w0 N0 g T w) {names : List Nat} {res : List RV} {v : Value} (hext : Below w.heap.size w w') (hres : ResRel w (butFor N0 g T names) res v w')
    (hc : callOut dst T names res = some (y, es)) : Res w0 N0 g T w y es v w' := by
  obtain ⟨vs, ob, hv, hlen, hrel, hrng, hinj⟩ := hres
  have hfz : ∃ frz, (callOut dst T names res = if freshAll (aputs T frz) (importRs dst 0 res).2 then some (tupA (importRs dst 0 res).1, frz ++ (importRs dst 0 res).2) else none) ∧ Mem w0 N0 g (aputs T frz) w ∧ Keeps N0 g T w g (aputs T frz) w ∧
      ((∀ b, avoid N0 g (aputs T frz) b → butFor N0 g T names b) ∨ res.any (fun r => r.2.any viewR) = false) := by
    cases hne : names.isEmpty with
    | true =>
      have : names = [] := List.isEmpty_iff.1 hne
      subst this
      obtain ⟨k1, k2, k3⟩ := freezeNames_ok [] hM
      exact ⟨[], by simp [callOut], hM, Keeps.refl, .inl k3⟩
    | false =>
      cases hvw : res.any (fun r => r.2.any viewR) with
      | true =>
        obtain ⟨k1, k2, k3⟩ := freezeNames_ok names hM
        exact ⟨freezeNames T names, by simp [callOut, hne, hvw], k1, k2, .inl k3⟩
      | false => exact ⟨[], by simp [callOut, hne, hvw], hM, Keeps.refl, .inr rfl⟩
  obtain ⟨frz, heq, hM1, hK1, hav⟩ := hfz
  rw [heq] at hc
  split at hc
  · rename_i hfr
    simp only [Option.some.injEq, Prod.mk.injEq] at hc
    obtain ⟨rfl, rfl⟩ := hc
    refine Res.trans hK1 ?_
    obtain ⟨L, h1, h3, h4⟩ := imp_rs (dst := dst) (ob1 := ob) res 0 vs.toList (by simpa using hlen) (fun k x u hx hu => by rw [Nat.zero_add]; exact hrel k x u hx (by simpa using hu))
    rw [h1] at hfr
    rw [h1]
    have hget := aget_aputs hfr
    have hview : ∀ (x : RV), x ∈ res → res.any (fun r => r.2.any viewR) = false → x.2.any viewR = false := fun x hx h => by simpa using List.any_eq_false.1 h x hx
    let g' : Gh := { blk := fun m => if (aget (aputs T frz) m).isSome then g.blk m else (findImp dst m L).bind fun q => ob q.i q.j
                     sv := fun m => if (aget (aputs T frz) m).isSome then g.sv m else ((findImp dst m L).map Imp.x).getD undef
                     st := fun m => if (aget (aputs T frz) m).isSome then g.st m else ((findImp dst m L).map Imp.sz).getD 0 }
    have hnewq : ∀ q ∈ L, aget (aputs T frz) (q.name dst) = none := fun q hq => (hget (q.name dst)).2 (aget_map_mem q hq)
    have hblk : ∀ q ∈ L, g'.blk (q.name dst) = ob q.i q.j ∧ g'.sv (q.name dst) = q.x ∧ g'.st (q.name dst) = q.sz := fun q hq => by
      simp [g', hnewq q hq, findImp_of_mem hfr hq]
    have hfind : ∀ m, aget (aputs T frz) m = none → (aget (aputs (aputs T frz) (L.map (Imp.entry dst))) m).isSome → ∃ q ∈ L, q.name dst = m ∧ aget (aputs (aputs T frz) (L.map (Imp.entry dst))) m = some (.own q.sz q.rows) := fun m hm hs => by
      have := (hget m).1
      rw [findImp_get] at this
      cases hq : findImp dst m L with
      | none => rw [hq] at this; simp only [Option.map_none] at this; rw [this, hm] at hs; cases hs
      | some q => rw [hq] at this; simp only [Option.map_some] at this; exact ⟨q, (findImp_mem hq).1, (findImp_mem hq).2, this⟩
    -- what is avoided behind the call
    have hav2 : ∀ b, avoid N0 g' (aputs (aputs T frz) (L.map (Imp.entry dst))) b → avoid N0 g (aputs T frz) b ∨ ∃ i j, ob i j = some b := by
      rintro b (hb | ⟨m, hl, hbm⟩)
      · exact .inl (.inl hb)
      · cases hm : aget (aputs T frz) m with
        | none =>
          obtain ⟨q, hq, rfl, _⟩ := hfind m hm (isSome_of_live hl)
          rw [(hblk q hq).1] at hbm
          exact .inr ⟨_, _, hbm⟩
        | some e =>
          refine .inl (.inr ⟨m, ?_, ?_⟩)
          · unfold live at hl ⊢
            rw [(hget m).1] at hl
            cases hq : aget (L.map (Imp.entry dst)) m with
            | none => rw [hq] at hl; exact hl
            | some e' => have := (hget m).2 (by rw [hq]; rfl); rw [hm] at this; cases this
          · simpa [g', hm] using hbm
    have hrel2 : ∀ (k : Nat) (x : RV) (u : Value), res[k]? = some x → vs[k]? = some u → RVRel w' (avoid N0 g' (aputs (aputs T frz) (L.map (Imp.entry dst)))) (ob k) x u := fun k x u hx hu => by
      refine (hrel k x u hx hu).less ?_
      rcases hav with hav | hav
      · refine .inl fun b hb => ?_
        rcases hav2 b hb with h | h
        · exact .inl (hav b h)
        · exact .inr h
      · exact .inr (hview x (List.mem_of_getElem? hx) hav)
    obtain ⟨hSO, hIV⟩ := h4 _ ob (fun k x u hx hu => by rw [Nat.zero_add]; exact hrel2 k x u hx (by simpa using hu))
    obtain ⟨q1, q2⟩ := hM1.creates (g' := g') (T' := aputs (aputs T frz) (L.map (Imp.entry dst))) hext (fun m hm => by
        rw [(hget m).1]
        cases hq : aget (L.map (Imp.entry dst)) m with
        | none => rfl
        | some e => have := (hget m).2 (by rw [hq]; rfl); rw [this] at hm; cases hm)
      (fun m hm => by simp [g', hm])
      (fun m b hm hl hb => by
        obtain ⟨q, hq, rfl, _⟩ := hfind m hm (isSome_of_live hl)
        rw [(hblk q hq).1] at hb
        exact hrng _ _ b hb)
      (fun m k b hm hk hlm hlk hbm hbk => by
        obtain ⟨q, hq, rfl, _⟩ := hfind m hm (isSome_of_live hlm)
        obtain ⟨p, hp, rfl, _⟩ := hfind k hk (isSome_of_live hlk)
        rw [(hblk q hq).1] at hbm
        rw [(hblk p hp).1] at hbk
        obtain ⟨e1, e2⟩ := hinj _ _ _ _ b hbm hbk
        simp [Imp.name, e1, e2])
      (fun hK m e hm he => by
        obtain ⟨q, hq, rfl, hq'⟩ := hfind m hm (isSome_of_get he)
        rw [he] at hq'
        simp only [Option.some.injEq] at hq'
        subst hq'
        obtain ⟨b1, b2, b3⟩ := hblk q hq
        exact ⟨by rw [b1, b2]; exact hSO q hq, b3⟩)
    refine ⟨g', q1, q2, ?_⟩
    rw [hv]
    refine tupA_rel (by rw [h3, hlen]) (fun i p x hp hx => ?_)
    obtain ⟨xs, e1, e2, e3⟩ := hIV i p x hp (by simpa using hx)
    have hcell : ∀ (k : Nat) (c : C) (u : Value), p.2[k]? = some c → xs[k]? = some u → CRel w' (avoid N0 g' (aputs (aputs T frz) (L.map (Imp.entry dst)))) g' (aputs (aputs T frz) (L.map (Imp.entry dst))) c u := fun k c u hc hu => by
      rcases e3 k c u hc hu with ⟨d, rfl, hd⟩ | ⟨q, hq, rfl, hqx⟩
      · exact hd
      · obtain ⟨b1, b2, b3⟩ := hblk q hq
        refine ⟨?_, by rw [b2, hqx], ?_⟩
        · rw [(hget _).1]
          have := aget_map_mem (dst := dst) q hq
          cases hz : aget (L.map (Imp.entry dst)) (q.name dst) with
          | none => rw [hz] at this; cases this
          | some e => rfl
        · rcases hSO q hq with ⟨e, _, _⟩ | ⟨b, off, cap, cells, t, fz, _, e, _⟩
          · exact ⟨_, _, _, hqx ▸ e⟩
          · exact ⟨_, _, _, hqx ▸ e⟩
    obtain ⟨b, cs⟩ := p
    cases b with
    | true =>
      simp only [if_true] at e1
      exact ⟨xs.toArray, e1, by simpa using e2, fun k c u hc hu => hcell k c u hc (by simpa using hu)⟩
    | false =>
      simp only [Bool.false_eq_true, if_false] at e1
      subst e1
      obtain ⟨c, rfl⟩ : ∃ c, cs = [c] := by
        cases cs with
        | nil => simp at e2
        | cons c rest => simp at e2; subst e2; exact ⟨c, rfl⟩
      exact ⟨c, rfl, hcell 0 c x rfl rfl⟩
  · cases hc

end Go.AM
