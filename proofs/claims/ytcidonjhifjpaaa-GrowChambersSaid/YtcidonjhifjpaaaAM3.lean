/- The abstract machine: how the relation is carried over one change of the memory. -/
import Derived.Test.YtcidonjhifjpaaaAM2
namespace Go.AM
open Go.RowKit

variable {w0 : Base} {w w' : World} {N0 : Nat → Prop} {g g' : Gh} {T T' : Tab}

/-- What a step keeps, whatever it is. -/
structure Keeps (N0 : Nat → Prop) (g : Gh) (T : Tab) (w : World) (g' : Gh) (T' : Tab) (w' : World) : Prop where
  d : ∀ d v, DRel w (avoid N0 g T) d v → DRel w' (avoid N0 g' T') d v
  t : ∀ n, (aget T n).isSome → (aget T' n).isSome
  g : ∀ n, (aget T n).isSome → g'.blk n = g.blk n ∧ g'.sv n = g.sv n ∧ g'.st n = g.st n

theorem Keeps.c (h : Keeps N0 g T w g' T' w') {c : C} {v : Value} (hc : CRel w (avoid N0 g T) g T c v) : CRel w' (avoid N0 g' T') g' T' c v := hc.mono h.d h.t h.g
theorem Keeps.a (h : Keeps N0 g T w g' T' w') {x : AV} {v : Value} (hc : AVRel w (avoid N0 g T) g T x v) : AVRel w' (avoid N0 g' T') g' T' x v := hc.mono fun _ _ => h.c

theorem Keeps.refl : Keeps N0 g T w g T w := ⟨fun _ _ h => h, fun _ h => h, fun _ _ => ⟨rfl, rfl, rfl⟩⟩

theorem Keeps.trans {w'' : World} {g'' : Gh} {T'' : Tab} (h : Keeps N0 g T w g' T' w') (k : Keeps N0 g' T' w' g'' T'' w'') : Keeps N0 g T w g'' T'' w'' :=
  ⟨fun d v x => k.d d v (h.d d v x), fun n x => k.t n (h.t n x), fun n x => by
    obtain ⟨a1, a2, a3⟩ := h.g n x
    obtain ⟨b1, b2, b3⟩ := k.g n (h.t n x)
    exact ⟨b1.trans a1, b2.trans a2, b3.trans a3⟩⟩

theorem Keeps.of (hs : w.heap.size ≤ w'.heap.size) (hh : ∀ b, b < w.heap.size → ¬ avoid N0 g T b → w'.heap[b]? = w.heap[b]?) (hn : ∀ b, b < w.heap.size → avoid N0 g' T' b → avoid N0 g T b)
    (ht : ∀ n, (aget T n).isSome → (aget T' n).isSome) (hg : ∀ n, (aget T n).isSome → g'.blk n = g.blk n ∧ g'.sv n = g.sv n ∧ g'.st n = g.st n) : Keeps N0 g T w g' T' w' :=
  ⟨fun _ _ h => h.mono hs hh hn, ht, hg⟩

theorem isSome_of_get {n : Nat} {e : Entry} (h : aget T n = some e) : (aget T n).isSome := by rw [h]; rfl

theorem isSome_of_live {n : Nat} (h : live T n) : (aget T n).isSome := by
  unfold live at h
  cases hx : aget T n with
  | none => rw [hx] at h; exact h.elim
  | some e => rfl

theorem SliceOwn.mono (h : Keeps N0 g T w g' T' w') {sz : Nat} {rows : List (List DC)} {v : Value} {ob : Option Nat} (hb : ∀ b, ob = some b → w'.heap[b]? = w.heap[b]?)
    (x : SliceOwn w (avoid N0 g T) sz rows v ob) : SliceOwn w' (avoid N0 g' T') sz rows v ob := by
  rcases x with x | ⟨b, off, cap, cells, t, fz, h1, h2, h3, h4, h5, h6, h7, h8, h9, h10⟩
  · exact .inl x
  · exact .inr ⟨b, off, cap, cells, t, fz, h1, h2, (hb b h1).trans h3, h4, h5, h6, h7, h8, h9, fun i j r d hr hd => by
      obtain ⟨c, hc, hx⟩ := h10 i j r d hr hd
      exact ⟨c, hc, h.d _ _ hx⟩⟩

theorem ERel.mono (h : Keeps N0 g T w g' T' w') {n : Nat} {e : Entry} (hn : aget T n = some e) (hb : ∀ b, live T n → g.blk n = some b → w'.heap[b]? = w.heap[b]?)
    (x : ERel w (avoid N0 g T) g T n e) : ERel w' (avoid N0 g' T') g' T' n e := by
  have hg := h.g n (isSome_of_get hn)
  cases e with
  | box cs =>
    obtain ⟨b, cells, t, h1, h2, h3, h4, h5⟩ := x
    have hl : live T n := by unfold live; rw [hn]; trivial
    exact ⟨b, cells, t, hg.1.trans h1, (hb b hl h1).trans h2, h3, fun i c x hc hx => h.c (h4 i c x hc hx), h5⟩
  | own sz rows =>
    have hl : live T n := by unfold live; rw [hn]; trivial
    refine ⟨?_, hg.2.2.trans x.2⟩
    have := x.1.mono h (fun b hb' => hb b hl hb')
    rw [hg.2.1, hg.1]
    exact this
  | imm rows => exact ⟨by rw [hg.2.1]; exact h.d _ _ x.1, by rw [hg.2.2]; exact x.2⟩
  | dead => trivial

/-- One change of the memory. -/
theorem Mem.upd (hM : Mem w0 N0 g T w) (hbelow : Over w0 w w') (hK : Keeps N0 g T w g' T' w')
    (hent : ∀ m e, aget T' m = some e → (aget T m = some e ∧ ∀ b, live T m → g.blk m = some b → w'.heap[b]? = w.heap[b]?) ∨ ERel w' (avoid N0 g' T') g' T' m e)
    (hinj : ∀ n m b, live T' n → live T' m → g'.blk n = some b → g'.blk m = some b → n = m)
    (hrng : ∀ n b, live T' n → g'.blk n = some b → (w0.w.heap.size ≤ b ∨ w0.own b) ∧ b < w'.heap.size) : Mem w0 N0 g' T' w' :=
  ⟨hM.below.trans hbelow, fun m e he => by
    rcases hent m e he with ⟨h1, h2⟩ | h
    · exact (hM.ents m e h1).mono hK h1 h2
    · exact h, hinj, hrng, hM.n0⟩

theorem live_aput {n m : Nat} {e : Entry} : live (aput T n e) m ↔ (if m = n then (match e with | .box _ | .own _ _ => True | _ => False) else live T m) := by
  unfold live
  rw [aget_aput]
  by_cases h : m = n
  · simp only [h, if_true]; cases e <;> simp
  · simp [h]

theorem avoid_lt (hM : Mem w0 N0 g T w) {b : Nat} (h : avoid N0 g T b) : b < w.heap.size := by
  rcases h with h | ⟨n, hl, hb⟩
  · exact Nat.lt_of_lt_of_le (hM.n0 b h).1 hM.below.size
  · exact (hM.rng n b hl hb).2

def Gh.set (g : Gh) (n : Nat) (b : Option Nat) (v : Value) (s : Nat) : Gh :=
  { blk := fun m => if m = n then b else g.blk m, sv := fun m => if m = n then v else g.sv m, st := fun m => if m = n then s else g.st m }

/-- A new name, over a new block or none. -/
theorem Mem.create (hM : Mem w0 N0 g T w) {n : Nat} {e : Entry} {ob : Option Nat} {sv : Value} {s : Nat} (hf : aget T n = none) (hext : Below w.heap.size w w')
    (hob : ∀ b, ob = some b → w.heap.size ≤ b ∧ b < w'.heap.size)
    (hE : Keeps N0 g T w (g.set n ob sv s) (aput T n e) w' → ERel w' (avoid N0 (g.set n ob sv s) (aput T n e)) (g.set n ob sv s) (aput T n e) n e) :
    Mem w0 N0 (g.set n ob sv s) (aput T n e) w' ∧ Keeps N0 g T w (g.set n ob sv s) (aput T n e) w' := by
  have hne : ∀ m, (aget T m).isSome → m ≠ n := fun m hm h => by subst h; rw [hf] at hm; cases hm
  have hK : Keeps N0 g T w (g.set n ob sv s) (aput T n e) w' := by
    refine Keeps.of hext.size (fun b hb _ => hext.block b hb) (fun b hb ha => ?_) (fun m hm => isSome_aput hm) (fun m hm => by simp [Gh.set, hne m hm])
    rcases ha with ha | ⟨m, hl, hbm⟩
    · exact .inl ha
    · rw [live_aput] at hl
      by_cases hm : m = n
      · simp only [Gh.set, hm, if_true] at hbm
        have := hob b hbm
        omega
      · simp only [hm, if_false] at hl
        simp only [Gh.set, hm, if_false] at hbm
        exact .inr ⟨m, hl, hbm⟩
  refine ⟨hM.upd (.of hext hM.below.size) hK (fun m e' he' => ?_) (fun m k b hm hk bm bk => ?_) (fun m b hm bm => ?_), hK⟩
  · rw [aget_aput] at he'
    by_cases h : m = n
    · simp only [h, if_true, Option.some.injEq] at he'
      subst h; subst he'
      exact .inr (hE hK)
    · simp only [h, if_false] at he'
      exact .inl ⟨he', fun b hl hb => hext.block b (hM.rng m b hl hb).2⟩
  · rw [live_aput] at hm hk
    by_cases h1 : m = n <;> by_cases h2 : k = n
    · rw [h1, h2]
    · simp only [Gh.set, h1, h2, if_true, if_false] at bm bk hk
      have := (hM.rng k b hk bk).2
      have := (hob b bm).1
      omega
    · simp only [Gh.set, h1, h2, if_true, if_false] at bm bk hm
      have := (hM.rng m b hm bm).2
      have := (hob b bk).1
      omega
    · simp only [Gh.set, h1, h2, if_false] at bm bk hm hk
      exact hM.inj m k b hm hk bm bk
  · rw [live_aput] at hm
    by_cases h1 : m = n
    · simp only [Gh.set, h1, if_true] at bm
      exact ⟨.inl (Nat.le_trans hM.below.size (hob b bm).1), (hob b bm).2⟩
    · simp only [Gh.set, h1, if_false] at bm hm
      have := hM.rng m b hm bm
      exact ⟨this.1, Nat.lt_of_lt_of_le this.2 hext.size⟩

/-- An owned block is written. -/
theorem Mem.write (hM : Mem w0 N0 g T w) {n b : Nat} {e : Entry} (hl : live T n) (hb : g.blk n = some b) (hle : match e with | .box _ | .own _ _ => True | _ => False)
    (hg : w.grownBy w' (some b)) (hsz : w'.heap.size = w.heap.size)
    (hE : Keeps N0 g T w g (aput T n e) w' → ERel w' (avoid N0 g (aput T n e)) g (aput T n e) n e) :
    Mem w0 N0 g (aput T n e) w' ∧ Keeps N0 g T w g (aput T n e) w' := by
  have hlive : ∀ m, live (aput T n e) m ↔ live T m := fun m => by
    rw [live_aput]
    by_cases h : m = n
    · subst h; simp only [if_true]; exact ⟨fun _ => hl, fun _ => hle⟩
    · simp [h]
  have hK : Keeps N0 g T w g (aput T n e) w' := by
    refine Keeps.of (by omega) (fun k hk ha => hg.block k hk (fun h => ha (.inr ⟨n, hl, by rw [hb, h]⟩))) (fun k hk ha => ?_) (fun m hm => isSome_aput hm) (fun _ _ => ⟨rfl, rfl, rfl⟩)
    rcases ha with ha | ⟨m, hl', hbm⟩
    · exact .inl ha
    · exact .inr ⟨m, (hlive m).1 hl', hbm⟩
  have hbel : Over w0 w w' :=
    ⟨hg.os, hg.tape, hg.output, hg.size, fun k hk ho => by
      have h1 := hM.below.size
      refine hg.block k (by omega) (fun h => ?_)
      have := (hM.rng n b hl hb).1
      simp at h
      subst h
      exact this.elim (fun h => by omega) ho⟩
  refine ⟨hM.upd hbel hK (fun m e' he' => ?_) (fun m k c hm hk => hM.inj m k c ((hlive m).1 hm) ((hlive k).1 hk)) (fun m c hm hc => ?_), hK⟩
  · rw [aget_aput] at he'
    by_cases h : m = n
    · simp only [h, if_true, Option.some.injEq] at he'
      subst h; subst he'
      exact .inr (hE hK)
    · simp only [h, if_false] at he'
      refine .inl ⟨he', fun c hlm hc => hg.block c (hM.rng m c hlm hc).2 (fun hcb => h ?_)⟩
      simp at hcb
      subst hcb
      exact hM.inj m n c hlm hl hc hb
  · have := hM.rng m c ((hlive m).1 hm) hc
    exact ⟨this.1, by omega⟩

/-- A name that is written no more. -/
theorem Mem.retire (hM : Mem w0 N0 g T w) {n : Nat} {e : Entry} (hs : (aget T n).isSome) (hle : match e with | .box _ | .own _ _ => False | _ => True)
    (hE : Keeps N0 g T w g (aput T n e) w → ERel w (avoid N0 g (aput T n e)) g (aput T n e) n e) : Mem w0 N0 g (aput T n e) w ∧ Keeps N0 g T w g (aput T n e) w := by
  have hlive : ∀ m, live (aput T n e) m → live T m ∧ m ≠ n := fun m h => by
    rw [live_aput] at h
    by_cases hm : m = n
    · subst hm; simp only [if_true] at h; cases e <;> simp_all
    · simp only [hm, if_false] at h; exact ⟨h, hm⟩
  have hK : Keeps N0 g T w g (aput T n e) w := by
    refine Keeps.of (Nat.le_refl _) (fun _ _ _ => rfl) (fun k hk ha => ?_) (fun m hm => isSome_aput hm) (fun _ _ => ⟨rfl, rfl, rfl⟩)
    rcases ha with ha | ⟨m, hl', hbm⟩
    · exact .inl ha
    · exact .inr ⟨m, (hlive m hl').1, hbm⟩
  refine ⟨hM.upd .refl hK (fun m e' he' => ?_) (fun m k c hm hk => hM.inj m k c (hlive m hm).1 (hlive k hk).1) (fun m c hm hc => hM.rng m c (hlive m hm).1 hc), hK⟩
  rw [aget_aput] at he'
  by_cases h : m = n
  · simp only [h, if_true, Option.some.injEq] at he'
    subst h; subst he'
    exact .inr (hE hK)
  · simp only [h, if_false] at he'
    exact .inl ⟨he', fun _ _ _ => rfl⟩

/-- An owned slice is frozen. -/
theorem Mem.freeze (hM : Mem w0 N0 g T w) {n sz : Nat} {rows : List (List DC)} (hn : aget T n = some (.own sz rows)) :
    Mem w0 N0 g (aput T n (.imm rows)) w ∧ Keeps N0 g T w g (aput T n (.imm rows)) w := by
  have hl : live T n := by unfold live; rw [hn]; trivial
  refine hM.retire (isSome_of_get hn) trivial (fun hK => ?_)
  obtain ⟨hs, hst⟩ := hM.ents n _ hn
  rcases hs with ⟨hv, hr, hb⟩ | ⟨b, off, cap, cells, t, fz, h1, h2, h3, h4, h5, h6, h7, h8, h9, h10⟩
  · subst hr; rw [ERel, hv]; exact ⟨.nil, by simp⟩
  · refine ⟨?_, by rw [hst]; exact h8⟩
    rw [h2]
    by_cases hr : rows = []
    · subst hr; exact .nil
    · have hN : ¬ avoid N0 g (aput T n (.imm rows)) b := by
        rintro (h | ⟨m, hlm, hbm⟩)
        · have h1' := hM.n0 b h
          exact (hM.rng n b hl h1).1.elim (fun h => by omega) h1'.2
        · rw [live_aput] at hlm
          by_cases hm : m = n
          · simp [hm] at hlm
          · simp only [hm, if_false] at hlm
            exact hm (hM.inj m n b hlm hl hbm h1)
      have hsz : ∀ (i : Nat) (r : List DC), rows[i]? = some r → r.length = sz := fun i r hr => h8 r (List.mem_of_getElem? hr)
      refine .sl (sz := sz) (fun i j => (cells[off + i * sz + j]?).getD undef) (List.length_pos_iff.2 hr) hN (hM.rng n b hl h1).2 h9 h8 h4 (fun i j hi hj => ?_) (fun i j r d hr hd => ?_)
      · obtain ⟨r, hr⟩ : ∃ r, rows[i]? = some r := ⟨rows[i], by simp [hi]⟩
        obtain ⟨d, hd⟩ : ∃ d, r[j]? = some d := ⟨r[j]'(by rw [hsz i r hr]; exact hj), by simp⟩
        obtain ⟨c, hc, _⟩ := h10 i j r d hr hd
        simp [World.cell?, h3, hc]
      · obtain ⟨c, hc, hx⟩ := h10 i j r d hr hd
        rw [hc]
        exact hK.d _ _ hx

end Go.AM
