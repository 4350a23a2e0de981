/- The abstract machine's states against the model's worlds: the relation, and how it is kept. -/
import Derived.Test.YtcidonjhifjpaaaAM1
namespace Go.AM
open Go.RowKit

/-- Data as memory holds it; no block of N is leant on. -/
inductive DRel (w : World) (N : Nat → Prop) : DC → Value → Prop
  | v {x : Value} (h : plain x = true) : DRel w N (.v x) x
  | nil {a : Option Addr} {cap : Nat} : DRel w N (.sl []) (.slice a 0 cap)
  | sl {rows : List (List DC)} {b off cap sz : Nat} (f : Nat → Nat → Value)
      (hne : 0 < rows.length) (hN : ¬ N b) (hb : b < w.heap.size) (hsz : 0 < sz) (hl : ∀ r ∈ rows, r.length = sz) (hcap : rows.length ≤ cap)
      (hc : ∀ i j, i < rows.length → j < sz → w.cell? ⟨b, off + i * sz + j, none⟩ = some (f i j))
      (hd : ∀ (i j : Nat) (r : List DC) (d : DC), rows[i]? = some r → r[j]? = some d → DRel w N d (f i j)) :
      DRel w N (.sl rows) (.slice (some ⟨b, off, none⟩) rows.length cap)
  | fn {f : Nat} {caps : List DC} {cs : Array Value} (hl : caps.length = cs.size) (hd : ∀ (i : Nat) (d : DC) (c : Value), caps[i]? = some d → cs[i]? = some c → DRel w N d c) :
      DRel w N (.fn f caps) (.func (.func f) #[] cs)
  | cref {cs : List DC} {b o off : Nat} (f : Nat → Value) (hN : ¬ N b) (hb : b < w.heap.size)
      (hc : ∀ j, j < cs.length → w.cell? ⟨b, o + j, none⟩ = some (f j)) (hd : ∀ (j : Nat) (d : DC), cs[j]? = some d → DRel w N d (f j)) :
      DRel w N (.cref cs off) (.pointer (some ⟨b, o + off, none⟩))

theorem cell_of_heap {w w' : World} {b o : Nat} (h : w'.heap[b]? = w.heap[b]?) : w'.cell? ⟨b, o, none⟩ = w.cell? ⟨b, o, none⟩ := by simp [World.cell?, h]

theorem DRel.mono {w w' : World} {N N' : Nat → Prop} (hs : w.heap.size ≤ w'.heap.size) (hh : ∀ b, b < w.heap.size → ¬ N b → w'.heap[b]? = w.heap[b]?)
    (hn : ∀ b, b < w.heap.size → N' b → N b) {d : DC} {v : Value} (h : DRel w N d v) : DRel w' N' d v := by
  induction h with
  | v h => exact .v h
  | nil => exact .nil
  | @sl rows b off cap sz f hne hN hb hsz hl hcap hc hd ih =>
    exact .sl f hne (fun h => hN (hn _ hb h)) (Nat.lt_of_lt_of_le hb hs) hsz hl hcap (fun i j hi hj => (cell_of_heap (hh _ hb hN)).trans (hc i j hi hj)) ih
  | fn hl hd ih => exact .fn hl ih
  | cref f hN hb hc hd ih =>
    exact .cref f (fun h => hN (hn _ hb h)) (Nat.lt_of_lt_of_le hb hs) (fun j hj => (cell_of_heap (hh _ hb hN)).trans (hc j hj)) ih

/-- What stands behind the names. -/
structure Gh where
  blk : Nat → Option Nat
  sv : Nat → Value
  st : Nat → Nat

def live (T : Tab) (n : Nat) : Prop :=
  match aget T n with
  | some (.box _) | some (.own _ _) => True
  | _ => False

def avoid (N0 : Nat → Prop) (g : Gh) (T : Tab) : Nat → Prop := fun b => N0 b ∨ ∃ n, live T n ∧ g.blk n = some b

def CapRel (w : World) (N : Nat → Prop) (g : Gh) (T : Tab) : Cap → Value → Prop
  | .d x, v => DRel w N x v
  | .ptr n, v => (aget T n).isSome ∧ ∃ b, g.blk n = some b ∧ v = .pointer (some ⟨b, 0, none⟩)

def CRel (w : World) (N : Nat → Prop) (g : Gh) (T : Tab) : C → Value → Prop
  | .d x, v => DRel w N x v
  | .nils, v => v = .slice none 0 0
  | .und, v => v = undef
  | .unk, _ => True
  | .yld l, v => v = .func (.yield l) #[] #[]
  | .sub n lo hi, v => (aget T n).isSome ∧ lo < hi ∧ ∃ b o len cap cap', g.sv n = .slice (some ⟨b, o, none⟩) len cap ∧ hi ≤ len ∧ v = .slice (some ⟨b, o + lo * g.st n, none⟩) (hi - lo) cap'
  | .ref n, v => (aget T n).isSome ∧ v = g.sv n ∧ ∃ a l c, v = .slice a l c
  | .ptr n off, v => (aget T n).isSome ∧ ∃ b, g.blk n = some b ∧ v = .pointer (some ⟨b, off, none⟩)
  | .eptr n i off, v => (aget T n).isSome ∧ ∃ b o len cap, g.sv n = .slice (some ⟨b, o, none⟩) len cap ∧ v = .pointer (some ⟨b, o + i * g.st n + off, none⟩)
  | .fn f caps, v => ∃ cs : Array Value, v = .func (.func f) #[] cs ∧ caps.length = cs.size ∧ ∀ (i : Nat) (c : Cap) (x : Value), caps[i]? = some c → cs[i]? = some x → CapRel w N g T c x

/-- A slice in memory of this activation: nothing else leans on its block. -/
def SliceOwn (w : World) (N : Nat → Prop) (sz : Nat) (rows : List (List DC)) (v : Value) (ob : Option Nat) : Prop :=
  (v = .slice none 0 0 ∧ rows = [] ∧ ob = none) ∨
  ∃ b off cap cells t fz, ob = some b ∧ v = .slice (some ⟨b, off, none⟩) rows.length cap ∧ w.heap[b]? = some (.cells cells t fz) ∧ rows.length ≤ cap ∧ cap ≤ maxLen ∧
    off + cap * sz ≤ cells.size ∧ (∀ j, off ≤ j → j < off + cap * sz → (decide (fz.1 ≤ j) && decide (j < fz.2)) = false) ∧ (∀ r ∈ rows, r.length = sz) ∧ 0 < sz ∧
    ∀ (i j : Nat) (r : List DC) (d : DC), rows[i]? = some r → r[j]? = some d → ∃ c, cells[off + i * sz + j]? = some c ∧ DRel w N d c

def ERel (w : World) (N : Nat → Prop) (g : Gh) (T : Tab) (n : Nat) : Entry → Prop
  | .box cs => ∃ b cells t, g.blk n = some b ∧ w.heap[b]? = some (.cells cells t (0, 0)) ∧ cells.size = cs.length ∧ (∀ (i : Nat) (c : C) (x : Value), cs[i]? = some c → cells[i]? = some x → CRel w N g T c x) ∧
      ∀ (i : Nat) (c : C), cs[i]? = some c → okC c = true
  | .own sz rows => SliceOwn w N sz rows (g.sv n) (g.blk n) ∧ g.st n = sz
  | .imm rows => DRel w N (.sl rows) (g.sv n) ∧ ∀ r ∈ rows, r.length = g.st n
  | .dead => True

/-- Where a run began, and the blocks from before that it may write. -/
structure Base where
  w : World
  own : Nat → Prop

/-- From the beginning of a run: what lay before lies as it lay, but for the blocks that are its own. -/
structure Over (w0 : Base) (w w' : World) : Prop where
  os : w'.os = w.os
  tape : w'.tape = w.tape
  output : w'.output = w.output
  size : w.heap.size ≤ w'.heap.size
  block : ∀ k, k < w0.w.heap.size → ¬ w0.own k → w'.heap[k]? = w.heap[k]?

theorem Over.refl {w0 : Base} {w : World} : Over w0 w w := ⟨rfl, rfl, rfl, Nat.le_refl _, fun _ _ _ => rfl⟩
theorem Over.trans {w0 : Base} {a b c : World} (h : Over w0 a b) (k : Over w0 b c) : Over w0 a c :=
  ⟨k.os.trans h.os, k.tape.trans h.tape, k.output.trans h.output, Nat.le_trans h.size k.size, fun i hi ho => (k.block i hi ho).trans (h.block i hi ho)⟩
theorem Over.of {w0 : Base} {w w' : World} (h : Below w.heap.size w w') (hs : w0.w.heap.size ≤ w.heap.size) : Over w0 w w' := ⟨h.os, h.tape, h.output, h.size, fun k hk _ => h.block k (Nat.lt_of_lt_of_le hk hs)⟩

structure Mem (w0 : Base) (N0 : Nat → Prop) (g : Gh) (T : Tab) (w : World) : Prop where
  below : Over w0 w0.w w
  ents : ∀ n e, aget T n = some e → ERel w (avoid N0 g T) g T n e
  inj : ∀ n m b, live T n → live T m → g.blk n = some b → g.blk m = some b → n = m
  rng : ∀ n b, live T n → g.blk n = some b → (w0.w.heap.size ≤ b ∨ w0.own b) ∧ b < w.heap.size
  n0 : ∀ b, N0 b → b < w0.w.heap.size ∧ ¬ w0.own b

/-- A value of two layers: an aggregate's cells, or one cell. -/
def VlRel (w : World) (N : Nat → Prop) (g : Gh) (T : Tab) (agg : Bool) (cs : List C) (v : Value) : Prop :=
  match agg with
  | true => ∃ xs : Array Value, v = .agg xs ∧ cs.length = xs.size ∧ ∀ (i : Nat) (c : C) (x : Value), cs[i]? = some c → xs[i]? = some x → CRel w N g T c x
  | false => ∃ c, cs = [c] ∧ CRel w N g T c v

def AVRel (w : World) (N : Nat → Prop) (g : Gh) (T : Tab) : AV → Value → Prop
  | .val agg cs, v => VlRel w N g T agg cs v
  | .tup l, v => ∃ xs : Array Value, v = .tuple xs ∧ l.length = xs.size ∧ ∀ (i : Nat) (p : Bool × List C) (x : Value), l[i]? = some p → xs[i]? = some x → VlRel w N g T p.1 p.2 x

/-! ### Association lists -/

theorem aget_aput_same {α : Type} (l : List (Nat × α)) (n : Nat) (x : α) : aget (aput l n x) n = some x := by
  induction l with
  | nil => simp [aput, aget]
  | cons p r ih =>
    obtain ⟨k, y⟩ := p
    by_cases h : k = n
    · simp [aput, h, aget]
    · simp [aput, h, aget, ih]

theorem aget_aput_other {α : Type} (l : List (Nat × α)) {n m : Nat} (x : α) (h : m ≠ n) : aget (aput l n x) m = aget l m := by
  induction l with
  | nil => simp [aput, aget, Ne.symm h]
  | cons p r ih =>
    obtain ⟨k, y⟩ := p
    by_cases hk : k = n
    · subst hk; simp [aput, aget, Ne.symm h]
    · simp [aput, hk, aget, ih]

theorem aget_aput {α : Type} (l : List (Nat × α)) (n m : Nat) (x : α) : aget (aput l n x) m = if m = n then some x else aget l m := by
  by_cases h : m = n
  · subst h; simp [aget_aput_same]
  · simp [h, aget_aput_other]

theorem isSome_aput {T : Tab} {n m : Nat} {e : Entry} (h : (aget T m).isSome) : (aget (aput T n e) m).isSome := by
  rw [aget_aput]; split
  · rfl
  · exact h

theorem isSome_aputs {es : List (Nat × Entry)} : ∀ {T : Tab} {m : Nat}, (aget T m).isSome → (aget (aputs T es) m).isSome := by
  induction es with
  | nil => intro T m h; exact h
  | cons p r ih => intro T m h; exact ih (isSome_aput h)

/-! ### Keeping the relation -/

theorem CapRel.mono {w w' : World} {N N' : Nat → Prop} {g g' : Gh} {T T' : Tab} (hd : ∀ d v, DRel w N d v → DRel w' N' d v) (hT : ∀ n, (aget T n).isSome → (aget T' n).isSome)
    (hg : ∀ n, (aget T n).isSome → g'.blk n = g.blk n ∧ g'.sv n = g.sv n ∧ g'.st n = g.st n) {c : Cap} {v : Value} (h : CapRel w N g T c v) : CapRel w' N' g' T' c v := by
  cases c with
  | d x => exact hd _ _ h
  | ptr n => exact ⟨hT n h.1, by rw [(hg n h.1).1]; exact h.2⟩

theorem CRel.mono {w w' : World} {N N' : Nat → Prop} {g g' : Gh} {T T' : Tab} (hd : ∀ d v, DRel w N d v → DRel w' N' d v) (hT : ∀ n, (aget T n).isSome → (aget T' n).isSome)
    (hg : ∀ n, (aget T n).isSome → g'.blk n = g.blk n ∧ g'.sv n = g.sv n ∧ g'.st n = g.st n) {c : C} {v : Value} (h : CRel w N g T c v) : CRel w' N' g' T' c v := by
  cases c with
  | d x => exact hd _ _ h
  | nils => exact h
  | und => exact h
  | unk => trivial
  | yld l => exact h
  | sub n lo hi => exact ⟨hT n h.1, by rw [(hg n h.1).2.1, (hg n h.1).2.2]; exact h.2⟩
  | ref n => exact ⟨hT n h.1, by rw [(hg n h.1).2.1]; exact h.2⟩
  | ptr n off => exact ⟨hT n h.1, by rw [(hg n h.1).1]; exact h.2⟩
  | eptr n i off => exact ⟨hT n h.1, by rw [(hg n h.1).2.1, (hg n h.1).2.2]; exact h.2⟩
  | fn f caps =>
    obtain ⟨cs, h1, h2, h3⟩ := h
    exact ⟨cs, h1, h2, fun i c x hc hx => (h3 i c x hc hx).mono hd hT hg⟩

theorem VlRel.mono {w w' : World} {N N' : Nat → Prop} {g g' : Gh} {T T' : Tab} (hm : ∀ c v, CRel w N g T c v → CRel w' N' g' T' c v) {b : Bool} {cs : List C} {v : Value} (h : VlRel w N g T b cs v) : VlRel w' N' g' T' b cs v := by
  cases b with
  | true =>
    obtain ⟨xs, h1, h2, h3⟩ := h
    exact ⟨xs, h1, h2, fun i c x hc hx => hm _ _ (h3 i c x hc hx)⟩
  | false =>
    obtain ⟨c, h1, h2⟩ := h
    exact ⟨c, h1, hm _ _ h2⟩

theorem AVRel.mono {w w' : World} {N N' : Nat → Prop} {g g' : Gh} {T T' : Tab} (hm : ∀ c v, CRel w N g T c v → CRel w' N' g' T' c v) {x : AV} {v : Value} (h : AVRel w N g T x v) : AVRel w' N' g' T' x v := by
  cases x with
  | val b cs => exact VlRel.mono hm h
  | tup l =>
    obtain ⟨xs, h1, h2, h3⟩ := h
    exact ⟨xs, h1, h2, fun i p x hp hx => (h3 i p x hp hx).mono hm⟩

end Go.AM
