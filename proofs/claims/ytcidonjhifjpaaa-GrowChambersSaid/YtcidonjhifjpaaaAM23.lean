/- The abstract machine: states are tidied: slots dropped, names dropped, names changed. -/
import Derived.Test.YtcidonjhifjpaaaAM22
namespace Go.AM
open Go.RowKit

variable {P : Program} {E : Env} {w0 : Base} {w w' : World} {N0 : Nat → Prop} {g g' : Gh} {T T' : Tab} {nt : Nat} {svv : Array Value} {a : Act} {σ σ' : St}

/-! ### Dropping -/

/-- The rows of these keys, in their order. -/
def pickL {α : Type} : List Nat → List (Nat × α) → List (Nat × α)
  | [], _ => []
  | k :: r, l => match aget l k with
    | some x => (k, x) :: pickL r l
    | none => pickL r l

theorem aget_pickL {α : Type} (ks : List Nat) (l : List (Nat × α)) (n : Nat) (x : α) (h : aget (pickL ks l) n = some x) : aget l n = some x := by
  induction ks with
  | nil => simp [pickL, aget] at h
  | cons k r ih =>
    simp only [pickL] at h
    split at h
    · rename_i y hy
      simp only [aget] at h
      split at h
      · rename_i hk
        subst hk
        rw [hy]; exact h
      · exact ih h
    · exact ih h

theorem aget_pickL_in {α : Type} (ks : List Nat) (l : List (Nat × α)) (n : Nat) (hn : n ∈ ks) : aget (pickL ks l) n = aget l n := by
  induction ks with
  | nil => simp at hn
  | cons k r ih =>
    simp only [pickL]
    by_cases hk : k = n
    · subst hk
      cases hy : aget l k with
      | none =>
        simp only
        cases hq : aget (pickL r l) k with
        | none => rfl
        | some z => rw [← hy]; exact (aget_pickL r l k z hq).symm
      | some y => simp [aget]
    · have hn' : n ∈ r := by
        rcases List.mem_cons.1 hn with h | h
        · exact absurd h.symm hk
        · exact h
      split
      · simp only [aget, if_neg hk]; exact ih hn'
      · exact ih hn'

def capRefs : List Cap → List Nat
  | [] => []
  | .ptr n :: r => n :: capRefs r
  | .d _ :: r => capRefs r

/-- The names that stand in a cell. -/
def refsC : C → List Nat
  | .ref n | .eptr n _ _ | .ptr n _ | .sub n _ _ => [n]
  | .fn _ caps => capRefs caps
  | _ => []

def refsCs : List C → List Nat
  | [] => []
  | c :: r => refsC c ++ refsCs r

def refsTup : List (Bool × List C) → List Nat
  | [] => []
  | p :: r => refsCs p.2 ++ refsTup r

def refsA : AV → List Nat
  | .val _ cs => refsCs cs
  | .tup l => refsTup l

theorem mem_refsCs {cs : List C} {i : Nat} {c : C} (h : cs[i]? = some c) {n : Nat} (hn : n ∈ refsC c) : n ∈ refsCs cs := by
  induction cs generalizing i with
  | nil => simp at h
  | cons x r ih =>
    simp only [refsCs, List.mem_append]
    cases i with
    | zero => simp at h; subst h; exact .inl hn
    | succ i => exact .inr (ih (by simpa using h))

theorem mem_refsTup {l : List (Bool × List C)} {i : Nat} {p : Bool × List C} (h : l[i]? = some p) {n : Nat} (hn : n ∈ refsCs p.2) : n ∈ refsTup l := by
  induction l generalizing i with
  | nil => simp at h
  | cons x r ih =>
    simp only [refsTup, List.mem_append]
    cases i with
    | zero => simp at h; subst h; exact .inl hn
    | succ i => exact .inr (ih (by simpa using h))

theorem mem_capRefs {caps : List Cap} {i n : Nat} (h : caps[i]? = some (.ptr n)) : n ∈ capRefs caps := by
  induction caps generalizing i with
  | nil => simp at h
  | cons x r ih =>
    cases i with
    | zero => simp at h; subst h; simp [capRefs]
    | succ i =>
      have := ih (i := i) (by simpa using h)
      cases x <;> simp [capRefs, this]

theorem CRel.sub (hd : ∀ d v, DRel w (avoid N0 g T) d v → DRel w (avoid N0 g T') d v) {c : C} {v : Value} (h : CRel w (avoid N0 g T) g T c v) (hr : ∀ n ∈ refsC c, (aget T n).isSome → (aget T' n).isSome) : CRel w (avoid N0 g T') g T' c v := by
  cases c with
  | d x => exact hd _ _ h
  | nils => exact h
  | und => exact h
  | unk => trivial
  | yld l => exact h
  | ref n => exact ⟨hr n (by simp [refsC]) h.1, h.2⟩
  | sub n lo hi => exact ⟨hr n (by simp [refsC]) h.1, h.2⟩
  | ptr n off => exact ⟨hr n (by simp [refsC]) h.1, h.2⟩
  | eptr n i off => exact ⟨hr n (by simp [refsC]) h.1, h.2⟩
  | fn f caps =>
    obtain ⟨cs, h1, h2, h3⟩ := h
    refine ⟨cs, h1, h2, fun i c x hc hx => ?_⟩
    have := h3 i c x hc hx
    cases c with
    | d y => exact hd _ _ this
    | ptr n => exact ⟨hr n (mem_capRefs hc) this.1, this.2⟩

theorem VlRel.sub (hd : ∀ d v, DRel w (avoid N0 g T) d v → DRel w (avoid N0 g T') d v) {b : Bool} {cs : List C} {v : Value} (h : VlRel w (avoid N0 g T) g T b cs v) (hr : ∀ n ∈ refsCs cs, (aget T n).isSome → (aget T' n).isSome) :
    VlRel w (avoid N0 g T') g T' b cs v := by
  cases b with
  | true =>
    obtain ⟨xs, h1, h2, h3⟩ := h
    exact ⟨xs, h1, h2, fun i c x hc hx => (h3 i c x hc hx).sub hd fun n hn => hr n (mem_refsCs hc hn)⟩
  | false =>
    obtain ⟨c, rfl, h2⟩ := h
    exact ⟨c, rfl, h2.sub hd fun n hn => hr n (by simp [refsCs, hn])⟩

theorem AVRel.sub (hd : ∀ d v, DRel w (avoid N0 g T) d v → DRel w (avoid N0 g T') d v) {x : AV} {v : Value} (h : AVRel w (avoid N0 g T) g T x v) (hr : ∀ n ∈ refsA x, (aget T n).isSome → (aget T' n).isSome) :
    AVRel w (avoid N0 g T') g T' x v := by
  cases x with
  | val b cs => exact VlRel.sub hd h hr
  | tup l =>
    obtain ⟨xs, h1, h2, h3⟩ := h
    exact ⟨xs, h1, h2, fun i p x hp hx => (h3 i p x hp hx).sub hd fun n hn => hr n (mem_refsTup hp hn)⟩

def inN (l : List Nat) (n : Nat) : Bool := l.any fun m => m == n

def allIn (l : List Nat) : List Nat → Bool
  | [] => true
  | n :: r => inN l n && allIn l r

theorem allIn_spec {l m : List Nat} (h : allIn l m = true) : ∀ n ∈ m, inN l n = true := by
  induction m with
  | nil => simp
  | cons x r ih =>
    simp only [allIn, Bool.and_eq_true] at h
    intro n hn
    rcases List.mem_cons.1 hn with rfl | hn
    · exact h.1
    · exact ih h.2 n hn

/-- Each once. -/
def once : List Nat → List Nat → List Nat
  | acc, [] => acc.reverse
  | acc, n :: r => if inN acc n then once acc r else once (n :: acc) r

theorem inN_iff {l : List Nat} {n : Nat} : inN l n = true ↔ n ∈ l := by
  simp [inN]

def namesT (T : Tab) : List (Nat × AV) → List Nat
  | [] => []
  | (_, x) :: r => namesA T x ++ namesT T r

def refsT : List (Nat × AV) → List Nat
  | [] => []
  | (_, x) :: r => refsA x ++ refsT r

def refsB : Tab → List Nat
  | [] => []
  | (_, .box cs) :: r => refsCs cs ++ refsB r
  | _ :: r => refsB r

/-- The names that nothing leads to are dropped. -/
def gcA (σ : St) : Option St :=
  let l := once [] (namesT σ.tab σ.tmps ++ namesT σ.tab σ.sv)
  let T := pickL l σ.tab
  if allIn l (refsT σ.tmps ++ refsT σ.sv) && allIn l (refsB T) then some ⟨σ.tmps, T, σ.sv⟩ else none

theorem mem_refsT {tmps : List (Nat × AV)} {t : Nat} {x : AV} (h : aget tmps t = some x) {n : Nat} (hn : n ∈ refsA x) : n ∈ refsT tmps := by
  induction tmps with
  | nil => simp [aget] at h
  | cons p r ih =>
    obtain ⟨k, y⟩ := p
    simp only [aget] at h
    simp only [refsT, List.mem_append]
    split at h
    · simp only [Option.some.injEq] at h; subst h; exact .inl hn
    · exact .inr (ih h)

theorem mem_refsB {T : Tab} {k : Nat} {cs : List C} (h : aget T k = some (.box cs)) {n : Nat} (hn : n ∈ refsCs cs) : n ∈ refsB T := by
  induction T with
  | nil => simp [aget] at h
  | cons p r ih =>
    obtain ⟨m, e⟩ := p
    simp only [aget] at h
    split at h
    · simp only [Option.some.injEq] at h; subst h; simp only [refsB, List.mem_append]; exact .inl hn
    · have := ih h
      cases e <;> simp [refsB, this]

theorem Rel.keep (h : Rel w0 N0 nt svv σ a w) (l : List Nat) : Rel w0 N0 nt svv ⟨pickL l σ.tmps, σ.tab, σ.sv⟩ a w := by
  obtain ⟨g, hM, hS, hsz, hd, hS2⟩ := h
  exact ⟨g, hM, fun t x hx => hS t x (aget_pickL _ _ _ _ hx), hsz, hd, hS2⟩

theorem Rel.gc (h : Rel w0 N0 nt svv σ a w) (hg : gcA σ = some σ') : Rel w0 N0 nt svv σ' a w := by
  obtain ⟨g, hM, hS, hsz, hd, hS2⟩ := h
  simp only [gcA] at hg
  split at hg
  · rename_i hc
    simp only [Bool.and_eq_true] at hc
    simp only [Option.some.injEq] at hg
    subst hg
    generalize hl : once [] (namesT σ.tab σ.tmps ++ namesT σ.tab σ.sv) = l at hc
    have hsub : ∀ n e, aget (pickL l σ.tab) n = some e → aget σ.tab n = some e := fun n e he => aget_pickL _ _ _ _ he
    have hlive : ∀ n, live (pickL l σ.tab) n → live σ.tab n := fun n hn => by
      unfold live at hn ⊢
      cases he : aget (pickL l σ.tab) n with
      | none => rw [he] at hn; exact hn.elim
      | some e => rw [he] at hn; rw [hsub n e he]; exact hn
    have hav : ∀ b, avoid N0 g (pickL l σ.tab) b → avoid N0 g σ.tab b := fun b hb => by
      rcases hb with hb | ⟨m, h1, h2⟩
      · exact .inl hb
      · exact .inr ⟨m, hlive m h1, h2⟩
    have hdr : ∀ d v, DRel w (avoid N0 g σ.tab) d v → DRel w (avoid N0 g (pickL l σ.tab)) d v := fun d v hx => hx.mono (Nat.le_refl _) (fun _ _ _ => rfl) fun b _ hb => hav b hb
    have hin : ∀ n, inN l n = true → (aget σ.tab n).isSome → (aget (pickL l σ.tab) n).isSome := fun n h1 h2 => by rw [aget_pickL_in _ _ _ (inN_iff.1 h1)]; exact h2
    refine ⟨g, ⟨hM.below, fun n e he => ?_, fun n m b hn hm => hM.inj n m b (hlive n hn) (hlive m hm), fun n b hn => hM.rng n b (hlive n hn), hM.n0⟩, fun t x hx => (hS t x hx).sub hdr fun n hn => hin n (allIn_spec hc.1 n (List.mem_append_left _ (mem_refsT hx hn))), hsz, hd,
      fun t x hx => (hS2 t x hx).sub hdr fun n hn => hin n (allIn_spec hc.1 n (List.mem_append_right _ (mem_refsT hx hn)))⟩
    have h0 := hM.ents n e (hsub n e he)
    cases e with
    | box cs =>
      obtain ⟨b, cells, t, h1, h2, h3, h4, h5⟩ := h0
      exact ⟨b, cells, t, h1, h2, h3, fun i c x hc' hx => (h4 i c x hc' hx).sub hdr fun m hm => hin m (allIn_spec hc.2 m (mem_refsB he (mem_refsCs hc' hm))), h5⟩
    | own sz rows =>
      refine ⟨?_, h0.2⟩
      rcases h0.1 with x | ⟨b, off, cap, cells, t, fz, h1, h2, h3, h4, h5, h6, h7, h8, h9, h10⟩
      · exact .inl x
      · exact .inr ⟨b, off, cap, cells, t, fz, h1, h2, h3, h4, h5, h6, h7, h8, h9, fun i j r d hr hd => by
          obtain ⟨c, hc, hx⟩ := h10 i j r d hr hd
          exact ⟨c, hc, hdr _ _ hx⟩⟩
    | imm rows => exact ⟨hdr _ _ h0.1, h0.2⟩
    | dead => trivial
  · cases hg

/-! ### Two names change places -/

def swapN (n m k : Nat) : Nat := if k = n then m else if k = m then n else k

theorem swapN_swapN (n m k : Nat) : swapN n m (swapN n m k) = k := by
  unfold swapN
  by_cases h1 : k = n
  · subst h1
    by_cases h2 : m = k
    · simp [h2]
    · simp [h2]
  · by_cases h2 : k = m
    · subst h2; simp [h1]
    · simp [h1, h2]

def swapCap (n m : Nat) : Cap → Cap
  | .ptr k => .ptr (swapN n m k)
  | .d x => .d x

def swapC (n m : Nat) : C → C
  | .ref k => .ref (swapN n m k)
  | .ptr k off => .ptr (swapN n m k) off
  | .eptr k i off => .eptr (swapN n m k) i off
  | .sub k lo hi => .sub (swapN n m k) lo hi
  | .fn f caps => .fn f (caps.map (swapCap n m))
  | .d x => .d x
  | .nils => .nils
  | .und => .und
  | .unk => .unk
  | .yld l => .yld l

def swapA (n m : Nat) : AV → AV
  | .val b cs => .val b (cs.map (swapC n m))
  | .tup l => .tup (l.map fun p => (p.1, p.2.map (swapC n m)))

def swapE (n m : Nat) : Entry → Entry
  | .box cs => .box (cs.map (swapC n m))
  | .own sz rows => .own sz rows
  | .imm rows => .imm rows
  | .dead => .dead

def swapT (n m : Nat) : Tab → Tab
  | [] => []
  | (k, e) :: r => (swapN n m k, swapE n m e) :: swapT n m r

def swapV (n m : Nat) : List (Nat × AV) → List (Nat × AV)
  | [] => []
  | (k, x) :: r => (k, swapA n m x) :: swapV n m r

def swapS (n m : Nat) (σ : St) : St := ⟨swapV n m σ.tmps, swapT n m σ.tab, swapV n m σ.sv⟩

theorem aget_swapV {n m : Nat} (l : List (Nat × AV)) (t : Nat) : aget (swapV n m l) t = (aget l t).map (swapA n m) := by
  induction l with
  | nil => rfl
  | cons p r ih =>
    obtain ⟨k, x⟩ := p
    simp only [swapV, aget]
    split <;> simp_all

theorem aget_swapT {n m : Nat} (l : Tab) (t : Nat) : aget (swapT n m l) t = (aget l (swapN n m t)).map (swapE n m) := by
  induction l with
  | nil => rfl
  | cons p r ih =>
    obtain ⟨k, x⟩ := p
    simp only [swapT, aget]
    by_cases h : k = swapN n m t
    · subst h; simp [swapN_swapN]
    · rw [if_neg h, if_neg (fun hk => h (by rw [← hk, swapN_swapN]))]
      exact ih

def Gh.swap (g : Gh) (n m : Nat) : Gh := ⟨fun k => g.blk (swapN n m k), fun k => g.sv (swapN n m k), fun k => g.st (swapN n m k)⟩

theorem live_swap {n m k : Nat} : live (swapT n m T) k ↔ live T (swapN n m k) := by
  unfold live
  rw [aget_swapT]
  cases aget T (swapN n m k) with
  | none => rfl
  | some e => cases e <;> simp [swapE]

theorem avoid_swap {n m : Nat} : avoid N0 (g.swap n m) (swapT n m T) = avoid N0 g T := by
  funext b
  simp only [avoid, eq_iff_iff]
  constructor
  · rintro (h | ⟨k, h1, h2⟩)
    · exact .inl h
    · exact .inr ⟨swapN n m k, live_swap.1 h1, h2⟩
  · rintro (h | ⟨k, h1, h2⟩)
    · exact .inl h
    · exact .inr ⟨swapN n m k, live_swap.2 (by rw [swapN_swapN]; exact h1), by simp only [Gh.swap, swapN_swapN]; exact h2⟩

theorem CRel.swap {N : Nat → Prop} {n m : Nat} {c : C} {v : Value} (h : CRel w N g T c v) : CRel w N (g.swap n m) (swapT n m T) (swapC n m c) v := by
  have hs : ∀ k, (aget T k).isSome → (aget (swapT n m T) (swapN n m k)).isSome := fun k hk => by rw [aget_swapT, swapN_swapN]; simpa using hk
  cases c with
  | d x => exact h
  | nils => exact h
  | und => exact h
  | unk => trivial
  | yld l => exact h
  | ref k => exact ⟨hs k h.1, by simp only [Gh.swap, swapN_swapN]; exact h.2.1, h.2.2⟩
  | sub k lo hi => exact ⟨hs k h.1, by simp only [Gh.swap, swapN_swapN]; exact h.2⟩
  | ptr k off => exact ⟨hs k h.1, by simp only [Gh.swap, swapN_swapN]; exact h.2⟩
  | eptr k i off => exact ⟨hs k h.1, by simp only [Gh.swap, swapN_swapN]; exact h.2⟩
  | fn f caps =>
    obtain ⟨cs, h1, h2, h3⟩ := h
    refine ⟨cs, h1, by simpa using h2, fun i c x hc hx => ?_⟩
    rw [List.getElem?_map] at hc
    cases hq : caps[i]? with
    | none => rw [hq] at hc; cases hc
    | some c' =>
      rw [hq] at hc
      simp only [Option.map_some, Option.some.injEq] at hc
      subst hc
      have := h3 i c' x hq hx
      cases c' with
      | d y => exact this
      | ptr k => exact ⟨hs k this.1, by simp only [Gh.swap, swapN_swapN]; exact this.2⟩

theorem VlRel.swap {N : Nat → Prop} {n m : Nat} {b : Bool} {cs : List C} {v : Value} (h : VlRel w N g T b cs v) : VlRel w N (g.swap n m) (swapT n m T) b (cs.map (swapC n m)) v := by
  cases b with
  | true =>
    obtain ⟨xs, h1, h2, h3⟩ := h
    refine ⟨xs, h1, by simpa using h2, fun i c x hc hx => ?_⟩
    rw [List.getElem?_map] at hc
    cases hq : cs[i]? with
    | none => rw [hq] at hc; cases hc
    | some c' =>
      rw [hq] at hc
      simp only [Option.map_some, Option.some.injEq] at hc
      subst hc
      exact (h3 i c' x hq hx).swap
  | false =>
    obtain ⟨c, rfl, h2⟩ := h
    exact ⟨swapC n m c, rfl, h2.swap⟩

theorem AVRel.swap {N : Nat → Prop} {n m : Nat} {x : AV} {v : Value} (h : AVRel w N g T x v) : AVRel w N (g.swap n m) (swapT n m T) (swapA n m x) v := by
  cases x with
  | val b cs => exact VlRel.swap h
  | tup l =>
    obtain ⟨xs, h1, h2, h3⟩ := h
    refine ⟨xs, h1, by simpa using h2, fun i p x hp hx => ?_⟩
    rw [List.getElem?_map] at hp
    cases hq : l[i]? with
    | none => rw [hq] at hp; cases hp
    | some p' =>
      rw [hq] at hp
      simp only [Option.map_some, Option.some.injEq] at hp
      subst hp
      exact (h3 i p' x hq hx).swap

theorem Rel.swap (h : Rel w0 N0 nt svv σ a w) (n m : Nat) : Rel w0 N0 nt svv (swapS n m σ) a w := by
  obtain ⟨g, hM, hS, hsz, hd, hS2⟩ := h
  refine ⟨g.swap n m, ⟨hM.below, fun k e he => ?_, fun k l b hk hl bk bl => ?_, fun k b hk => hM.rng _ b (live_swap.1 hk), hM.n0⟩, fun t x hx => ?_, hsz, hd, fun t x hx => ?_⟩
  · simp only [swapS] at he ⊢
    rw [avoid_swap]
    rw [aget_swapT] at he
    cases hq : aget σ.tab (swapN n m k) with
    | none => rw [hq] at he; cases he
    | some e' =>
      rw [hq] at he
      simp only [Option.map_some, Option.some.injEq] at he
      subst he
      have h0 := hM.ents _ e' hq
      cases e' with
      | box cs =>
        obtain ⟨b, cells, t, h1, h2, h3, h4, h5⟩ := h0
        refine ⟨b, cells, t, h1, h2, by simpa using h3, fun i c x hc hx => ?_, fun i c hc => ?_⟩
        · rw [List.getElem?_map] at hc
          cases hq' : cs[i]? with
          | none => rw [hq'] at hc; cases hc
          | some c' =>
            rw [hq'] at hc
            simp only [Option.map_some, Option.some.injEq] at hc
            subst hc
            exact (h4 i c' x hq' hx).swap
        · rw [List.getElem?_map] at hc
          cases hq' : cs[i]? with
          | none => rw [hq'] at hc; cases hc
          | some c' =>
            rw [hq'] at hc
            simp only [Option.map_some, Option.some.injEq] at hc
            subst hc
            have := h5 i c' hq'
            cases c' <;> first | exact this | rfl | (simp [swapC, okC] at this ⊢; done) | (simp [swapC, okC]; done)
      | own sz rows => exact h0
      | imm rows => exact h0
      | dead => trivial
  · have := hM.inj _ _ b (live_swap.1 hk) (live_swap.1 hl) bk bl
    rw [← swapN_swapN n m k, this, swapN_swapN]
  · simp only [swapS] at hx ⊢
    rw [avoid_swap]
    rw [aget_swapV] at hx
    cases hq : aget σ.tmps t with
    | none => rw [hq] at hx; cases hx
    | some x' =>
      rw [hq] at hx
      simp only [Option.map_some, Option.some.injEq] at hx
      subst hx
      exact (hS t x' hq).swap
  · simp only [swapS] at hx ⊢
    rw [avoid_swap]
    rw [aget_swapV] at hx
    cases hq : aget σ.sv t with
    | none => rw [hq] at hx; cases hx
    | some x' =>
      rw [hq] at hx
      simp only [Option.map_some, Option.some.injEq] at hx
      subst hx
      exact (hS2 t x' hq).swap

/-! ### A nil slice gets a name -/

structure Ren where
  box : Bool
  at' : Nat
  cell : Nat
  nm : Nat
  sz : Nat

def cellAt (σ : St) (r : Ren) : Option C :=
  if r.box then match aget σ.tab r.at' with
    | some (.box cs) => cs[r.cell]?
    | _ => none
  else match aget σ.tmps r.at' with
    | some (.val _ cs) => cs[r.cell]?
    | _ => none

def nameNil (σ : St) (r : Ren) : Option St :=
  if (aget σ.tab r.nm).isNone then
    if r.box then match aget σ.tab r.at' with
      | some (.box cs) => some ⟨σ.tmps, aput (aput σ.tab r.nm (.own r.sz [])) r.at' (.box (cs.set r.cell (.ref r.nm))), σ.sv⟩
      | _ => none
    else match aget σ.tmps r.at' with
      | some (.val b cs) => some ⟨aput σ.tmps r.at' (.val b (cs.set r.cell (.ref r.nm))), aput σ.tab r.nm (.own r.sz []), σ.sv⟩
      | _ => none
  else none

def ren1A (σ : St) (r : Ren) : Option St :=
  match cellAt σ r with
  | some .nils => if r.sz = 0 then some σ else nameNil σ r
  | some (.ref n) => if n = r.nm then some σ else some (swapS n r.nm σ)
  | _ => some σ
/-- With the size 999999: what has this name is never written again. -/
def renA (σ : St) (r : Ren) : Option St :=
  if r.sz = 999999 then some ⟨σ.tmps, aputs σ.tab (freezeNames σ.tab [r.nm]), σ.sv⟩ else ren1A σ r

theorem set_nils_rel {N : Nat → Prop} {cs : List C} {xs : Array Value} {k m : Nat} (h0 : cs.length = xs.size) (h : ∀ (i : Nat) (c : C) (x : Value), cs[i]? = some c → xs[i]? = some x → CRel w N g T c x) (hk : cs[k]? = some .nils)
    (hs : (aget T m).isSome) (hv : g.sv m = .slice none 0 0) : ∀ (i : Nat) (c : C) (x : Value), (cs.set k (.ref m))[i]? = some c → xs[i]? = some x → CRel w N g T c x := by
  intro i c x hc hx
  rw [List.getElem?_set] at hc
  split at hc
  · rename_i hki
    subst hki
    split at hc
    · simp only [Option.some.injEq] at hc
      subst hc
      have := h k .nils x hk hx
      exact ⟨hs, by rw [hv]; exact this, _, _, _, this⟩
    · cases hc
  · exact h i c x hc hx

theorem Rel.nameNil (h : Rel w0 N0 nt svv σ a w) {r : Ren} (hc : cellAt σ r = some .nils) (hr : nameNil σ r = some σ') : Rel w0 N0 nt svv σ' a w := by
  obtain ⟨g, hM, hS, hsz, hd, hS2⟩ := h
  unfold AM.nameNil at hr
  split at hr
  · rename_i hf
    have hf' : aget σ.tab r.nm = none := by simpa using hf
    obtain ⟨hM1, hK1⟩ := hM.create (n := r.nm) (e := .own r.sz []) (ob := none) (sv := .slice none 0 0) (s := r.sz) hf' (Below.refl _ _) (fun b hb => by cases hb) (fun _ => ⟨.inl ⟨by simp [Gh.set], rfl, by simp [Gh.set]⟩, by simp [Gh.set]⟩)
    have hsv : (g.set r.nm none (.slice none 0 0) r.sz).sv r.nm = .slice none 0 0 := by simp [Gh.set]
    have hsome : (aget (aput σ.tab r.nm (.own r.sz [])) r.nm).isSome := by rw [aget_aput_same]; rfl
    generalize g.set r.nm none (.slice none 0 0) r.sz = g1 at hM1 hK1 hsv
    split at hr
    · rename_i hb
      split at hr
      · rename_i cs hcs
        simp only [Option.some.injEq] at hr
        subst hr
        have hne : r.at' ≠ r.nm := fun e => by rw [e, hf'] at hcs; cases hcs
        have hcs1 : aget (aput σ.tab r.nm (.own r.sz [])) r.at' = some (.box cs) := by rw [aget_aput_other _ _ hne]; exact hcs
        have hcell : cs[r.cell]? = some .nils := by simpa [cellAt, hb, hcs] using hc
        obtain ⟨b, cells, t, h1, h2, h3, h4, h5⟩ := hM1.ents _ _ hcs1
        have hl : live (aput σ.tab r.nm (.own r.sz [])) r.at' := by unfold live; rw [hcs1]; trivial
        obtain ⟨hM2, hK2⟩ := hM1.write (w' := w) (e := .box (cs.set r.cell (.ref r.nm))) hl h1 trivial ⟨rfl, rfl, rfl, Nat.le_refl _, fun _ _ _ => rfl⟩ rfl (fun hK => by
          refine ⟨b, cells, t, h1, h2, by simpa using h3, fun i c x hci hx => ?_, fun i c hci => ?_⟩
          · refine set_nils_rel (by omega) (fun i c x hci hx => hK.c (h4 i c x hci hx)) hcell (isSome_aput hsome) hsv i c x hci hx
          · rw [List.getElem?_set] at hci
            split at hci
            · split at hci
              · simp only [Option.some.injEq] at hci; subst hci; rfl
              · cases hci
            · exact h5 i c hci)
        exact ⟨g1, hM2, fun t x hx => hK2.a (hK1.a (hS t x hx)), hsz, hd, fun t x hx => hK2.a (hK1.a (hS2 t x hx))⟩
      · cases hr
    · rename_i hb
      split at hr
      · rename_i b cs hcs
        simp only [Option.some.injEq] at hr
        subst hr
        have hcell : cs[r.cell]? = some .nils := by simpa [cellAt, hb, hcs] using hc
        refine ⟨g1, hM1, fun t x hx => ?_, hsz, hd, fun t x hx => hK1.a (hS2 t x hx)⟩
        rw [aget_aput] at hx
        split at hx
        · rename_i ht
          subst ht
          simp only [Option.some.injEq] at hx
          subst hx
          have := hK1.a (hS _ _ hcs)
          cases b with
          | true =>
            obtain ⟨xs, e1, e2, e3⟩ := this
            exact ⟨xs, e1, by simpa using e2, set_nils_rel e2 e3 hcell hsome hsv⟩
          | false =>
            obtain ⟨c, e1, e2⟩ := this
            subst e1
            have h0 : r.cell = 0 := by
              rcases Nat.eq_zero_or_pos r.cell with h | h
              · exact h
              · rw [List.getElem?_eq_none (by simp; omega)] at hcell; cases hcell
            rw [h0] at hcell ⊢
            simp only [List.getElem?_cons_zero, Option.some.injEq] at hcell
            subst hcell
            exact ⟨.ref r.nm, rfl, hsome, by rw [hsv]; exact e2, _, _, _, e2⟩
        · exact hK1.a (hS t x hx)
      · cases hr
  · cases hr

theorem Rel.ren (h : Rel w0 N0 nt svv σ a w) {r : Ren} (hr : renA σ r = some σ') : Rel w0 N0 nt svv σ' a w := by
  unfold renA at hr
  split at hr
  · simp only [Option.some.injEq] at hr; subst hr
    obtain ⟨g, hM, hS, hsz, hd, hS2⟩ := h
    obtain ⟨k1, k2, _⟩ := freezeNames_ok [r.nm] hM
    exact ⟨g, k1, fun u x hu => k2.a (hS u x hu), hsz, hd, fun u x hu => k2.a (hS2 u x hu)⟩
  unfold ren1A at hr
  split at hr
  · rename_i hc
    split at hr
    · simp only [Option.some.injEq] at hr; subst hr; exact h
    · exact h.nameNil hc hr
  · split at hr
    · simp only [Option.some.injEq] at hr; subst hr; exact h
    · simp only [Option.some.injEq] at hr; subst hr; exact h.swap _ _
  · simp only [Option.some.injEq] at hr; subst hr; exact h

def rensA : List Ren → St → Option St
  | [], σ => some σ
  | r :: l, σ => match renA σ r with
    | some σ' => rensA l σ'
    | none => none

/-- What a slot leads to is never written again. -/
def fzA (σ : St) (t : Nat) : St :=
  match aget σ.tmps t with
  | some (.val b cs) => match freezeCs σ.tab cs with
    | some (ds, es) => ⟨aput σ.tmps t (.val b (ds.map .d)), aputs σ.tab es, σ.sv⟩
    | none => σ
  | _ => σ

def fzsA : List Nat → St → St
  | [], σ => σ
  | t :: l, σ => fzsA l (fzA σ t)

theorem Rel.fz (h : Rel w0 N0 nt svv σ a w) (t : Nat) : Rel w0 N0 nt svv (fzA σ t) a w := by
  obtain ⟨g, hM, hS, hsz, hd, hS2⟩ := h
  unfold fzA
  split
  · rename_i b cs hcs
    split
    · rename_i ds es hf
      have hv := hS t _ hcs
      have key : ∀ xs : List Value, CellsRel w (avoid N0 g σ.tab) g σ.tab cs xs → Mem w0 N0 g (aputs σ.tab es) w ∧ Keeps N0 g σ.tab w g (aputs σ.tab es) w ∧ ds.length = cs.length ∧
          ∀ (i : Nat) (d : DC) (x : Value), ds[i]? = some d → xs[i]? = some x → DRel w (avoid N0 g (aputs σ.tab es)) d x := fun xs hx => freezeCs_ok hM hx hf
      have fin : ∀ (hM2 : Mem w0 N0 g (aputs σ.tab es) w) (hK : Keeps N0 g σ.tab w g (aputs σ.tab es) w), AVRel w (avoid N0 g (aputs σ.tab es)) g (aputs σ.tab es) (.val b (ds.map .d)) (a.tmps.getD t undef) →
          Rel w0 N0 nt svv ⟨aput σ.tmps t (.val b (ds.map .d)), aputs σ.tab es, σ.sv⟩ a w := fun hM2 hK hx => by
        refine ⟨g, hM2, fun u x hu => ?_, hsz, hd, fun u x hu => hK.a (hS2 u x hu)⟩
        rw [aget_aput] at hu
        split at hu
        · rename_i ht; subst ht; simp only [Option.some.injEq] at hu; subst hu; exact hx
        · exact hK.a (hS u x hu)
      cases b with
      | true =>
        obtain ⟨xs, e1, e2, e3⟩ := hv
        obtain ⟨h1, h2, h3, h4⟩ := key xs.toList ⟨by simpa using e2.symm, fun i c x hc hx => e3 i c x hc (by simpa using hx)⟩
        refine fin h1 h2 ⟨xs, e1, by simp [h3, e2], fun i c x hc hx => ?_⟩
        rw [List.getElem?_map] at hc
        cases hq : ds[i]? with
        | none => rw [hq] at hc; cases hc
        | some d => rw [hq] at hc; simp only [Option.map_some, Option.some.injEq] at hc; subst hc; exact h4 i d x hq (by simpa using hx)
      | false =>
        obtain ⟨c, e1, e2⟩ := hv
        subst e1
        obtain ⟨h1, h2, h3, h4⟩ := key [a.tmps.getD t undef] ⟨rfl, fun i c' x hc hx => by
          cases i with
          | zero => simp only [List.getElem?_cons_zero, Option.some.injEq] at hc hx; subst hc; subst hx; exact e2
          | succ i => simp at hc⟩
        match ds, h3 with
        | [d], _ => exact fin h1 h2 ⟨.d d, rfl, h4 0 d _ rfl rfl⟩
    · exact ⟨g, hM, hS, hsz, hd, hS2⟩
  · exact ⟨g, hM, hS, hsz, hd, hS2⟩

theorem Rel.fzs : ∀ (l : List Nat) {σ : St}, Rel w0 N0 nt svv σ a w → Rel w0 N0 nt svv (fzsA l σ) a w
  | [], _, h => h
  | t :: l, _, h => Rel.fzs l (h.fz t)

/-- How a state is tidied. -/
structure Tidy where
  keep : List Nat
  gc : Bool
  rens : List Ren
  fz : List Nat

def gcO (b : Bool) (σ : St) : Option St := if b then gcA σ else some σ

def tidyA (t : Tidy) (σ : St) : Option St :=
  match gcO t.gc (fzsA t.fz ⟨pickL t.keep σ.tmps, σ.tab, σ.sv⟩) with
  | some σ1 => match rensA t.rens σ1 with
    | some σ2 => gcO t.gc σ2
    | none => none
  | none => none

def tidyO : Option Tidy → St → Option St
  | none, σ => some σ
  | some t, σ => tidyA t σ

theorem Rel.rens : ∀ (l : List Ren) {σ : St}, Rel w0 N0 nt svv σ a w → rensA l σ = some σ' → Rel w0 N0 nt svv σ' a w
  | [], σ, h, hr => by simp only [rensA, Option.some.injEq] at hr; subst hr; exact h
  | r :: l, σ, h, hr => by
    simp only [rensA] at hr
    split at hr
    · rename_i σ1 h1; exact Rel.rens l (h.ren h1) hr
    · cases hr

theorem Rel.gcO (h : Rel w0 N0 nt svv σ a w) {b : Bool} (hg : AM.gcO b σ = some σ') : Rel w0 N0 nt svv σ' a w := by
  unfold AM.gcO at hg
  split at hg
  · exact h.gc hg
  · simp only [Option.some.injEq] at hg; subst hg; exact h

theorem Rel.tidy (h : Rel w0 N0 nt svv σ a w) {t : Option Tidy} (ht : tidyO t σ = some σ') : Rel w0 N0 nt svv σ' a w := by
  cases t with
  | none => simp only [tidyO, Option.some.injEq] at ht; subst ht; exact h
  | some t =>
    simp only [tidyO, tidyA] at ht
    split at ht
    · rename_i σ1 h1
      split at ht
      · rename_i σ2 h2
        exact ((((h.keep t.keep).fzs t.fz).gcO h1).rens _ h2).gcO ht
      · cases ht
    · cases ht

end Go.AM
