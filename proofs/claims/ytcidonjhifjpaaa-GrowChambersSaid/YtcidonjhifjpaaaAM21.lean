/- The abstract machine: regions that draw their order: one walk in the order of the text serves every order. -/
import Derived.Test.YtcidonjhifjpaaaAM20
namespace Go.AM
open Go.RowKit

structure Outc where
  dst : Option Nat
  y : AV
  es : List (Nat × Entry)
  lk : List Nat

/-- The names that an operation looks at or changes. -/
def lkA (σ : St) (ao : AOper) (es : List (Nat × Entry)) : List Nat :=
  match wantA σ.tmps ao.guard with
  | some true => looksN σ.tab (evO σ.tmps) ao.op ++ es.map (·.1)
  | _ => []

def applyO (o : Outc) (σ : St) : St := applyA σ o.dst o.y o.es

def outsA (P : Program) (E : Env) : List AOper → St → Option (List Outc × St)
  | [], σ => some ([], σ)
  | ao :: l, σ => match outA P E ao σ with
    | some (y, es) => match outsA P E l (applyA σ ao.dst y es) with
      | some (os, σ') => some (⟨ao.dst, y, es, lkA σ ao es⟩ :: os, σ')
      | none => none
    | none => none

def foldS (p : Nat → Bool) : Nat → List Outc → St → St
  | _, [], σ => σ
  | k, o :: l, σ => foldS p (k + 1) l (if p k then applyO o σ else σ)

theorem get_put {tmps : List (Nat × AV)} {dst : Option Nat} {y : AV} {t : Nat} : aget (putT tmps dst y) t = if dst = some t then some y else aget tmps t := by
  cases dst with
  | none => simp [putT]
  | some d => simp only [putT, aget, Option.some.injEq]

theorem get_aputs_not {es : List (Nat × Entry)} : ∀ {T : Tab} {n : Nat}, n ∉ es.map (·.1) → aget (aputs T es) n = aget T n := by
  induction es with
  | nil => intro T n _; rfl
  | cons p r ih =>
    intro T n hn
    simp only [List.map_cons, List.mem_cons, not_or] at hn
    simp only [aputs, ih hn.2, aget_aput, if_neg hn.1]

theorem get_aputs_in {es : List (Nat × Entry)} : ∀ {T T' : Tab} {n : Nat}, n ∈ es.map (·.1) → aget (aputs T es) n = aget (aputs T' es) n := by
  induction es with
  | nil => intro T T' n hn; simp at hn
  | cons p r ih =>
    intro T T' n hn
    simp only [aputs]
    by_cases hr : n ∈ r.map (·.1)
    · exact ih hr
    · simp only [List.map_cons, List.mem_cons] at hn
      rcases hn with hn | hn
      · rw [get_aputs_not hr, get_aputs_not hr, aget_aput, aget_aput, if_pos hn, if_pos hn]
      · exact absurd hn hr

theorem foldS_tmp {p q : Nat → Bool} {t : Nat} : ∀ (os : List Outc) (k : Nat) (σ σ' : St), aget σ.tmps t = aget σ'.tmps t →
    (∀ i o, os[i]? = some o → o.dst = some t → p (k + i) = q (k + i)) → aget (foldS p k os σ).tmps t = aget (foldS q k os σ').tmps t
  | [], _, _, _, h, _ => h
  | o :: l, k, σ, σ', h, hp => by
    simp only [foldS]
    refine foldS_tmp l (k + 1) _ _ ?_ fun i o' ho hd => by have := hp (i + 1) o' (by simpa using ho) hd; simpa [Nat.add_assoc, Nat.add_comm 1 i] using this
    by_cases hd : o.dst = some t
    · have := hp 0 o rfl hd
      simp only [Nat.add_zero] at this
      rw [this]
      split
      · simp [applyO, applyA, get_put, hd]
      · exact h
    · have h1 : aget (if p k = true then applyO o σ else σ).tmps t = aget σ.tmps t := by split <;> simp [applyO, applyA, get_put, hd]
      have h2 : aget (if q k = true then applyO o σ' else σ').tmps t = aget σ'.tmps t := by split <;> simp [applyO, applyA, get_put, hd]
      rw [h1, h2, h]

theorem foldS_tab {p q : Nat → Bool} {n : Nat} : ∀ (os : List Outc) (k : Nat) (σ σ' : St), aget σ.tab n = aget σ'.tab n →
    (∀ i o, os[i]? = some o → n ∈ o.es.map (·.1) → p (k + i) = q (k + i)) → aget (foldS p k os σ).tab n = aget (foldS q k os σ').tab n
  | [], _, _, _, h, _ => h
  | o :: l, k, σ, σ', h, hp => by
    simp only [foldS]
    refine foldS_tab l (k + 1) _ _ ?_ fun i o' ho hd => by have := hp (i + 1) o' (by simpa using ho) hd; simpa [Nat.add_assoc, Nat.add_comm 1 i] using this
    by_cases hd : n ∈ o.es.map (·.1)
    · have := hp 0 o rfl hd
      simp only [Nat.add_zero] at this
      rw [this]
      split
      · exact get_aputs_in hd
      · exact h
    · have h1 : aget (if p k = true then applyO o σ else σ).tab n = aget σ.tab n := by
        split
        · exact get_aputs_not hd
        · rfl
      have h2 : aget (if q k = true then applyO o σ' else σ').tab n = aget σ'.tab n := by
        split
        · exact get_aputs_not hd
        · rfl
      rw [h1, h2, h]

theorem foldS_sv {p : Nat → Bool} : ∀ (os : List Outc) (k : Nat) (σ : St), (foldS p k os σ).sv = σ.sv
  | [], _, _ => rfl
  | o :: l, k, σ => by
    simp only [foldS]
    rw [foldS_sv l]
    split <;> rfl

theorem foldS_last_tmp {q : Nat → Bool} {t : Nat} {oj : Outc} (hd : oj.dst = some t) : ∀ (os : List Outc) (k m : Nat) (σ : St), os[m]? = some oj → q (k + m) = true →
    (∀ i o, os[i]? = some o → m < i → q (k + i) = true → o.dst ≠ some t) → aget (foldS q k os σ).tmps t = some oj.y
  | [], _, _, _, h, _, _ => by simp at h
  | o :: l, k, 0, σ, h, hq, hl => by
    simp only [List.getElem?_cons_zero, Option.some.injEq] at h
    subst h
    simp only [foldS]
    rw [if_pos (by simpa using hq)]
    have e1 : ∀ (l : List Outc) (k : Nat) (σ : St), foldS (fun _ => false) k l σ = σ := by
      intro l
      induction l with
      | nil => intro k σ; rfl
      | cons o l ih => intro k σ; simp [foldS, ih]
    have := foldS_tmp (p := q) (q := fun _ => false) (t := t) l (k + 1) (applyO o σ) (applyO o σ) rfl fun i o' ho hdo => by
      cases hq' : q (k + 1 + i) with
      | false => rfl
      | true => exact absurd hdo (hl (i + 1) o' (by simpa using ho) (by omega) (by rw [show k + (i + 1) = k + 1 + i by omega]; exact hq'))
    rw [this, e1]
    simp [applyO, applyA, get_put, hd]
  | o :: l, k, m + 1, σ, h, hq, hl => by
    simp only [foldS]
    exact foldS_last_tmp hd l (k + 1) m _ (by simpa using h) (by rw [show k + 1 + m = k + (m + 1) by omega]; exact hq)
      fun i o' ho hi hq' => hl (i + 1) o' (by simpa using ho) (by omega) (by rw [show k + (i + 1) = k + 1 + i by omega]; exact hq')

theorem foldS_last_tab {q : Nat → Bool} {t : Nat} {oj : Outc} (hd : t ∈ oj.es.map (·.1)) (T : Tab) : ∀ (os : List Outc) (k m : Nat) (σ : St), os[m]? = some oj → q (k + m) = true →
    (∀ i o, os[i]? = some o → m < i → q (k + i) = true → t ∉ o.es.map (·.1)) → aget (foldS q k os σ).tab t = aget (aputs T oj.es) t
  | [], _, _, _, h, _, _ => by simp at h
  | o :: l, k, 0, σ, h, hq, hl => by
    simp only [List.getElem?_cons_zero, Option.some.injEq] at h
    subst h
    simp only [foldS]
    rw [if_pos (by simpa using hq)]
    have e1 : ∀ (l : List Outc) (k : Nat) (σ : St), foldS (fun _ => false) k l σ = σ := by
      intro l
      induction l with
      | nil => intro k σ; rfl
      | cons o l ih => intro k σ; simp [foldS, ih]
    have := foldS_tab (p := q) (q := fun _ => false) (n := t) l (k + 1) (applyO o σ) (applyO o σ) rfl fun i o' ho hdo => by
      cases hq' : q (k + 1 + i) with
      | false => rfl
      | true => exact absurd hdo (hl (i + 1) o' (by simpa using ho) (by omega) (by rw [show k + (i + 1) = k + 1 + i by omega]; exact hq'))
    rw [this, e1]
    exact get_aputs_in hd
  | o :: l, k, m + 1, σ, h, hq, hl => by
    simp only [foldS]
    exact foldS_last_tab hd T l (k + 1) m _ (by simpa using h) (by rw [show k + 1 + m = k + (m + 1) by omega]; exact hq)
      fun i o' ho hi hq' => hl (i + 1) o' (by simpa using ho) (by omega) (by rw [show k + (i + 1) = k + 1 + i by omega]; exact hq')

/-- The outcomes of the walk. -/
theorem outsA_spec {P : Program} {E : Env} : ∀ (as : List AOper) (σ : St) (os : List Outc) (σ' : St) (k : Nat), outsA P E as σ = some (os, σ') → os.length = as.length ∧ foldS (fun _ => true) k os σ = σ' ∧
    ∀ j ao o, as[j]? = some ao → os[j]? = some o →
      outA P E ao (foldS (fun i => decide (i < k + j)) k os σ) = some (o.y, o.es) ∧ o.dst = ao.dst ∧ o.lk = lkA (foldS (fun i => decide (i < k + j)) k os σ) ao o.es
  | [], σ, os, σ', k, h => by
    simp only [outsA, Option.some.injEq, Prod.mk.injEq] at h
    obtain ⟨rfl, rfl⟩ := h
    exact ⟨rfl, rfl, fun j ao o h => by simp at h⟩
  | ao :: l, σ, os, σ', k, h => by
    simp only [outsA] at h
    split at h
    · rename_i y es h1
      split at h
      · rename_i os' σ2 h2
        simp only [Option.some.injEq, Prod.mk.injEq] at h
        obtain ⟨rfl, rfl⟩ := h
        obtain ⟨h3, h4, h5⟩ := outsA_spec l _ os' σ2 (k + 1) h2
        refine ⟨by simp [h3], by simp only [foldS, if_true]; exact h4, fun j ao' o hao ho => ?_⟩
        cases j with
        | zero =>
          simp only [List.getElem?_cons_zero, Option.some.injEq] at hao ho
          subst hao; subst ho
          have e1 : ∀ (l : List Outc) (m : Nat) (σ : St), k ≤ m → foldS (fun i => decide (i < k + 0)) m l σ = σ := by
            intro l
            induction l with
            | nil => intro m σ _; rfl
            | cons o l ih => intro m σ hm; simp only [foldS, ih (m + 1) _ (by omega)]; rw [if_neg (by simp; omega)]
          rw [e1 _ _ _ (Nat.le_refl _)]
          exact ⟨h1, rfl, rfl⟩
        | succ j =>
          simp only [List.getElem?_cons_succ] at hao ho
          have := h5 j ao' o hao ho
          simp only [foldS]
          rw [if_pos (by simp)]
          rw [show k + (j + 1) = k + 1 + j by omega]
          exact this
      · cases h
    · cases h

variable {P : Program} {E : Env} {w0 : Base} {w w' : World} {N0 : Nat → Prop} {g g' : Gh} {T T' : Tab} {r : Option Nat} {n nt : Nat} {mvs : List Nat} {svv : Array Value} {o : Oper} {a : Act} {σ σ' : St} {ops : Array Oper}
  {ao : AOper} {y : AV} {es : List (Nat × Entry)}

/-- The slots that an operation looks at. -/
def slotsA (ao : AOper) : List Nat := (match ao.guard with | some (t, _) => [t] | none => []) ++ (opsOf ao.op).filterMap fun | .tmp t => some t | _ => none

theorem outA_congr (hn : noSelB ao.op = true) (ht : ∀ t ∈ slotsA ao, aget σ'.tmps t = aget σ.tmps t) (hT : Agree (lkA σ ao es) σ.tab σ'.tab) (h : outA P E ao σ = some (y, es)) : outA P E ao σ' = some (y, es) := by
  have hw : wantA σ'.tmps ao.guard = wantA σ.tmps ao.guard := by
    cases hg : ao.guard with
    | none => rfl
    | some p => simp only [wantA, ht p.1 (by simp [slotsA, hg])]
  unfold outA at h ⊢
  rw [hw]
  split at h
  · rename_i hwt
    have hρ : ∀ x ∈ opsOf ao.op, evO σ.tmps x = evO σ'.tmps x := by
      intro x hx
      cases x with
      | tmp t => simp only [evO, ht t (by refine List.mem_append_right _ (List.mem_filterMap.2 ⟨.tmp t, hx, rfl⟩))]
      | _ => rfl
    rw [← eff_congr ao.op (noSel_of hn) hρ]
    refine effT_congr ?_ h
    simpa [lkA, hwt] using hT
  · exact h
  · cases h

theorem Rel.congr (h : Rel w0 N0 nt svv σ a w) (ht : ∀ t, aget σ'.tmps t = aget σ.tmps t) (hT : ∀ n, aget σ'.tab n = aget σ.tab n) (hsv : σ'.sv = σ.sv) : Rel w0 N0 nt svv σ' a w := by
  obtain ⟨g, hM, hS, hsz, hd, hS2⟩ := h
  have hl : ∀ n, live σ'.tab n ↔ live σ.tab n := fun n => by unfold live; rw [hT]
  have hav : avoid N0 g σ'.tab = avoid N0 g σ.tab := by
    funext b
    simp only [avoid, hl]
  have hK : Keeps N0 g σ.tab w g σ'.tab w := ⟨fun d v h => by rw [hav]; exact h, fun n h => by rw [hT]; exact h, fun _ _ => ⟨rfl, rfl, rfl⟩⟩
  refine ⟨g, ⟨hM.below, fun n e he => ?_, fun n m b hn hm => hM.inj n m b ((hl n).1 hn) ((hl m).1 hm), fun n b hn => hM.rng n b ((hl n).1 hn), hM.n0⟩, fun t x hx => ?_, hsz, hd, fun t x hx => by rw [hsv] at hx; exact hK.a (hS2 t x hx)⟩
  · rw [hT] at he
    exact (hM.ents n e he).mono hK he fun _ _ _ => rfl
  · rw [ht] at hx
    exact hK.a (hS t x hx)

theorem Rel.drew (h : Rel w0 N0 nt svv σ a w) : Rel w0 N0 nt svv σ a { w with drawn := w.drawn + 1 } := by
  obtain ⟨g, hM, hS, hsz, hd, hS2⟩ := h
  have hK : Keeps N0 g σ.tab w g σ.tab { w with drawn := w.drawn + 1 } := Keeps.of (Nat.le_refl _) (fun _ _ _ => rfl) (fun _ _ h => h) (fun _ h => h) fun _ _ => ⟨rfl, rfl, rfl⟩
  exact ⟨g, ⟨⟨hM.below.os, hM.below.tape, hM.below.output, hM.below.size, hM.below.block⟩, fun n e he => (hM.ents n e he).mono hK he fun _ _ _ => rfl, hM.inj, hM.rng, hM.n0⟩, fun t x hx => hK.a (hS t x hx), hsz, hd, fun t x hx => hK.a (hS2 t x hx)⟩

/-! ### The check of a region -/

def kindA : AOp → Nat
  | .mv _ | .pick .. | .build .. | .faddr .. | .field .. | .index .. | .extract .. | .mkfn .. | .nilchk _ | .bin .. | .eqagg .. | .pure _ | .bad | .iaddr _ (some _) _ _ => 0
  | .load .. | .len _ | .iaddr _ none _ _ | .view .. => 1
  | _ => 2

theorem kind_es {ρ : Operand → AV} {dst : Nat} {op : AOp} (hk : kindA op ≤ 1) (h : eff P E T ρ dst op = some (y, es)) : es = [] := by
  cases op <;> (try (simp [kindA] at hk; done))
  case iaddr s arr x i => cases arr <;> simp only [eff] at h <;> split at h <;> (try split at h) <;> (try split at h) <;> simp_all
  case load b s x =>
    simp only [eff] at h
    split at h <;> (try split at h) <;> (try split at h) <;> (try (cases h; done)) <;>
      (simp only [Option.map_eq_some_iff, Prod.mk.injEq] at h; obtain ⟨_, _, _, rfl⟩ := h; rfl)
  case view s x lo hi =>
    simp only [eff] at h
    repeat' split at h
    all_goals first
      | (simp only [Option.some.injEq, Prod.mk.injEq] at h; exact h.2.symm)
      | cases h
  case pure o =>
    simp only [eff] at h
    split at h
    · split at h
      · simp only [Option.some.injEq, Prod.mk.injEq] at h; exact h.2.symm
      · cases h
    · cases h
  all_goals (simp only [eff] at h)
  all_goals (try (split at h))
  all_goals (try (split at h))
  all_goals (try (cases h; done))
  all_goals (try (simp only [Option.map_eq_some_iff, Prod.mk.injEq] at h; obtain ⟨_, _, _, rfl⟩ := h; rfl))
  all_goals (try (simp only [Option.some.injEq, Prod.mk.injEq] at h; exact h.2.symm))
  all_goals (try (simp only [Option.map_eq_some_iff, Option.some.injEq, Prod.mk.injEq] at h; obtain ⟨_, _, _, h⟩ := h; exact h.symm))

theorem kind_looks {ρ : Operand → AV} {op : AOp} (hk : kindA op = 0) : looksN T ρ op = [] := by
  cases op <;> (try (simp [kindA] at hk; done)) <;> (try rfl)
  case iaddr s arr x i => cases arr <;> simp_all [kindA, looksN]

def calmPair (x y : AOper) : Bool := kindA x.op == 0 || kindA y.op == 0 || (decide (kindA x.op ≤ 1) && decide (kindA y.op ≤ 1))

def dstNot (d : Option Nat) (l : List Nat) : Bool :=
  match d with
  | some t => !l.contains t
  | none => true

def apartA (x y : AOper) : Bool := dstNot x.dst (slotsA y) && dstNot y.dst (slotsA x) && dstNot x.dst y.dst.toList

def befOf (bef : List (List Nat)) (j : Nat) : List Nat := bef.getD j []

/-- The edges lead back, and 'bef' tells no more than they do. -/
def befOk (ops : Array Oper) (bef : List (List Nat)) : Bool := (List.range ops.size).all fun j =>
  match ops[j]? with
  | some o => (o.after.toList.all fun e => !Region.binds .any e || decide (e.on < j)) &&
      (befOf bef j).all fun i => o.after.toList.any fun e => Region.binds .any e && (e.on == i || (befOf bef e.on).contains i)
  | none => true

def pairsOk (as : List AOper) (bef : List (List Nat)) (prs : List (Nat × Nat)) : Bool := (List.range as.length).all fun j => (List.range j).all fun i =>
  (befOf bef j).contains i || match as[i]?, as[j]? with
    | some x, some y => apartA x y && (calmPair x y || prs.contains (i, j))
    | _, _ => true

def disjN (l m : List Nat) : Bool := l.all fun n => !m.contains n

def esN (os : List Outc) (i : Nat) : List Nat := match os[i]? with | some o => o.es.map (·.1) | none => []
def lkN (os : List Outc) (i : Nat) : List Nat := match os[i]? with | some o => o.lk | none => []

def pairOk (os : List Outc) (p : Nat × Nat) : Bool := disjN (esN os p.1) (lkN os p.2) && disjN (esN os p.2) (lkN os p.1)

end Go.AM
