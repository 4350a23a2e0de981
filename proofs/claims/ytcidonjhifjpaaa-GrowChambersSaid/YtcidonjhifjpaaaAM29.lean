/- The abstract machine: runs that are computed. -/
import Derived.Test.YtcidonjhifjpaaaAM28
namespace Go.AM

/-- A bare operation. -/
abbrev oB (op : Op) (t : TypeId) : Oper := { dst := none, op := op, type := t, pos := "", after := #[], guard := none }

def regionF (P : Program) (E : Env) (ops : List AOper) (prs : List (Nat × Nat)) (σ : St) : Option St :=
  match prs with
  | [] => runA P E ops σ
  | _ :: _ => match outsA P E ops σ with
    | some (os, σ') => if prs.all (pairOk os) then some σ' else none
    | none => none

def roundsF (fa fb : St → Option (Exit × St)) (ps : List Nat) (td : Option Tidy) : List (List Value) → St → Option (Exit × St)
  | [], σ => some (.normal, σ)
  | x :: xs, σ => if x.length = ps.length then match fa ⟨setPs ps x σ.tmps, σ.tab, σ.tmps⟩ with
      | some (.normal, σ1) => match fb σ1 with
        | some (.normal, σ2) => match tidyO td ⟨σ2.sv, σ2.tab, []⟩ with
          | some σ3 => roundsF fa fb ps td xs σ3
          | none => none
        | some (.ret, σ2) => some (.ret, ⟨σ2.sv, σ2.tab, []⟩)
        | some (.exit id, σ2) => some (.exit id, ⟨σ2.sv, σ2.tab, []⟩)
        | _ => none
      | _ => none
    else none

def runF (P : Program) (E : Env) : Nat → ACode → St → Option (Exit × St)
  | 0, _, _ => none
  | n + 1, c, σ => match c with
    | .skip => some (.normal, σ)
    | .ret => some (.ret, σ)
    | .exit id => some (.exit id, σ)
    | .region ops prs td => match regionF P E ops prs σ with
      | some σ1 => match tidyO td σ1 with
        | some σ2 => some (.normal, σ2)
        | none => none
      | none => none
    | .seq a b => match runF P E n a σ with
      | some (.normal, σ1) => runF P E n b σ1
      | some (.ret, σ1) => some (.ret, σ1)
      | some (.exit id, σ1) => some (.exit id, σ1)
      | _ => none
    | .cond c a b => match boolA (evO σ.tmps c) with
      | some true => runF P E n a σ
      | some false => runF P E n b σ
      | none => none
    | .block id b => match runF P E n b σ with
      | some (.normal, σ1) => some (.normal, σ1)
      | some (.ret, σ1) => some (.ret, σ1)
      | some (.exit id', σ1) => if id' = id then some (.normal, σ1) else some (.exit id', σ1)
      | _ => none
    | .loop td b => match tidyO td σ with
      | some σ0 => match runF P E n b σ0 with
        | some (.normal, σ1) => runF P E n (.loop td b) σ1
        | some (.ret, σ1) => some (.ret, σ1)
        | some (.exit id, σ1) => some (.exit id, σ1)
        | _ => none
      | none => none
    | .rangeF g ps td a b => match seqOf E (evO σ.tmps g) σ.sv with
      | some xs => roundsF (runF P E n a) (runF P E n b) ps td xs σ
      | none => none

variable {P : Program} {E : Env} {Q : Exit → St → Prop}

theorem wpA_mono : ∀ (c : ACode) {Q Q' : Exit → St → Prop} {σ : St}, (∀ e σ, Q e σ → Q' e σ) → wpA P E c Q σ → wpA P E c Q' σ := by
  have run : ∀ (l : List AOper) {K K' : St → Prop} {σ : St}, (∀ σ, K σ → K' σ) → runW P E l K σ → runW P E l K' σ := by
    intro l
    induction l with
    | nil => intro K K' σ h hk; exact h σ hk
    | cons ao l ih =>
      intro K K' σ h hk
      rcases condW_spec hk with ⟨h1, h2⟩ | ⟨h1, h2⟩
      · obtain ⟨y, es, h3, h4⟩ := outW_spec h2
        simp only [runW, h1, h3, condW, outW]
        exact ⟨fun _ => ih h h4, nofun⟩
      · simp only [runW, h1, condW]
        exact ⟨nofun, fun _ => ih h h2⟩
  have outs : ∀ (l : List AOper) {K K' : List Outc → St → Prop} {acc : List Outc} {σ : St}, (∀ os σ, K os σ → K' os σ) → outsW P E l K acc σ → outsW P E l K' acc σ := by
    intro l
    induction l with
    | nil => intro K K' acc σ h hk; exact h _ σ hk
    | cons ao l ih =>
      intro K K' acc σ h hk
      rcases condW_spec hk with ⟨h1, h2⟩ | ⟨h1, h2⟩
      · obtain ⟨y, es, h3, h4⟩ := outW_spec h2
        simp only [outsW, h1, h3, condW, outW]
        exact ⟨fun _ => ih h h4, nofun⟩
      · simp only [outsW, h1, condW]
        exact ⟨nofun, fun _ => ih h h2⟩
  have some_ : ∀ {o : Option St} {K K' : St → Prop}, (∀ σ, K σ → K' σ) → someA o K → someA o K' := by
    intro o K K' h hk
    obtain ⟨σ, h1, h2⟩ := someA_spec hk
    subst h1
    exact h σ h2
  have thn : ∀ {K K' : St → Prop} {Q Q' : Exit → St → Prop} {e : Exit} {σ : St}, (∀ σ, K σ → K' σ) → (∀ e σ, Q e σ → Q' e σ) → thenA K Q e σ → thenA K' Q' e σ := by
    intro K K' Q Q' e σ h1 h2 h
    cases e <;> first | exact h1 _ h | exact h2 _ _ h | exact h
  intro c
  induction c with
  | skip => intro Q Q' σ h hw; exact h _ _ hw
  | ret => intro Q Q' σ h hw; exact h _ _ hw
  | exit id => intro Q Q' σ h hw; exact h _ _ hw
  | region ops prs td =>
    intro Q Q' σ h hw
    simp only [wpA] at hw ⊢
    unfold regionW at hw ⊢
    cases prs with
    | nil => exact run ops (fun σ hs => some_ (fun σ hs => h _ σ hs) hs) hw
    | cons p r => exact outs ops (fun os σ hs => ⟨hs.1, some_ (fun σ hs => h _ σ hs) hs.2⟩) hw
  | seq a b iha ihb => intro Q Q' σ h hw; exact iha (fun e σ hs => thn (fun σ hs => ihb h hs) h hs) hw
  | cond c a b iha ihb =>
    intro Q Q' σ h hw
    rcases condW_spec hw with ⟨h1, h2⟩ | ⟨h1, h2⟩
    · simp only [wpA, h1, condW]; exact ⟨fun _ => iha h h2, nofun⟩
    · simp only [wpA, h1, condW]; exact ⟨nofun, fun _ => ihb h h2⟩
  | block id b ih =>
    intro Q Q' σ h hw
    refine ih (fun e σ hs => ?_) hw
    cases e with
    | normal => exact h _ _ hs
    | ret => exact h _ _ hs
    | exit id' =>
      simp only [blockA] at hs ⊢
      split at hs
      · rename_i he; rw [if_pos he]; exact h _ _ hs
      · rename_i he; rw [if_neg he]; exact h _ _ hs
    | _ => exact hs
  | loop td b ih =>
    intro Q Q' σ h hw
    obtain ⟨k, hk⟩ := hw
    refine ⟨k, ?_⟩
    have key : ∀ k σ, loopN (wpA P E b) td Q k σ → loopN (wpA P E b) td Q' k σ := by
      intro k
      induction k with
      | zero => intro σ h; exact h
      | succ k ihk => intro σ hl; exact some_ (fun σ hs => ih (fun e σ hs => thn (fun σ hs => ihk σ hs) h hs) hs) hl
    exact key k σ hk
  | rangeF g ps td a b iha ihb =>
    intro Q Q' σ h hw
    simp only [wpA] at hw ⊢
    unfold someL at hw ⊢
    split at hw
    · rename_i xs hxs
      have key : ∀ xs σ, roundsA (wpA P E a) (wpA P E b) ps td Q xs σ → roundsA (wpA P E a) (wpA P E b) ps td Q' xs σ := by
        intro xs
        induction xs with
        | nil => intro σ hs; exact h _ _ hs
        | cons x xs ihx =>
          intro σ hs
          refine ⟨hs.1, iha (fun e σ hs => thn (fun σ hs => ihb (fun e σ hs => ?_) hs) (fun _ _ h => h) hs) hs.2⟩
          cases e with
          | normal => exact some_ (fun σ hs => ihx σ hs) hs
          | ret => exact h _ _ hs
          | exit id => exact h _ _ hs
          | _ => exact hs
      exact key xs σ hw
    · exact hw.elim

theorem runW_of {K : St → Prop} : ∀ (l : List AOper) (σ σ' : St), runA P E l σ = some σ' → K σ' → runW P E l K σ
  | [], σ, σ', h, hk => by simp only [runA, Option.some.injEq] at h; subst h; exact hk
  | ao :: l, σ, σ', h, hk => by
    simp only [runA, stepA, outA] at h
    split at h
    · rename_i σ1 h1
      split at h1
      · rename_i y es h2
        simp only [Option.some.injEq] at h1
        subst h1
        split at h2
        · rename_i h3; simp only [runW, h3, h2, condW, outW]; exact ⟨fun _ => runW_of l _ _ h hk, nofun⟩
        · rename_i h3
          simp only [Option.some.injEq, Prod.mk.injEq] at h2
          obtain ⟨rfl, rfl⟩ := h2
          simp only [runW, h3, condW]; exact ⟨nofun, fun _ => runW_of l _ _ h hk⟩
        · cases h2
      · cases h1
    · cases h

theorem outsW_of {K : List Outc → St → Prop} : ∀ (l : List AOper) (acc os : List Outc) (σ σ' : St), outsA P E l σ = some (os, σ') → K (acc.reverse ++ os) σ' → outsW P E l K acc σ
  | [], acc, os, σ, σ', h, hk => by simp only [outsA, Option.some.injEq, Prod.mk.injEq] at h; obtain ⟨rfl, rfl⟩ := h; simpa [outsW] using hk
  | ao :: l, acc, os, σ, σ', h, hk => by
    simp only [outsA, outA] at h
    split at h
    · rename_i y es h2
      split at h
      · rename_i os' σ1 h1
        simp only [Option.some.injEq, Prod.mk.injEq] at h
        obtain ⟨rfl, rfl⟩ := h
        split at h2
        · rename_i h3; simp only [outsW, h3, h2, condW, outW]; exact ⟨fun _ => outsW_of l _ os' _ _ h1 (by simpa using hk), nofun⟩
        · rename_i h3
          simp only [Option.some.injEq, Prod.mk.injEq] at h2
          obtain ⟨rfl, rfl⟩ := h2
          simp only [outsW, h3, condW]; exact ⟨nofun, fun _ => outsW_of l _ os' _ _ h1 (by simpa using hk)⟩
        · cases h2
      · cases h
    · cases h

theorem regionW_of {K : St → Prop} {ops : List AOper} {prs : List (Nat × Nat)} {σ σ' : St} (h : regionF P E ops prs σ = some σ') (hk : K σ') : regionW P E ops prs K σ := by
  unfold regionF at h
  unfold regionW
  split at h
  · exact runW_of _ _ _ h hk
  · split at h
    · rename_i os σ1 h1
      split at h
      · rename_i h2
        simp only [Option.some.injEq] at h
        subst h
        exact outsW_of _ [] os _ _ h1 ⟨by simpa using h2, hk⟩
      · cases h
    · cases h

theorem roundsA_of {fa fb : St → Option (Exit × St)} {a b : ACode} {ps : List Nat} {td : Option Tidy} (ha : ∀ σ e σ', fa σ = some (e, σ') → wpA P E a (fun e1 σ1 => e1 = e ∧ σ1 = σ') σ)
    (hb : ∀ σ e σ', fb σ = some (e, σ') → wpA P E b (fun e1 σ1 => e1 = e ∧ σ1 = σ') σ) : ∀ (xs : List (List Value)) (σ : St) (e : Exit) (σ' : St), roundsF fa fb ps td xs σ = some (e, σ') → Q e σ' → roundsA (wpA P E a) (wpA P E b) ps td Q xs σ
  | [], σ, e, σ', h, hq => by
    simp only [roundsF, Option.some.injEq, Prod.mk.injEq] at h
    obtain ⟨rfl, rfl⟩ := h
    exact hq
  | x :: xs, σ, e, σ', h, hq => by
    simp only [roundsF] at h
    split at h
    · rename_i hlen
      split at h
      · rename_i σ1 h1
        refine ⟨hlen, wpA_mono a (fun e2 s2 hs => ?_) (ha _ _ _ h1)⟩
        obtain ⟨rfl, rfl⟩ := hs
        split at h
        · rename_i σ2 h2
          split at h
          · rename_i σ3 h3
            refine wpA_mono b (fun e2 s2 hs => ?_) (hb _ _ _ h2)
            obtain ⟨rfl, rfl⟩ := hs
            simp only [roundQ, h3, someA]
            exact roundsA_of ha hb xs σ3 e σ' h hq
          · cases h
        · rename_i σ2 h2
          simp only [Option.some.injEq, Prod.mk.injEq] at h
          obtain ⟨rfl, rfl⟩ := h
          refine wpA_mono b (fun e2 s2 hs => ?_) (hb _ _ _ h2)
          obtain ⟨rfl, rfl⟩ := hs
          exact hq
        · rename_i id σ2 h2
          simp only [Option.some.injEq, Prod.mk.injEq] at h
          obtain ⟨rfl, rfl⟩ := h
          refine wpA_mono b (fun e2 s2 hs => ?_) (hb _ _ _ h2)
          obtain ⟨rfl, rfl⟩ := hs
          exact hq
        · cases h
      · cases h
    · cases h

/-- A run that is computed. -/
theorem runF_ok : ∀ (n : Nat) (c : ACode) (Q : Exit → St → Prop) (σ : St) (e : Exit) (σ' : St), runF P E n c σ = some (e, σ') → Q e σ' → wpA P E c Q σ := by
  intro n
  induction n with
  | zero => intro c Q σ e σ' h; simp [runF] at h
  | succ n ih =>
    intro c Q σ e σ' h hq
    cases c with
    | skip => simp only [runF, Option.some.injEq, Prod.mk.injEq] at h; obtain ⟨rfl, rfl⟩ := h; exact hq
    | ret => simp only [runF, Option.some.injEq, Prod.mk.injEq] at h; obtain ⟨rfl, rfl⟩ := h; exact hq
    | exit id => simp only [runF, Option.some.injEq, Prod.mk.injEq] at h; obtain ⟨rfl, rfl⟩ := h; exact hq
    | region ops prs td =>
      simp only [runF] at h
      split at h
      · rename_i σ1 h1
        split at h
        · rename_i σ2 h2
          simp only [Option.some.injEq, Prod.mk.injEq] at h
          obtain ⟨rfl, rfl⟩ := h
          exact regionW_of h1 (by simp only [h2, someA]; exact hq)
        · cases h
      · cases h
    | seq a b =>
      simp only [runF] at h
      split at h
      · rename_i σ1 h1; exact ih a _ σ _ σ1 h1 (ih b Q σ1 e σ' h hq)
      · rename_i σ1 h1; simp only [Option.some.injEq, Prod.mk.injEq] at h; obtain ⟨rfl, rfl⟩ := h; exact ih a _ σ _ σ1 h1 hq
      · rename_i id σ1 h1; simp only [Option.some.injEq, Prod.mk.injEq] at h; obtain ⟨rfl, rfl⟩ := h; exact ih a _ σ _ σ1 h1 hq
      · cases h
    | cond c a b =>
      simp only [runF] at h
      split at h
      · rename_i hb; simp only [wpA, hb, condW]; exact ⟨fun _ => ih a Q σ e σ' h hq, nofun⟩
      · rename_i hb; simp only [wpA, hb, condW]; exact ⟨nofun, fun _ => ih b Q σ e σ' h hq⟩
      · cases h
    | block id b =>
      simp only [runF] at h
      split at h
      · rename_i σ1 h1; simp only [Option.some.injEq, Prod.mk.injEq] at h; obtain ⟨rfl, rfl⟩ := h; exact ih b _ σ _ σ1 h1 hq
      · rename_i σ1 h1; simp only [Option.some.injEq, Prod.mk.injEq] at h; obtain ⟨rfl, rfl⟩ := h; exact ih b _ σ _ σ1 h1 hq
      · rename_i id' σ1 h1
        split at h
        · rename_i hid
          simp only [Option.some.injEq, Prod.mk.injEq] at h; obtain ⟨rfl, rfl⟩ := h
          exact ih b _ σ _ σ1 h1 (by simp only [blockA, hid, if_true]; exact hq)
        · rename_i hid
          simp only [Option.some.injEq, Prod.mk.injEq] at h; obtain ⟨rfl, rfl⟩ := h
          exact ih b _ σ _ σ1 h1 (by simp only [blockA, hid, if_false]; exact hq)
      · cases h
    | loop td b =>
      simp only [runF] at h
      split at h
      · rename_i σ0 h0
        split at h
        · rename_i σ1 h1
          obtain ⟨k, hk⟩ := ih (.loop td b) Q σ1 e σ' h hq
          exact ⟨k + 1, by simp only [loopN, h0, someA]; exact ih b _ σ0 _ σ1 h1 hk⟩
        · rename_i σ1 h1
          simp only [Option.some.injEq, Prod.mk.injEq] at h; obtain ⟨rfl, rfl⟩ := h
          exact ⟨1, by simp only [loopN, h0, someA]; exact ih b _ σ0 _ σ1 h1 hq⟩
        · rename_i id σ1 h1
          simp only [Option.some.injEq, Prod.mk.injEq] at h; obtain ⟨rfl, rfl⟩ := h
          exact ⟨1, by simp only [loopN, h0, someA]; exact ih b _ σ0 _ σ1 h1 hq⟩
        · cases h
      · cases h
    | rangeF g ps td a b =>
      simp only [runF] at h
      split at h
      · rename_i xs hxs
        simp only [wpA, hxs, someL]
        exact roundsA_of (fun σ e σ' h => ih a _ σ e σ' h ⟨rfl, rfl⟩) (fun σ e σ' h => ih b _ σ e σ' h ⟨rfl, rfl⟩) xs σ e σ' h hq
      · cases h

/-- A compiled function in a table. -/
structure FnT where
  nt : Nat
  tr : List (Nat × Tidy)
  tl : List (Nat × Tidy)
  ac : ACode
  rs : List AResV

def callF (P : Program) (E : Env) (fuel : Nat) (t : FnT) (ds : List DV) : Option (List RV) :=
  if ds.length ≤ t.nt then match runF P E fuel t.ac (initS ds) with
    | some (.ret, σ) => resOut t.rs σ
    | some (.normal, σ) => resOut t.rs σ
    | _ => none
  else none

/-- What calls come to, computed out of a table of functions. -/
def EF (P : Program) (fuel : Nat) (tbl : List (Nat × FnT)) (sq : Env → Nat → List DC → Option (List (List Value))) : Nat → Env
  | 0 => Env.nil
  | k + 1 => ⟨fun f ds => match aget tbl f with
      | some t => callF P (EF P fuel tbl sq k) fuel t ds
      | none => none, fun f caps => sq (EF P fuel tbl sq k) f caps⟩

def TblOk (P : Program) : List (Nat × FnT) → Prop
  | [] => True
  | (f, t) :: r => FnIs P f t.nt t.tr t.tl t.ac t.rs ∧ TblOk P r

theorem TblOk.get {P : Program} : ∀ {tbl : List (Nat × FnT)}, TblOk P tbl → ∀ {f : Nat} {t : FnT}, aget tbl f = some t → FnIs P f t.nt t.tr t.tl t.ac t.rs
  | [], _, f, t, h => by simp [aget] at h
  | (g, u) :: r, hT, f, t, h => by
    simp only [aget] at h
    split at h
    · rename_i hg; subst hg; simp only [Option.some.injEq] at h; subst h; exact hT.1
    · exact TblOk.get hT.2 h

theorem callF_ok (hm : P.follows .mixedOrders = true) (hE : EnvOk P E) {f : Nat} {t : FnT} (ht : FnIs P f t.nt t.tr t.tl t.ac t.rs) {fuel : Nat} {ds : List DV} {res : List RV} (h : callF P E fuel t ds = some res) : Contract P f ds res ∧ Bodied P f := by
  unfold callF at h
  split at h
  · rename_i hn
    split at h
    · rename_i σ h1; exact ht.contract hm hE hn (runF_ok _ _ _ _ _ _ h1 ⟨.inl rfl, h⟩)
    · rename_i σ h1; exact ht.contract hm hE hn (runF_ok _ _ _ _ _ _ h1 ⟨.inr rfl, h⟩)
    · cases h
  · cases h

theorem EF_ok (hm : P.follows .mixedOrders = true) {fuel : Nat} {tbl : List (Nat × FnT)} {sq : Env → Nat → List DC → Option (List (List Value))} (hT : TblOk P tbl)
    (hsq : ∀ E, EnvOk P E → ∀ f caps xs, sq E f caps = some xs → IterOk P f caps xs ∧ Bodied P f) : ∀ k, EnvOk P (EF P fuel tbl sq k)
  | 0 => EnvOk.nil
  | k + 1 => by
    refine ⟨fun f ds res h => ?_, fun f caps xs h => hsq _ (EF_ok hm hT hsq k) f caps xs h⟩
    simp only [EF] at h
    split at h
    · rename_i t ht; exact callF_ok hm (EF_ok hm hT hsq k) (hT.get ht) h
    · cases h

end Go.AM
