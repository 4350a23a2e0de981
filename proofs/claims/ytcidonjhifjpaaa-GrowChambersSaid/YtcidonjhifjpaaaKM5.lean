/- Runs in continuation form: code. -/
import Derived.Test.YtcidonjhifjpaaaKM4
namespace Go.AM
variable {α β : Type} {P : Program}

/-- More rounds than any loop of a program can have: a number that nothing computes. -/
noncomputable def fuel : Nat := Classical.choose (⟨18446744073709551616, Nat.le_refl _⟩ : ∃ n : Nat, 18446744073709551616 ≤ n)
theorem fuel_ge : 18446744073709551616 ≤ fuel := Classical.choose_spec (⟨18446744073709551616, Nat.le_refl _⟩ : ∃ n : Nat, 18446744073709551616 ≤ n)

def setB (σ : St) (t : Nat) (b : Bool) : St := ⟨aput σ.tmps t (.val false [.d (.v (.bool b))]), σ.tab, σ.sv⟩

/-- Is an operation wanted? Behind the answer it is known. -/
def gsK (σ : St) (g : Option (Nat × Bool)) (A B : St → Option α) : Option α :=
  match g with
  | none => A σ
  | some (t, b) => match aget σ.tmps t with
    | some (.val false [.d (.v (.bool x))]) => cK x ((match b with | true => A | false => B) (setB σ t true)) ((match b with | true => B | false => A) (setB σ t false))
    | some (.val false [.und]) => B σ
    | _ => none

def runsK (P : Program) (E : EnvK) (sh : List (Nat × List Sh)) : List AOper → (St → Option α) → St → Option α
  | [], K, σ => K σ
  | ao :: l, K, σ => gsK σ ao.guard
      (fun σ => effK P E σ.tab (evO σ.tmps) (ao.dst.getD 9999) ((aget sh (ao.dst.getD 9999)).getD []) ao.op fun y es => runsK P E sh l K (applyA σ ao.dst y es))
      (fun σ => runsK P E sh l K (applyA σ ao.dst (.val false [.und]) []))

def outsK (P : Program) (E : EnvK) (sh : List (Nat × List Sh)) : List AOper → (List Outc → St → Option α) → List Outc → St → Option α
  | [], K, acc, σ => K acc.reverse σ
  | ao :: l, K, acc, σ => gsK σ ao.guard
      (fun σ => effK P E σ.tab (evO σ.tmps) (ao.dst.getD 9999) ((aget sh (ao.dst.getD 9999)).getD []) ao.op fun y es => outsK P E sh l K (⟨ao.dst, y, es, lkA σ ao es⟩ :: acc) (applyA σ ao.dst y es))
      (fun σ => outsK P E sh l K (⟨ao.dst, .val false [.und], [], lkA σ ao []⟩ :: acc) (applyA σ ao.dst (.val false [.und]) []))

theorem aput_same {β : Type} : ∀ {l : List (Nat × β)} {n : Nat} {x : β}, aget l n = some x → aput l n x = l
  | [], n, x, h => by cases h
  | (k, y) :: r, n, x, h => by
    simp only [aget] at h
    simp only [aput]
    split at h
    · rename_i hk; simp only [Option.some.injEq] at h; subst h; subst hk; rw [if_pos rfl]
    · rename_i hk; rw [if_neg hk, aput_same h]

theorem gsK_some {σ : St} {g : Option (Nat × Bool)} {A B : St → Option α} {a : α} (h : gsK σ g A B = some a) : (wantA σ.tmps g = some true ∧ A σ = some a) ∨ (wantA σ.tmps g = some false ∧ B σ = some a) := by
  unfold gsK at h
  split at h
  · exact .inl ⟨rfl, h⟩
  · rename_i t b
    split at h
    · rename_i x hx
      have hs : ∀ b', x = b' → setB σ t b' = σ := fun b' hb => by subst hb; simp only [setB, aput_same hx]
      cases x with
      | true =>
        simp only [cK, hs true rfl] at h
        cases b with
        | true => exact .inl ⟨by simp [wantA, hx], h⟩
        | false => exact .inr ⟨by simp [wantA, hx], h⟩
      | false =>
        simp only [cK, hs false rfl] at h
        cases b with
        | true => exact .inr ⟨by simp [wantA, hx], h⟩
        | false => exact .inl ⟨by simp [wantA, hx], h⟩
    · rename_i hx; exact .inr ⟨by simp [wantA, hx], h⟩
    · cases h

theorem gsK_bind {σ : St} {g : Option (Nat × Bool)} {A B : St → Option α} {gg : α → Option β} : (gsK σ g A B).bind gg = gsK σ g (fun σ => (A σ).bind gg) (fun σ => (B σ).bind gg) := by
  unfold gsK
  split
  · rfl
  · split
    · rename_i t b _ x hx
      rw [cK_bind]
      cases b <;> rfl
    · rfl
    · rfl

def regionK (P : Program) (E : EnvK) (sh : List (Nat × List Sh)) (ops : List AOper) (prs : List (Nat × Nat)) (K : St → Option α) (σ : St) : Option α :=
  match prs with
  | [] => runsK P E sh ops K σ
  | _ :: _ => outsK P E sh ops (fun os σ' => if prs.all (pairOk os) then K σ' else none) [] σ

def thenK (K : St → Option α) (Q : Exit → St → Option α) : Exit → St → Option α
  | .normal, σ => K σ
  | .exit id, σ => Q (.exit id) σ
  | .ret, σ => Q .ret σ
  | _, _ => none

def blockK (id : Nat) (Q : Exit → St → Option α) : Exit → St → Option α
  | .normal, σ => Q .normal σ
  | .exit id', σ => if id' = id then Q .normal σ else Q (.exit id') σ
  | .ret, σ => Q .ret σ
  | _, _ => none

def tidyK (td : Option Tidy) (σ : St) (K : St → Option α) : Option α := match tidyO td σ with | some σ' => K σ' | none => none

def loopK (f : (Exit → St → Option α) → St → Option α) (td : Option Tidy) (Q : Exit → St → Option α) : Nat → St → Option α
  | 0, _ => none
  | k + 1, σ => tidyK td σ (f (thenK (loopK f td Q k) Q))

def roundK (td : Option Tidy) (K : St → Option α) (Q : Exit → St → Option α) : Exit → St → Option α
  | .normal, σ => tidyK td ⟨σ.sv, σ.tab, []⟩ K
  | .ret, σ => Q .ret ⟨σ.sv, σ.tab, []⟩
  | .exit id, σ => Q (.exit id) ⟨σ.sv, σ.tab, []⟩
  | _, _ => none

def roundsK (fa fb : (Exit → St → Option α) → St → Option α) (ps : List Nat) (td : Option Tidy) (Q : Exit → St → Option α) : List (List Value) → St → Option α
  | [], σ => Q .normal σ
  | x :: xs, σ => if x.length = ps.length then fa (thenK (fb (roundK td (roundsK fa fb ps td Q xs) Q)) (fun _ _ => none)) ⟨setPs ps x σ.tmps, σ.tab, σ.tmps⟩ else none

def listK (o : Option (List (List Value))) (K : List (List Value) → Option α) : Option α := match o with | some xs => K xs | none => none

def boolK (o : Option Bool) (x y : Option α) : Option α := match o with | some b => cK b x y | none => none

noncomputable def runK (P : Program) (E : EnvK) (sh : List (Nat × List Sh)) : ACode → (Exit → St → Option α) → St → Option α
  | .skip, K, σ => K .normal σ
  | .ret, K, σ => K .ret σ
  | .exit id, K, σ => K (.exit id) σ
  | .region ops prs td, K, σ => regionK P E sh ops prs (fun σ' => tidyK td σ' (K .normal)) σ
  | .seq a b, K, σ => runK P E sh a (thenK (runK P E sh b K) K) σ
  | .cond c a b, K, σ => boolK (boolA (evO σ.tmps c)) (runK P E sh a K σ) (runK P E sh b K σ)
  | .block id b, K, σ => runK P E sh b (blockK id K) σ
  | .loop td b, K, σ => loopK (runK P E sh b) td K fuel σ
  | .rangeF g ps td a b, K, σ => listK (seqOf E.env (evO σ.tmps g) σ.sv) fun xs => roundsK (runK P E sh a) (runK P E sh b) ps td K xs σ

/-! ### It is a run -/

variable {E : EnvK} {sh : List (Nat × List Sh)}

theorem runsK_some (hE : E.Nat') {K : St → Option α} {a : α} : ∀ (l : List AOper) (σ : St), runsK P E sh l K σ = some a → runW P E.env l (fun σ' => K σ' = some a) σ
  | [], σ, h => h
  | ao :: l, σ, h => by
    simp only [runsK] at h
    rcases gsK_some h with ⟨hb, h⟩ | ⟨hb, h⟩
    · obtain ⟨y, es, h1, h2⟩ := effK_some hE h
      simp only [runW, hb, condW, h1, outW]
      exact ⟨fun _ => runsK_some hE l _ h2, nofun⟩
    · simp only [runW, hb, condW]
      exact ⟨nofun, fun _ => runsK_some hE l _ h⟩

theorem outsK_some (hE : E.Nat') {K : List Outc → St → Option α} {a : α} : ∀ (l : List AOper) (acc : List Outc) (σ : St), outsK P E sh l K acc σ = some a → outsW P E.env l (fun os σ' => K os σ' = some a) acc σ
  | [], acc, σ, h => h
  | ao :: l, acc, σ, h => by
    simp only [outsK] at h
    rcases gsK_some h with ⟨hb, h⟩ | ⟨hb, h⟩
    · obtain ⟨y, es, h1, h2⟩ := effK_some hE h
      simp only [outsW, hb, condW, h1, outW]
      exact ⟨fun _ => outsK_some hE l _ _ h2, nofun⟩
    · simp only [outsW, hb, condW]
      exact ⟨nofun, fun _ => outsK_some hE l _ _ h⟩

theorem outsW_mono {P : Program} {E : Env} : ∀ (l : List AOper) {K K' : List Outc → St → Prop} {acc : List Outc} {σ : St}, (∀ os σ, K os σ → K' os σ) → outsW P E l K acc σ → outsW P E l K' acc σ := by
  intro l
  induction l with
  | nil => intro K K' acc σ h hk; exact h _ σ hk
  | cons ao l ih =>
    intro K K' acc σ h hk
    rcases condW_spec hk with ⟨h1, h2⟩ | ⟨h1, h2⟩
    · obtain ⟨y, es, h3, h4⟩ := outW_spec h2
      simp only [outsW, h1, h3, condW, outW]
      exact ⟨fun _ => ih h h4, nofun⟩
    · simp only [outsW, h1, condW]
      exact ⟨nofun, fun _ => ih h h2⟩

theorem runW_mono {P : Program} {E : Env} : ∀ (l : List AOper) {K K' : St → Prop} {σ : St}, (∀ σ, K σ → K' σ) → runW P E l K σ → runW P E l K' σ := by
  intro l
  induction l with
  | nil => intro K K' σ h hk; exact h σ hk
  | cons ao l ih =>
    intro K K' σ h hk
    rcases condW_spec hk with ⟨h1, h2⟩ | ⟨h1, h2⟩
    · obtain ⟨y, es, h3, h4⟩ := outW_spec h2
      simp only [runW, h1, h3, condW, outW]
      exact ⟨fun _ => ih h h4, nofun⟩
    · simp only [runW, h1, condW]
      exact ⟨nofun, fun _ => ih h h2⟩

theorem tidyK_some {td : Option Tidy} {σ : St} {K : St → Option α} {a : α} (h : tidyK td σ K = some a) : someA (tidyO td σ) fun σ' => K σ' = some a := by
  unfold tidyK at h
  split at h
  · rename_i σ' hs; rw [hs]; exact h
  · cases h

theorem regionK_some (hE : E.Nat') {ops : List AOper} {prs : List (Nat × Nat)} {K : St → Option α} {σ : St} {a : α} (h : regionK P E sh ops prs K σ = some a) : regionW P E.env ops prs (fun σ' => K σ' = some a) σ := by
  unfold regionK at h
  unfold regionW
  cases prs with
  | nil => exact runsK_some hE ops σ h
  | cons p r =>
    refine outsW_mono ops (fun os σ' h => ?_) (outsK_some hE ops [] σ h)
    split at h
    · rename_i hp; exact ⟨hp, h⟩
    · cases h

theorem thenK_some {K : St → Option α} {Q : Exit → St → Option α} {a : α} {e : Exit} {σ : St} (h : thenK K Q e σ = some a) : thenA (fun σ => K σ = some a) (fun e σ => Q e σ = some a) e σ := by
  cases e <;> first | exact h | cases h

theorem runK_some (hE : E.Nat') : ∀ (c : ACode) {K : Exit → St → Option α} {σ : St} {a : α}, runK P E sh c K σ = some a → wpA P E.env c (fun e σ' => K e σ' = some a) σ := by
  intro c
  induction c with
  | skip => intro K σ a h; exact h
  | ret => intro K σ a h; exact h
  | exit id => intro K σ a h; exact h
  | region ops prs td =>
    intro K σ a h
    have := regionK_some hE h
    simp only [wpA]
    unfold regionW at this ⊢
    cases prs with
    | nil => exact runW_mono ops (fun σ hs => tidyK_some hs) this
    | cons p r => exact outsW_mono ops (fun os σ hs => ⟨hs.1, tidyK_some hs.2⟩) this
  | seq x y ihx ihy =>
    intro K σ a h
    refine wpA_mono x (fun e σ hs => ?_) (ihx h)
    have := thenK_some hs
    cases e with
    | normal => exact ihy this
    | ret => exact this
    | exit id => exact this
    | _ => exact this
  | cond c x y ihx ihy =>
    intro K σ a h
    simp only [runK, boolK] at h
    simp only [wpA]
    split at h
    · rename_i b hb
      rw [hb]
      cases b with
      | true => exact ⟨fun _ => ihx h, nofun⟩
      | false => exact ⟨nofun, fun _ => ihy h⟩
    · cases h
  | block id b ih =>
    intro K σ a h
    refine wpA_mono b (fun e σ hs => ?_) (ih h)
    cases e with
    | normal => exact hs
    | ret => exact hs
    | exit id' =>
      simp only [blockK] at hs
      simp only [blockA]
      split at hs
      · rename_i he; rw [if_pos he]; exact hs
      · rename_i he; rw [if_neg he]; exact hs
    | _ => cases hs
  | loop td b ih =>
    intro K σ a h
    refine ⟨fuel, ?_⟩
    have key : ∀ n σ, loopK (runK P E sh b) td K n σ = some a → loopN (wpA P E.env b) td (fun e σ' => K e σ' = some a) n σ := by
      intro n
      induction n with
      | zero => intro σ h; cases h
      | succ n ihn =>
        intro σ h
        simp only [loopK] at h
        simp only [loopN]
        unfold tidyK at h
        split at h
        · rename_i σ' hs
          rw [hs]
          refine wpA_mono b (fun e σ hs => ?_) (ih h)
          have := thenK_some hs
          cases e with
          | normal => exact ihn _ this
          | ret => exact this
          | exit id => exact this
          | _ => exact this
        · cases h
    exact key fuel σ h
  | rangeF g ps td x y ihx ihy =>
    intro K σ a h
    simp only [runK, listK] at h
    simp only [wpA]
    split at h
    · rename_i xs hxs
      rw [hxs]
      have key : ∀ xs σ, roundsK (runK P E sh x) (runK P E sh y) ps td K xs σ = some a → roundsA (wpA P E.env x) (wpA P E.env y) ps td (fun e σ' => K e σ' = some a) xs σ := by
        intro xs
        induction xs with
        | nil => intro σ h; exact h
        | cons v xs ihn =>
          intro σ h
          simp only [roundsK] at h
          split at h
          · rename_i hl
            refine ⟨hl, wpA_mono x (fun e σ hs => ?_) (ihx h)⟩
            have := thenK_some hs
            cases e with
            | normal =>
              refine wpA_mono y (fun e σ hs => ?_) (ihy this)
              cases e with
              | normal => 
                simp only [roundK, tidyK] at hs
                simp only [roundQ]
                split at hs
                · rename_i σ' h1; rw [h1]; exact ihn _ hs
                · cases hs
              | ret => exact hs
              | exit id => exact hs
              | _ => cases hs
            | ret => cases this
            | exit id => cases this
            | _ => exact this
          · cases h
      exact key xs σ h
    · cases h

/-! ### Naturality -/

theorem runsK_bind (hE : E.Nat') {g : α → Option β} {K : St → Option α} : ∀ (l : List AOper) (σ : St), (runsK P E sh l K σ).bind g = runsK P E sh l (fun σ => (K σ).bind g) σ
  | [], σ => rfl
  | ao :: l, σ => by
    simp only [runsK]
    rw [gsK_bind]
    congr 1
    · funext σ
      rw [effK_bind hE]
      congr 1
      funext y es
      exact runsK_bind hE l _
    · funext σ
      exact runsK_bind hE l _

theorem outsK_bind (hE : E.Nat') {g : α → Option β} {K : List Outc → St → Option α} : ∀ (l : List AOper) (acc : List Outc) (σ : St), (outsK P E sh l K acc σ).bind g = outsK P E sh l (fun os σ => (K os σ).bind g) acc σ
  | [], acc, σ => rfl
  | ao :: l, acc, σ => by
    simp only [outsK]
    rw [gsK_bind]
    congr 1
    · funext σ
      rw [effK_bind hE]
      congr 1
      funext y es
      exact outsK_bind hE l _ _
    · funext σ
      exact outsK_bind hE l _ _

theorem regionK_bind (hE : E.Nat') {g : α → Option β} {ops : List AOper} {prs : List (Nat × Nat)} {K : St → Option α} {σ : St} : (regionK P E sh ops prs K σ).bind g = regionK P E sh ops prs (fun σ => (K σ).bind g) σ := by
  unfold regionK
  cases prs with
  | nil => exact runsK_bind hE ops σ
  | cons p r => simp only; rw [outsK_bind hE]; congr 1; funext os σ; exact ite_bind

theorem tidyK_bind {g : α → Option β} {td : Option Tidy} {σ : St} {K : St → Option α} : (tidyK td σ K).bind g = tidyK td σ fun σ => (K σ).bind g := by
  unfold tidyK; split <;> rfl

theorem thenK_bind {g : α → Option β} {K : St → Option α} {Q : Exit → St → Option α} : (fun e σ => (thenK K Q e σ).bind g) = thenK (fun σ => (K σ).bind g) (fun e σ => (Q e σ).bind g) := by
  funext e σ; cases e <;> rfl

theorem blockK_bind {g : α → Option β} {id : Nat} {Q : Exit → St → Option α} : (fun e σ => (blockK id Q e σ).bind g) = blockK id (fun e σ => (Q e σ).bind g) := by
  funext e σ; cases e <;> first | rfl | (simp only [blockK]; exact ite_bind)

theorem runK_bind (hE : E.Nat') {g : α → Option β} : ∀ (c : ACode) {K : Exit → St → Option α} {σ : St}, (runK P E sh c K σ).bind g = runK P E sh c (fun e σ => (K e σ).bind g) σ := by
  intro c
  induction c with
  | skip => intro K σ; rfl
  | ret => intro K σ; rfl
  | exit id => intro K σ; rfl
  | region ops prs td => intro K σ; simp only [runK]; rw [regionK_bind hE]; congr 1; funext σ; exact tidyK_bind
  | seq x y ihx ihy => intro K σ; simp only [runK]; rw [ihx, thenK_bind]; congr 2; funext σ; exact ihy
  | cond c x y ihx ihy =>
    intro K σ
    simp only [runK, boolK]
    split
    · rw [cK_bind, ihx, ihy]
    · rfl
  | block id b ih => intro K σ; simp only [runK]; rw [ih, blockK_bind]
  | loop td b ih =>
    intro K σ
    simp only [runK]
    have key : ∀ n σ, (loopK (runK P E sh b) td K n σ).bind g = loopK (runK P E sh b) td (fun e σ => (K e σ).bind g) n σ := by
      intro n
      induction n with
      | zero => intro σ; rfl
      | succ n ihn =>
        intro σ
        simp only [loopK]
        rw [tidyK_bind]
        congr 1
        funext σ
        rw [ih, thenK_bind]
        congr 2
        funext σ
        exact ihn σ
    exact key fuel σ
  | rangeF gg ps td x y ihx ihy =>
    intro K σ
    simp only [runK, listK]
    split
    · rename_i xs hxs
      have key : ∀ xs σ, (roundsK (runK P E sh x) (runK P E sh y) ps td K xs σ).bind g = roundsK (runK P E sh x) (runK P E sh y) ps td (fun e σ => (K e σ).bind g) xs σ := by
        intro xs
        induction xs with
        | nil => intro σ; rfl
        | cons v xs ihn =>
          intro σ
          simp only [roundsK]
          rw [ite_bind, ihx, thenK_bind]
          congr 3
          funext σ
          rw [ihy]
          congr 1
          funext e σ
          cases e with
          | normal => simp only [roundK]; rw [tidyK_bind]; congr 1; funext σ; exact ihn σ
          | _ => rfl
      exact key xs σ
    · rfl

/-! ### A function -/

/-- A function's results are handed on. -/
def retK (rs : List AResV) (k : List RV → Option α) (e : Exit) (σ : St) : Option α :=
  match e with
  | .ret | .normal => match resOut rs σ with
    | some r => k r
    | none => none
  | _ => none

theorem retK_bind {g : α → Option β} {rs : List AResV} {k : List RV → Option α} : (fun e σ => (retK rs k e σ).bind g) = retK rs fun r => (k r).bind g := by
  funext e σ
  cases e <;> first | rfl | (simp only [retK]; split <;> rfl)

theorem retK_done {rs : List AResV} {res : List RV} {e : Exit} {σ : St} (h : retK rs some e σ = some res) : Done rs res e σ := by
  cases e with
  | ret => simp only [retK] at h; split at h
           · rename_i r hr; simp only [Option.some.injEq] at h; subst h; exact ⟨.inl rfl, hr⟩
           · cases h
  | normal => simp only [retK] at h; split at h
              · rename_i r hr; simp only [Option.some.injEq] at h; subst h; exact ⟨.inr rfl, hr⟩
              · cases h
  | _ => cases h

structure EnvK.Ok (P : Program) (E : EnvK) : Prop where
  nat : E.Nat'
  ok : EnvOk P E.env

/-- A call of a function by its code. -/
noncomputable def fnK (P : Program) (E : EnvK) (sh : List (Nat × List Sh)) (ac : ACode) (rs : List AResV) (ds : List DV) (k : List RV → Option α) : Option α := runK P E sh ac (retK rs k) (initS ds)

theorem fnK_bind (hE : E.Nat') {g : α → Option β} {ac : ACode} {rs : List AResV} {ds : List DV} {k : List RV → Option α} : (fnK P E sh ac rs ds k).bind g = fnK P E sh ac rs ds fun r => (k r).bind g := by
  unfold fnK; rw [runK_bind hE, retK_bind]

theorem fnK_contract (hE : E.Ok P) (hm : P.follows .mixedOrders = true) {f : FuncId} {nt : Nat} {tr tl : List (Nat × Tidy)} {ac : ACode} {rs : List AResV} (hf : FnIs P f nt tr tl ac rs) {ds : List DV} {res : List RV} (hn : ds.length ≤ nt)
    (h : fnK P E sh ac rs ds some = some res) : Contract P f ds res ∧ Bodied P f :=
  hf.contract hm hE.ok hn (wpA_mono ac (fun _ _ hs => retK_done hs) (runK_some hE.nat ac h))

/-- One function more. -/
def EnvK.add (E : EnvK) (f : Nat) (s : (α : Type) → List DV → (List RV → Option α) → Option α) : EnvK := ⟨fun α g ds k => if g = f then s α ds k else E.call α g ds k, E.seq⟩

theorem EnvK.Ok.add (hE : E.Ok P) (hm : P.follows .mixedOrders = true) {f : FuncId} {nt : Nat} {tr tl : List (Nat × Tidy)} {ac : ACode} {rs : List AResV} (hf : FnIs P f nt tr tl ac rs) {s : (α : Type) → List DV → (List RV → Option α) → Option α}
    (hs : ∀ ds, (∃ sh', ∀ α k, s α ds k = fnK P E sh' ac rs ds k) ∨ ∀ α k, s α ds k = none) (hn : ∀ ds, nt < ds.length → s _ ds some = none) : (E.add f s).Ok P := by
  refine ⟨fun α β g ds k gg => ?_, fun g ds res hg => ?_, hE.ok.seq⟩
  · simp only [EnvK.add]
    split
    · rcases hs ds with ⟨sh', h⟩ | h
      · rw [h, h, fnK_bind hE.nat]
      · rw [h, h]; rfl
    · exact hE.nat ..
  · simp only [EnvK.env, EnvK.add] at hg
    split at hg
    · rename_i he
      subst he
      rcases hs ds with ⟨sh', h⟩ | h
      · refine fnK_contract (sh := sh') hE hm hf ?_ (by rw [← h]; exact hg)
        rcases Nat.lt_or_ge nt ds.length with hl | hl
        · rw [hn ds hl] at hg; cases hg
        · exact hl
      · rw [h] at hg; cases hg
    · exact hE.ok.call g ds res hg

def EnvK.nil : EnvK := ⟨fun _ _ _ _ => none, fun _ _ => none⟩
theorem EnvK.Ok.nil : EnvK.nil.Ok P := ⟨fun _ _ _ _ _ _ => rfl, fun _ _ _ h => (nomatch h), fun _ _ _ h => (nomatch h)⟩

end Go.AM
