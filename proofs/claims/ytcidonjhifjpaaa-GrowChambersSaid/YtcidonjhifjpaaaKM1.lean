/- Runs in continuation form: markers at which a run over open data stands, with what follows as a function of what comes out. -/
import Derived.Test.YtcidonjhifjpaaaKE1
namespace Go.AM

/-- What a cell of data is to be. -/
inductive Sh where
  | int (k : IntKind)
  | bool
  | str
  | flt (k : FloatKind)
  | cpx (k : FloatKind)
  | sl

def Cur : List Sh → Type → Type
  | [], α => α
  | .int _ :: r, α => Int → Cur r α
  | .bool :: r, α => Bool → Cur r α
  | .str :: r, α => ByteArray → Cur r α
  | .flt _ :: r, α => Nat → Cur r α
  | .cpx _ :: r, α => Nat → Nat → Cur r α
  | .sl :: r, α => List (List DC) → Cur r α

variable {α β : Type}

def shC : (sh : List Sh) → List DC → Cur sh (Option α) → Option α
  | [], ds, f => match ds with
    | [] => f
    | _ :: _ => none
  | .int k :: r, ds, f => match ds with
    | .v (.int k' n) :: ds => if k' = k then shC r ds (f n) else none
    | _ => none
  | .bool :: r, ds, f => match ds with
    | .v (.bool b) :: ds => shC r ds (f b)
    | _ => none
  | .str :: r, ds, f => match ds with
    | .v (.string s) :: ds => shC r ds (f s)
    | _ => none
  | .flt k :: r, ds, f => match ds with
    | .v (.float k' x) :: ds => if k' = k then shC r ds (f x) else none
    | _ => none
  | .cpx k :: r, ds, f => match ds with
    | .v (.complex k' x y) :: ds => if k' = k then shC r ds (f x y) else none
    | _ => none
  | .sl :: r, ds, f => match ds with
    | .sl rows :: ds => shC r ds (f rows)
    | _ => none

def unc : (sh : List Sh) → (List DC → β) → Cur sh β
  | [], k => k []
  | .int kd :: r, k => fun n => unc r fun cs => k (.v (.int kd n) :: cs)
  | .bool :: r, k => fun b => unc r fun cs => k (.v (.bool b) :: cs)
  | .str :: r, k => fun s => unc r fun cs => k (.v (.string s) :: cs)
  | .flt kd :: r, k => fun x => unc r fun cs => k (.v (.float kd x) :: cs)
  | .cpx kd :: r, k => fun x y => unc r fun cs => k (.v (.complex kd x y) :: cs)
  | .sl :: r, k => fun rows => unc r fun cs => k (.sl rows :: cs)

/-- Then. -/
def curB : (sh : List Sh) → (α → Option β) → Cur sh (Option α) → Cur sh (Option β)
  | [], g, f => f.bind g
  | .int _ :: r, g, f => fun n => curB r g (f n)
  | .bool :: r, g, f => fun n => curB r g (f n)
  | .str :: r, g, f => fun n => curB r g (f n)
  | .flt _ :: r, g, f => fun n => curB r g (f n)
  | .cpx _ :: r, g, f => fun n m => curB r g (f n m)
  | .sl :: r, g, f => fun n => curB r g (f n)

theorem shC_bind (g : α → Option β) : ∀ (sh : List Sh) (ds : List DC) (f : Cur sh (Option α)), (shC sh ds f).bind g = shC sh ds (curB sh g f) := by
  intro sh
  induction sh with
  | nil => intro ds f; simp only [shC]; split <;> rfl
  | cons s r ih =>
    intro ds f
    cases s <;> simp only [shC] <;> split <;> first | exact ih _ _ | (split <;> first | exact ih _ _ | rfl) | rfl

theorem curB_unc (g : α → Option β) : ∀ (sh : List Sh) (k : List DC → Option α), curB sh g (unc sh k) = unc sh fun cs => (k cs).bind g := by
  intro sh
  induction sh with
  | nil => intro k; rfl
  | cons s r ih => intro k; cases s <;> (simp only [curB, unc, ih]; rfl)

theorem shC_some {a : α} : ∀ {sh : List Sh} {ds : List DC} {k : List DC → Option α}, shC sh ds (unc sh k) = some a → ds.length = sh.length ∧ k ds = some a := by
  intro sh
  induction sh with
  | nil =>
    intro ds k h
    simp only [shC] at h
    split at h
    · exact ⟨rfl, h⟩
    · cases h
  | cons s r ih =>
    intro ds k h
    cases s <;> simp only [shC, unc] at h <;> split at h <;> first
      | (cases h; done)
      | (split at h
         · rename_i he; subst he; have h12 := ih h; exact ⟨by simp [h12.1], h12.2⟩
         · cases h)
      | (have h12 := ih h; exact ⟨by simp [h12.1], h12.2⟩)

/-! ### Markers -/

def cK (b : Bool) (x y : Option α) : Option α := match b with | true => x | false => y
def gK (b : Bool) (x : Option α) : Option α := match b with | true => x | false => none

/-- A whole row is read. -/
def rowK (rows : List (List DC)) (i : Int) (sh : List Sh) (f : Cur sh (Option α)) : Option α :=
  match decide (0 ≤ i) with
  | true => match rows[i.toNat]? with
    | some r => shC sh r f
    | none => none
  | false => none

/-- A place in a row of own memory. -/
def ixK (rows : List (List DC)) (i : Int) (sz : Nat) (x : Option α) : Option α :=
  match decide (0 ≤ i ∧ i < rows.length ∧ (rowAt rows i.toNat).length = sz) with
  | true => x
  | false => none

/-- Part of a row is read. -/
def ldK (rows : List (List DC)) (i off : Nat) (sh : List Sh) (f : Cur sh (Option α)) : Option α :=
  match decide (i < rows.length) with
  | true => shC sh (((rowAt rows i).drop off).take sh.length) f
  | false => none

/-- Part of a row is written. -/
def stK (rows : List (List DC)) (i off sz : Nat) (x : Option α) : Option α :=
  match decide (i < rows.length ∧ off + sz ≤ (rowAt rows i).length) with
  | true => x
  | false => none

/-- A number below a known one. -/
def selK : Nat → Int → (Nat → Option α) → Option α
  | 0, _, _ => none
  | n + 1, z, f => cK (z == (n : Int)) (f n) (selK n z f)

def sixK (s : ByteArray) (i : Int) (f : UInt8 → Option α) : Option α :=
  match (if 0 ≤ i then s[i.toNat]? else none) with
  | some b => f b
  | none => none

def flK (o : Option Nat) (f : Nat → Option α) : Option α := match o with | some r => f r | none => none
def ivK (o : Option Int) (f : Int → Option α) : Option α := match o with | some r => f r | none => none
def fl2K (o : Option (Nat × Nat)) (f : Nat → Nat → Option α) : Option α := match o with | some (r, s) => f r s | none => none

theorem cK_bind {g : α → Option β} {b : Bool} {x y : Option α} : (cK b x y).bind g = cK b (x.bind g) (y.bind g) := by cases b <;> rfl
theorem gK_bind {g : α → Option β} {b : Bool} {x : Option α} : (gK b x).bind g = gK b (x.bind g) := by cases b <;> rfl
theorem rowK_bind {g : α → Option β} {rows : List (List DC)} {i : Int} {sh : List Sh} {f : Cur sh (Option α)} : (rowK rows i sh f).bind g = rowK rows i sh (curB sh g f) := by
  unfold rowK; split
  · split
    · exact shC_bind g _ _ _
    · rfl
  · rfl
theorem ixK_bind {g : α → Option β} {rows : List (List DC)} {i : Int} {sz : Nat} {x : Option α} : (ixK rows i sz x).bind g = ixK rows i sz (x.bind g) := by
  unfold ixK; split <;> rfl
theorem ldK_bind {g : α → Option β} {rows : List (List DC)} {i off : Nat} {sh : List Sh} {f : Cur sh (Option α)} : (ldK rows i off sh f).bind g = ldK rows i off sh (curB sh g f) := by
  unfold ldK; split
  · exact shC_bind g _ _ _
  · rfl
theorem stK_bind {g : α → Option β} {rows : List (List DC)} {i off sz : Nat} {x : Option α} : (stK rows i off sz x).bind g = stK rows i off sz (x.bind g) := by
  unfold stK; split <;> rfl
theorem selK_bind {g : α → Option β} {z : Int} {f : Nat → Option α} : ∀ {n : Nat}, (selK n z f).bind g = selK n z fun j => (f j).bind g := by
  intro n
  induction n with
  | zero => rfl
  | succ n ih => simp only [selK, cK_bind, ih]
theorem sixK_bind {g : α → Option β} {s : ByteArray} {i : Int} {f : UInt8 → Option α} : (sixK s i f).bind g = sixK s i fun b => (f b).bind g := by
  unfold sixK; split <;> rfl
theorem flK_bind {g : α → Option β} {o : Option Nat} {f : Nat → Option α} : (flK o f).bind g = flK o fun b => (f b).bind g := by cases o <;> rfl
theorem ivK_bind {g : α → Option β} {o : Option Int} {f : Int → Option α} : (ivK o f).bind g = ivK o fun b => (f b).bind g := by cases o <;> rfl
theorem fl2K_bind {g : α → Option β} {o : Option (Nat × Nat)} {f : Nat → Nat → Option α} : (fl2K o f).bind g = fl2K o fun a b => (f a b).bind g := by cases o <;> rfl

theorem gK_some {b : Bool} {x : Option α} {a : α} (h : gK b x = some a) : b = true ∧ x = some a := by cases b <;> first | exact ⟨rfl, h⟩ | cases h
theorem rowK_some {rows : List (List DC)} {i : Int} {sh : List Sh} {k : List DC → Option α} {a : α} (h : rowK rows i sh (unc sh k) = some a) :
    0 ≤ i ∧ ∃ r, rows[i.toNat]? = some r ∧ r.length = sh.length ∧ k r = some a := by
  unfold rowK at h
  split at h
  · rename_i hd
    split at h
    · rename_i r hr
      exact ⟨by simpa using hd, r, hr, shC_some h⟩
    · cases h
  · cases h
theorem ixK_some {rows : List (List DC)} {i : Int} {sz : Nat} {x : Option α} {a : α} (h : ixK rows i sz x = some a) : (0 ≤ i ∧ i < rows.length ∧ (rowAt rows i.toNat).length = sz) ∧ x = some a := by
  unfold ixK at h
  split at h
  · rename_i hd; exact ⟨by simpa using hd, h⟩
  · cases h
theorem stK_some {rows : List (List DC)} {i off sz : Nat} {x : Option α} {a : α} (h : stK rows i off sz x = some a) : (i < rows.length ∧ off + sz ≤ (rowAt rows i).length) ∧ x = some a := by
  unfold stK at h
  split at h
  · rename_i hd; exact ⟨by simpa using hd, h⟩
  · cases h
theorem ldK_some {rows : List (List DC)} {i off : Nat} {sh : List Sh} {k : List DC → Option α} {a : α} (h : ldK rows i off sh (unc sh k) = some a) :
    i < rows.length ∧ off + sh.length ≤ (rowAt rows i).length ∨ sh.length = 0 ∧ i < rows.length := by
  unfold ldK at h
  split at h
  · rename_i hd
    have := (shC_some h).1
    simp only [List.length_take, List.length_drop] at this
    have hd : i < rows.length := by simpa using hd
    omega
  · cases h
theorem ldK_some' {rows : List (List DC)} {i off : Nat} {sh : List Sh} {k : List DC → Option α} {a : α} (h : ldK rows i off sh (unc sh k) = some a) : k (((rowAt rows i).drop off).take sh.length) = some a := by
  unfold ldK at h
  split at h
  · exact (shC_some h).2
  · cases h
theorem selK_some {z : Int} {f : Nat → Option α} {a : α} : ∀ {n : Nat}, selK n z f = some a → ∃ j, j < n ∧ z = j ∧ f j = some a := by
  intro n
  induction n with
  | zero => intro h; cases h
  | succ n ih =>
    intro h
    simp only [selK] at h
    cases hb : (z == (n : Int)) with
    | true => rw [hb] at h; exact ⟨n, by omega, by simpa using hb, h⟩
    | false => rw [hb] at h; obtain ⟨j, h1, h2⟩ := ih h; exact ⟨j, by omega, h2⟩
theorem sixK_some {s : ByteArray} {i : Int} {f : UInt8 → Option α} {a : α} (h : sixK s i f = some a) : ∃ b, (if 0 ≤ i then s[i.toNat]? else none) = some b ∧ f b = some a := by
  unfold sixK at h
  split at h
  · rename_i b hb; exact ⟨b, hb, h⟩
  · cases h
theorem flK_some {o : Option Nat} {f : Nat → Option α} {a : α} (h : flK o f = some a) : ∃ r, o = some r ∧ f r = some a := by cases o <;> first | cases h | exact ⟨_, rfl, h⟩
theorem ivK_some {o : Option Int} {f : Int → Option α} {a : α} (h : ivK o f = some a) : ∃ r, o = some r ∧ f r = some a := by cases o <;> first | cases h | exact ⟨_, rfl, h⟩
theorem fl2K_some {o : Option (Nat × Nat)} {f : Nat → Nat → Option α} {a : α} (h : fl2K o f = some a) : ∃ r s, o = some (r, s) ∧ f r s = some a := by
  cases o with
  | none => cases h
  | some p => exact ⟨p.1, p.2, rfl, h⟩

end Go.AM
