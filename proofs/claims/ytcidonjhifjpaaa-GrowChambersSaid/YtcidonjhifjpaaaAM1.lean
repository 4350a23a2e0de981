/- An abstract machine for Go code over immutable data: definitions (no theorem about the program's model yet). -/
import Derived.WalkKit
import Derived.WalkSpells
import Derived.WalkLawsBesides
namespace Go.AM

/-- A cell of immutable data. -/
inductive DC where
  | v (x : Value)
  | sl (rows : List (List DC))
  | fn (f : Nat) (caps : List DC)
  | cref (cs : List DC) (off : Nat)

/-- An immutable value: whether it is an aggregate, and its cells. -/
abbrev DV := Bool × List DC

inductive Cap where
  | ptr (n : Nat)
  | d (x : DC)

/-- A cell of the machine's state: data, or a name of memory that this activation owns. -/
inductive C where
  | d (x : DC)
  | nils
  | und
  | unk
  | ref (n : Nat)
  | ptr (n off : Nat)
  | eptr (n i off : Nat)
  | fn (f : Nat) (caps : List Cap)
  | yld (l : Nat)
  | sub (n lo hi : Nat)

inductive AV where
  | val (agg : Bool) (cs : List C)
  | tup (l : List (Bool × List C))

/-- A cell of a result: data, or a slice in new memory that the caller will own. -/
inductive RC where
  | d (x : DC)
  | own (sz : Nat) (rows : List (List DC))

abbrev RV := Bool × List RC

inductive Entry where
  | box (cs : List C)
  | own (sz : Nat) (rows : List (List DC))
  | imm (rows : List (List DC))
  | dead

def aget {α : Type} : List (Nat × α) → Nat → Option α
  | [], _ => none
  | (k, x) :: r, n => if k = n then some x else aget r n

def aput {α : Type} : List (Nat × α) → Nat → α → List (Nat × α)
  | [], n, x => [(n, x)]
  | (k, y) :: r, n, x => if k = n then (n, x) :: r else (k, y) :: aput r n x

abbrev Tab := List (Nat × Entry)

def aputs : Tab → List (Nat × Entry) → Tab
  | T, [] => T
  | T, (n, e) :: r => aputs (aput T n e) r

structure St where
  tmps : List (Nat × AV)
  tab : Tab
  sv : List (Nat × AV) := []

/-- One cell without an address. -/
def plain : Value → Bool
  | .bool _ | .int .. | .float .. | .complex .. | .string _ | .nilFunc | .nilIface | .pointer none | .map none | .chan none => true
  | _ => false

def ofValC (x : Value) : C :=
  if plain x then .d (.v x) else
  match x with
  | .slice none 0 0 => .nils
  | .func (.func f) first caps => if first.size = 0 ∧ caps.size = 0 then .fn f [] else .unk
  | _ => .unk

def ofVal : Value → AV
  | .agg cs => .val true (cs.toList.map ofValC)
  | x => .val false [ofValC x]

def plainC : C → Option Value
  | .d (.v x) => some x
  | _ => none

def plainCs : List C → Option (List Value)
  | [] => some []
  | c :: r => match plainC c, plainCs r with
    | some x, some xs => some (x :: xs)
    | _, _ => none

/-- The value itself, where no address stands in it. -/
def toVal : AV → Option Value
  | .val false [c] => plainC c
  | .val true cs => (plainCs cs).map fun xs => .agg xs.toArray
  | _ => none

def cellsA : AV → Option (List C)
  | .val _ cs => some cs
  | .tup _ => none

def aggCs : AV → Option (List C)
  | .val true cs => some cs
  | _ => none

def oneA : AV → Option C
  | .val false [c] => some c
  | _ => none

/-- A cell that may be put into memory. -/
def okC : C → Bool
  | .unk | .und | .yld _ | .sub _ _ _ => false
  | _ => true

def okCs : List C → Bool
  | [] => true
  | c :: r => okC c && okCs r

/-- The value of a computation that reads and changes nothing. -/
def evalPure {α : Type} (P : Program) : Sem α → Option α
  | .pure a => some a
  | .program k => evalPure P (k P)
  | .mark _ k => evalPure P k
  | _ => none

/-! ### Snapshots -/

def capDC (toD : C → Option DC) (T : Tab) : Cap → Option DC
  | .d x => some x
  | .ptr n => match aget T n with
    | some (.box cs) => (cs.mapM toD).map fun ds => .cref ds 0
    | _ => none

/-- What a cell reads as, as long as nothing is written. -/
def toDC (T : Tab) : Nat → C → Option DC
  | 0, _ => none
  | k + 1, c => match c with
    | .d x => some x
    | .nils => some (.sl [])
    | .ref n => match aget T n with
      | some (.own _ rows) | some (.imm rows) => some (.sl rows)
      | _ => none
    | .ptr n off => match aget T n with
      | some (.box cs) => (cs.mapM (toDC T k)).map fun ds => .cref ds off
      | _ => none
    | .eptr n i off => match aget T n with
      | some (.own _ rows) | some (.imm rows) => (rows[i]?).map fun r => .cref r off
      | _ => none
    | .fn f caps => (caps.mapM (capDC (toDC T k) T)).map fun ds => .fn f ds
    | _ => none

def toDV (T : Tab) : AV → Option DV
  | .val b cs => (cs.mapM (toDC T 4)).map fun ds => (b, ds)
  | .tup _ => none

/-- The names that a cell leads to. -/
def namesC (T : Tab) : Nat → C → List Nat
  | 0, _ => []
  | k + 1, c => match c with
    | .ref n | .eptr n _ _ | .sub n _ _ => [n]
    | .ptr n _ => n :: (match aget T n with | some (.box cs) => cs.flatMap (namesC T k) | _ => [])
    | .fn _ caps => caps.flatMap fun | .ptr n => n :: (match aget T n with | some (.box cs) => cs.flatMap (namesC T k) | _ => []) | .d _ => []
    | _ => []

/-- Data that may lead into memory. -/
def viewD : DC → Bool
  | .v _ => false
  | .fn _ [] => false
  | _ => true

def flatRows (rows : List (List DC)) : Bool := rows.all fun r => r.all fun d => !viewD d

def viewR : RC → Bool
  | .d x => viewD x
  | .own _ rows => !flatRows rows

/-- A cell laid down for good: what it leads to is never written again. -/
def freezeC (T : Tab) : C → Option (DC × List (Nat × Entry))
  | .d x => some (x, [])
  | .nils => some (.sl [], [])
  | .ref n => match aget T n with
    | some (.own _ rows) => some (.sl rows, [(n, .imm rows)])
    | some (.imm rows) => some (.sl rows, [])
    | _ => none
  | .fn f [] => some (.fn f [], [])
  | _ => none

def freezeCs (T : Tab) : List C → Option (List DC × List (Nat × Entry))
  | [] => some ([], [])
  | c :: r => match freezeC T c with
    | none => none
    | some (x, e) => match freezeCs (aputs T e) r with
      | none => none
      | some (xs, es) => some (x :: xs, e ++ es)

/-! ### Operations -/

inductive AOp where
  | mv (x : Operand)
  | pick (c a b : Operand)
  | alloc (zero : List C)
  | box (x : Operand)
  | build (zero : List C) (parts : List (Nat × Nat × Operand))
  | bslice (sz n : Nat) (zero : List DC) (parts : List (Nat × Operand))
  | load (agg : Bool) (sz : Nat) (x : Operand)
  | store (sz : Nat) (x y : Operand)
  | faddr (off : Nat) (x : Operand)
  | iaddr (sz : Nat) (arr : Option Nat) (x i : Operand)
  | field (agg : Bool) (off sz : Nat) (x : Operand)
  | index (agg : Bool) (len sz : Nat) (x i : Operand)
  | slice (sz : Nat) (move : Bool) (x : Operand) (lo hi : Option Operand)
  | extract (i : Nat) (x : Operand)
  | mkfn (f : Nat) (caps : List Operand)
  | mkslice (sz bytes : Nat) (zero : List DC) (len cap : Operand)
  | len (x : Operand)
  | append (sz bytes : Nat) (x y : Operand)
  | copy (sz : Nat) (x y : Operand)
  | call (f : Nat) (args : List Operand)
  | calld (x : Operand) (args : List Operand)
  | nilchk (x : Operand)
  | bin (op : BinOp) (t : TypeId) (x y : Operand)
  | eqagg (neg : Bool) (x y : Operand)
  | pure (o : Oper)
  | bytes (x : Operand)
  | view (sz : Nat) (x : Operand) (lo hi : Option Operand)
  | bad

structure AOper where
  dst : Option Nat
  op : AOp
  guard : Option (Nat × Bool)

/-- The environment: what calls return. -/
structure Env where
  call : Nat → List DV → Option (List RV)
  seq : Nat → List DC → Option (List (List Value))

instance : CoeFun Env (fun _ => Nat → List DV → Option (List RV)) := ⟨Env.call⟩

def evO (tmps : List (Nat × AV)) : Operand → AV
  | .tmp t => (aget tmps t).getD (.val false [.unk])
  | .const v => ofVal v
  | .func f => .val false [.fn f []]
  | .global _ => .val false [.unk]

def splice {α : Type} (l : List α) (off : Nat) (xs : List α) : List α := l.take off ++ xs ++ l.drop (off + xs.length)

def buildGo (ρ : Operand → AV) : List C → List (Nat × Nat × Operand) → Option (List C)
  | cs, [] => some cs
  | cs, (off, sz, x) :: r => match cellsA (ρ x) with
    | some xs => if xs.length = sz ∧ off + sz ≤ cs.length ∧ okCs xs = true then buildGo ρ (splice cs off xs) r else none
    | none => none

def bsliceGo (ρ : Operand → AV) (sz : Nat) : Tab → List (List DC) → List (Nat × Entry) → List (Nat × Operand) → Option (List (List DC) × List (Nat × Entry))
  | _, rows, es, [] => some (rows, es)
  | T, rows, es, (i, x) :: r => match cellsA (ρ x) with
    | some xs => match freezeCs T xs with
      | some (ds, e) => if xs.length = sz ∧ i < rows.length then bsliceGo ρ sz (aputs T e) (rows.set i ds) (es ++ e) r else none
      | none => none
    | none => none

def intA : AV → Option Int
  | .val false [.d (.v (.int _ n))] => some n
  | _ => none

def boolA : AV → Option Bool
  | .val false [.d (.v (.bool b))] => some b
  | _ => none

def aggA (b : Bool) (cs : List C) : Option AV := if b then some (.val true cs) else match cs with
  | [c] => some (.val false [c])
  | _ => none

def rowsA (T : Tab) : AV → Option (List (List DC))
  | .val false [.d (.sl rows)] => some rows
  | .val false [.nils] => some []
  | .val false [.ref n] => match aget T n with
    | some (.own _ rows) | some (.imm rows) => some rows
    | _ => none
  | .val false [.sub n lo hi] => match aget T n with
    | some (.own _ rows) | some (.imm rows) => some ((rows.take hi).drop lo)
    | _ => none
  | _ => none

/-- The part of an own slice that a slice value is. -/
def partA (T : Tab) : C → Option (Nat × Nat × Nat)
  | .ref n => match aget T n with
    | some (.own _ rows) => some (n, 0, rows.length)
    | _ => none
  | .sub n lo hi => some (n, lo, hi)
  | _ => none

def allLen (sz : Nat) (rows : List (List DC)) : Bool := rows.all fun r => r.length == sz

def rowAt (rows : List (List DC)) (i : Nat) : List DC := rows.getD i []

/-- The bound of a slice expression. -/
def boundA (ρ : Operand → AV) (dflt : Int) : Option Operand → Option Int
  | none => some dflt
  | some x => intA (ρ x)

def capsA (ρ : Operand → AV) : List Operand → Option (List Cap)
  | [] => some []
  | x :: r => match oneA (ρ x), capsA ρ r with
    | some (.ptr n 0), some cs => some (.ptr n :: cs)
    | some (.d y), some cs => some (.d y :: cs)
    | _, _ => none

def argsA (T : Tab) (ρ : Operand → AV) : List Operand → Option (List DV)
  | [] => some []
  | x :: r => match toDV T (ρ x), argsA T ρ r with
    | some d, some ds => some (d :: ds)
    | _, _ => none

def namesA (T : Tab) : AV → List Nat
  | .val _ cs => cs.flatMap (namesC T 4)
  | .tup _ => []

/-- Results laid into the caller's state: a slice in new memory gets a name. -/
def importCs (base : Nat) : Nat → List RC → List C × List (Nat × Entry)
  | _, [] => ([], [])
  | j, .d x :: r => (.d x :: (importCs base (j + 1) r).1, (importCs base (j + 1) r).2)
  | j, .own sz rows :: r => (.ref (base + 10000 * j) :: (importCs base (j + 1) r).1, (base + 10000 * j, .own sz rows) :: (importCs base (j + 1) r).2)

def importRs (base : Nat) : Nat → List RV → List (Bool × List C) × List (Nat × Entry)
  | _, [] => ([], [])
  | i, (b, cs) :: r => ((b, (importCs (base + 640000 * i) 0 cs).1) :: (importRs base (i + 1) r).1, (importCs (base + 640000 * i) 0 cs).2 ++ (importRs base (i + 1) r).2)

def tupA : List (Bool × List C) → AV
  | [(b, cs)] => .val b cs
  | xs => .tup xs

/-- Names that a view in a result may lead to are never written again. -/
def freezeNames (T : Tab) : List Nat → List (Nat × Entry)
  | [] => []
  | n :: r => match aget T n with
    | some (.own _ rows) => (n, .imm rows) :: freezeNames (aput T n (.imm rows)) r
    | some (.box _) => (n, .dead) :: freezeNames (aput T n .dead) r
    | _ => freezeNames T r

def notIn (n : Nat) : List (Nat × Entry) → Bool
  | [] => true
  | p :: r => if p.1 = n then false else notIn n r

/-- The new names are new, and no two are one. -/
def freshAll (T : Tab) : List (Nat × Entry) → Bool
  | [] => true
  | p :: r => (aget T p.1).isNone && notIn p.1 r && freshAll T r

def callOut (base : Nat) (T : Tab) (names : List Nat) (res : List RV) : Option (AV × List (Nat × Entry)) :=
  let frz := if names.isEmpty then [] else if res.any (fun r => r.2.any viewR) then freezeNames T names else []
  let es := (importRs base 0 res).2
  if freshAll (aputs T frz) es then some (tupA (importRs base 0 res).1, frz ++ es) else none

/-- The value of an operation on scalars. -/
def binV (P : Program) (op : BinOp) (t : TypeId) (x y : Operand) (a b : Value) : Option Value :=
  evalPure P (do eqGuard op t x y a b; binOp op t a b)

def eqCells : List Value → List Value → Option Bool
  | [], [] => some true
  | a :: r, b :: s => match a, b with
    | .int k x, .int k' y => if k = k' then (eqCells r s).map fun e => x == y && e else none
    | .bool x, .bool y => (eqCells r s).map fun e => x == y && e
    | _, _ => none
  | _, _ => none

/-- The value of an operand that leads into no memory. -/
def valO (ρ : Operand → AV) : Operand → Option Value
  | .func f => some (.func (.func f) #[] #[])
  | x => toVal (ρ x)

def Out := AV × List (Nat × Entry)

def eff (P : Program) (E : Env) (T : Tab) (ρ : Operand → AV) (dst : Nat) : AOp → Option (AV × List (Nat × Entry))
  | .mv x => some (ρ x, [])
  | .pick c a b => match boolA (ρ c) with
    | some t => some (if t then ρ a else ρ b, [])
    | none => none
  | .alloc zero => if (aget T dst).isNone then some (.val false [.ptr dst 0], [(dst, .box zero)]) else none
  | .box x => match cellsA (ρ x) with
    | some cs => if (aget T dst).isNone ∧ okCs cs = true then some (.val false [.ptr dst 0], [(dst, .box cs)]) else none
    | none => none
  | .build zero parts => (buildGo ρ zero parts).map fun cs => (.val true cs, [])
  | .bslice sz n zero parts => match bsliceGo ρ sz T (List.replicate n zero) [] parts with
    | some (rows, es) => if (aget (aputs T es) dst).isNone then some (.val false [.ref dst], es ++ [(dst, .own sz rows)]) else none
    | none => none
  | .load agg sz x => match oneA (ρ x) with
    | some (.ptr n off) => match aget T n with
      | some (.box cs) => if off + sz ≤ cs.length then (aggA agg ((cs.drop off).take sz)).map fun y => (y, []) else none
      | _ => none
    | some (.eptr n i off) => match aget T n with
      | some (.own _ rows) | some (.imm rows) =>
        if i < rows.length ∧ off + sz ≤ (rowAt rows i).length then (aggA agg ((((rowAt rows i).drop off).take sz).map .d)).map fun y => (y, []) else none
      | _ => none
    | some (.d (.cref cs off)) => if off + sz ≤ cs.length then (aggA agg (((cs.drop off).take sz).map .d)).map fun y => (y, []) else none
    | _ => none
  | .store sz x y => match cellsA (ρ y), oneA (ρ x) with
    | some ys, some (.ptr n off) => match aget T n with
      | some (.box cs) => if ys.length = sz ∧ off + sz ≤ cs.length ∧ okCs ys = true then some (.val false [.und], [(n, .box (splice cs off ys))]) else none
      | _ => none
    | some ys, some (.eptr n i off) => match freezeCs T ys with
      | some (ds, es) => match aget (aputs T es) n with
        | some (.own s rows) => if ys.length = sz ∧ i < rows.length ∧ off + sz ≤ (rowAt rows i).length then some (.val false [.und], es ++ [(n, .own s (rows.set i (splice (rowAt rows i) off ds)))]) else none
        | _ => none
      | none => none
    | _, _ => none
  | .faddr off x => match oneA (ρ x) with
    | some (.ptr n o) => some (.val false [.ptr n (o + off)], [])
    | some (.eptr n i o) => some (.val false [.eptr n i (o + off)], [])
    | some (.d (.cref cs o)) => some (.val false [.d (.cref cs (o + off))], [])
    | _ => none
  | .iaddr sz none x i => match intA (ρ i), oneA (ρ x) with
    | some z, some (.d (.sl rows)) => if 0 ≤ z ∧ z < rows.length ∧ (rowAt rows z.toNat).length = sz then some (.val false [.d (.cref (rowAt rows z.toNat) 0)], []) else none
    | some z, some (.ref n) => match aget T n with
      | some (.own _ rows) | some (.imm rows) => if 0 ≤ z ∧ z < rows.length ∧ (rowAt rows z.toNat).length = sz then some (.val false [.eptr n z.toNat 0], []) else none
      | _ => none
    | _, _ => none
  | .iaddr sz (some len) x i => match intA (ρ i), oneA (ρ x) with
    | some z, some (.ptr n o) => if 0 ≤ z ∧ z < len then some (.val false [.ptr n (o + z.toNat * sz)], []) else none
    | some z, some (.eptr n k o) => if 0 ≤ z ∧ z < len then some (.val false [.eptr n k (o + z.toNat * sz)], []) else none
    | some z, some (.d (.cref cs o)) => if 0 ≤ z ∧ z < len then some (.val false [.d (.cref cs (o + z.toNat * sz))], []) else none
    | _, _ => none
  | .field agg off sz x => match aggCs (ρ x) with
    | some cs => if off + sz ≤ cs.length then (aggA agg ((cs.drop off).take sz)).map fun y => (y, []) else none
    | none => none
  | .index agg len sz x i => match aggCs (ρ x), intA (ρ i) with
    | some cs, some z => if 0 ≤ z ∧ z < len ∧ z.toNat * sz + sz ≤ cs.length then (aggA agg ((cs.drop (z.toNat * sz)).take sz)).map fun y => (y, []) else none
    | _, _ => none
  | .slice sz move x lo hi => match oneA (ρ x) with
    | some (.d (.sl rows)) => match boundA ρ 0 lo, boundA ρ rows.length hi with
      | some l, some h => if 0 ≤ l ∧ l ≤ h ∧ h ≤ rows.length ∧ allLen sz rows = true then some (.val false [.d (.sl ((rows.take h.toNat).drop l.toNat))], []) else none
      | _, _ => none
    | some (.nils) => match boundA ρ 0 lo, boundA ρ 0 hi with
      | some l, some h => if l = 0 ∧ h = 0 then some (.val false [.nils], []) else none
      | _, _ => none
    | some (.ref n) => match aget T n with
      | some (.own s rows) => match boundA ρ 0 lo, boundA ρ rows.length hi with
        | some l, some h =>
          if 0 ≤ l ∧ l ≤ h ∧ h ≤ rows.length ∧ s = sz then
            if move then (if (aget T dst).isNone then some (.val false [.ref dst], [(n, .dead), (dst, .own s ((rows.take h.toNat).drop l.toNat))]) else none)
            else some (.val false [.d (.sl ((rows.take h.toNat).drop l.toNat))], [(n, .imm rows)])
          else none
        | _, _ => none
      | some (.imm rows) => match boundA ρ 0 lo, boundA ρ rows.length hi with
        | some l, some h => if 0 ≤ l ∧ l ≤ h ∧ h ≤ rows.length ∧ allLen sz rows = true then some (.val false [.d (.sl ((rows.take h.toNat).drop l.toNat))], []) else none
        | _, _ => none
      | _ => none
    | _ => none
  | .extract i x => match ρ x with
    | .tup l => (l[i]?).map fun p => (.val p.1 p.2, [])
    | _ => none
  | .mkfn f caps => (capsA ρ caps).map fun cs => (.val false [.fn f cs], [])
  | .mkslice sz bytes zero len cap => match intA (ρ len), intA (ρ cap) with
    | some l, some c => if 0 ≤ l ∧ l ≤ c ∧ bytes * c ≤ 140737488355328 ∧ c ≤ 9223372036854775807 ∧ (aget T dst).isNone then some (.val false [.ref dst], [(dst, .own sz (List.replicate l.toNat zero))]) else none
    | _, _ => none
  | .len x => (rowsA T (ρ x)).map fun rows => (.val false [.d (.v (.int .i64 rows.length))], [])
  | .append sz bytes x y => match rowsA T (ρ y) with
    | some rows2 => match oneA (ρ x) with
      | some .nils => if allLen sz rows2 ∧ rows2.length * bytes ≤ 140737488355328 ∧ rows2.length ≤ 9223372036854775807 ∧ (aget T dst).isNone then some (.val false [.ref dst], [(dst, .own sz rows2)]) else none
      | some (.ref n) => match aget T n with
        | some (.own s rows) =>
          if s = sz ∧ allLen sz rows2 ∧ (rows.length + rows2.length) * bytes ≤ 140737488355328 ∧ rows.length + rows2.length ≤ 9223372036854775807 ∧ (aget T dst).isNone then some (.val false [.ref dst], [(n, .dead), (dst, .own sz (rows ++ rows2))]) else none
        | _ => none
      | _ => none
    | none => none
  | .copy sz x y => match rowsA T (ρ y), (oneA (ρ x)).bind (partA T) with
    | some rows2, some (n, lo, hi) => match aget T n with
      | some (.own s rows) => if s = sz ∧ allLen sz rows2 = true ∧ lo < hi ∧ hi ≤ rows.length then
          some (.val false [.d (.v (.int .i64 (min rows2.length (hi - lo) : Nat)))], [(n, .own s (splice rows lo (rows2.take (hi - lo))))]) else none
      | _ => none
    | _, _ => none
  | .view sz x lo hi => match oneA (ρ x) with
    | some (.ref n) => match aget T n with
      | some (.own s rows) => match boundA ρ 0 lo, boundA ρ rows.length hi with
        | some l, some h => if 0 ≤ l ∧ l ≤ h ∧ h ≤ rows.length ∧ s = sz then (if l < h then some (.val false [.sub n l.toNat h.toNat], []) else some (.val false [.d (.sl [])], [])) else none
        | _, _ => none
      | _ => none
    | _ => none
  | .call f args => match argsA T ρ args with
    | some ds => match E f ds with
      | some res => callOut dst T (args.flatMap fun x => namesA T (ρ x)) res
      | none => none
    | none => none
  | .calld x args => match oneA (ρ x), argsA T ρ args with
    | some c, some ds => match toDC T 4 c with
      | some (.fn f caps) => match E f (ds ++ caps.map fun d => (false, [d])) with
        | some res => callOut dst T (namesC T 4 c ++ args.flatMap fun x => namesA T (ρ x)) res
        | none => none
      | _ => none
    | _, _ => none
  | .nilchk x => match oneA (ρ x) with
    | some (.ptr _ _) | some (.eptr _ _ _) | some (.d (.cref _ _)) | some (.fn _ _) | some (.d (.fn _ _)) => some (ρ x, [])
    | _ => none
  | .bin op t x y => match toVal (ρ x), toVal (ρ y) with
    | some a, some b => (binV P op t x y a b).map fun v => (ofVal v, [])
    | _, _ => none
  | .eqagg neg x y => match cellsA (ρ x), cellsA (ρ y) with
    | some xs, some ys => match plainCs xs, plainCs ys with
      | some as, some bs => (eqCells as bs).map fun e => (.val false [.d (.v (.bool (if neg then !e else e)))], [])
      | _, _ => none
    | _, _ => none
  | .pure o => match o.op.operands.toList.all fun x => (valO ρ x).isSome with
    | true => match evalPure P (execOp (fun x => (valO ρ x).getD undef) o) with
      | some (.value v) => some (ofVal v, [])
      | _ => none
    | false => none
  | .bytes x => match toVal (ρ x) with
    | some (.string s) => if s.size ≤ 9223372036854775807 ∧ (aget T dst).isNone then some (.val false [.ref dst], [(dst, .own 1 (s.data.toList.map fun b => [.v (.int .u8 b.toNat)]))]) else none
    | _ => none
  | .bad => none

end Go.AM
