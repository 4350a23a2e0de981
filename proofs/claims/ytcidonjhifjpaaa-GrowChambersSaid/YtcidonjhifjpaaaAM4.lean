/- The abstract machine: operations out of the model's operations, types resolved. -/
import Derived.Test.YtcidonjhifjpaaaAM3
namespace Go.AM
open Go.RowKit

def sizeT (P : Program) (t : TypeId) : Option Nat := (P.info? t).map (·.size)

def isAggD : TypeDesc → Bool
  | .struct _ | .array _ _ => true
  | _ => false

def zeroT (P : Program) (t : TypeId) : Option Value := (P.info? t).bind (·.zero)

def zeroC (P : Program) (t : TypeId) : Option (List C) := (zeroT P t).bind fun v =>
  let cs := v.cells.toList.map ofValC
  if okCs cs then some cs else none

def constDC : C → Option DC
  | .d x => some x
  | .nils => some (.sl [])
  | .fn f [] => some (.fn f [])
  | _ => none

def zeroD (P : Program) (t : TypeId) : Option (List DC) := (zeroC P t).bind fun cs => cs.mapM constDC

def elemT (P : Program) (t : TypeId) : Option TypeId :=
  match P.underlying t with
  | some (.slice e) => some e
  | _ => none

def compileCall (P : Program) (o : Oper) (c : Call) : Option AOp :=
  match c.callee with
  | .value (.func f) => match P.funcs[f]? with
    | some fn => if fn.body.isSome ∧ (fn.name == "runtime.NumGoroutine") = false then some (.call f c.args.toList) else some (.pure o)
    | none => none
  | .value x => some (.calld x c.args.toList)
  | .builtin .len => match c.args.toList, c.argTypes[0]? with
    | [x], some t => match P.underlying t with
      | some (.slice _) => some (.len x)
      | some .string | some (.array _ _) => some (.pure o)
      | _ => none
    | _, _ => none
  | .builtin .copy => match c.args.toList, c.argTypes.toList with
    | [x, y], [t, _] => match elemT P t with
      | some e => match P.info? e with
        | some i => if 0 < i.size then some (.copy i.size x y) else none
        | none => none
      | none => none
    | _, _ => none
  | .builtin .append => match c.args.toList, c.argTypes.toList with
    | [x, y], [t, u] => match elemT P t, elemT P u with
      | some e, some e' => match P.info? e, zeroT P e with
        | some i, some z => if e = e' ∧ z.cells.size = i.size ∧ 0 < i.size then some (.append i.size i.bytes x y) else none
        | _, _ => none
      | _, _ => none
    | _, _ => none
  | .builtin .max | .builtin .min | .builtin .real | .builtin .imag | .builtin .complex => some (.pure o)
  | _ => none

def fieldsT (P : Program) (fs : List Field) : Option (List (Nat × Nat)) := fs.mapM fun f => (sizeT P f.type).map fun s => (f.offset, s)

def isU8 : Option TypeDesc → Bool
  | some (.int k) => k == .u8
  | _ => false

theorem isU8_spec {d : Option TypeDesc} (h : isU8 d = true) : d = some (.int .u8) := by
  unfold isU8 at h
  split at h
  · rename_i k
    cases k <;> first | rfl | simp at h
  · cases h

def compileOp (P : Program) (o : Oper) : Option AOp :=
  match o.op with
  | .move x | .assign x => some (.mv x)
  | .pick c a b => some (.pick c a b)
  | .alloc e => (zeroC P e).map .alloc
  | .box _ x => some (.box x)
  | .build t parts => match P.underlying t, zeroC P t with
    | some (.struct fs), some z => (fieldsT P fs.toList).bind fun places => (parts.toList.mapM fun p => (places[p.1]?).map fun q => (q.1, q.2, p.2)).map (.build z)
    | some (.array _ e), some z => (sizeT P e).map fun s => .build z (parts.toList.map fun p => (p.1 * s, s, p.2))
    | _, _ => none
  | .buildSlice t n parts => match elemT P t with
    | some e => match sizeT P e, zeroD P e with
      | some s, some z => if n * s ≤ 16777216 ∧ z.length = s ∧ 0 < s then some (.bslice s n z parts.toList) else none
      | _, _ => none
    | none => none
  | .load t x => match P.underlying t, sizeT P t with
    | some d, some s => if isAggD d then some (.load true s x) else some (.load false 1 x)
    | _, _ => none
  | .store t x y => (sizeT P t).map fun s => .store s x y
  | .nilCheck x => some (.nilchk x)
  | .fieldAddr t x f => match P.underlying t with
    | some (.struct fs) => match fs[f]? with
      | some fd => match sizeT P fd.type with
        | some s => if 0 < s then some (.faddr fd.offset x) else none
        | none => none
      | none => none
    | _ => none
  | .indexAddr t x i => match P.underlying t with
    | some (.slice e) => (sizeT P e).map fun s => .iaddr s none x i
    | some (.array len e) => (sizeT P e).map fun s => .iaddr s (some len) x i
    | _ => none
  | .field t x f => match P.underlying t with
    | some (.struct fs) => match fs[f]? with
      | some fd => match P.underlying fd.type, sizeT P fd.type with
        | some d, some s => if isAggD d then some (.field true fd.offset s x) else some (.field false fd.offset 1 x)
        | _, _ => none
      | none => none
    | _ => none
  | .index t x i => match P.underlying t with
    | some (.array len e) => match P.underlying e, sizeT P e with
      | some d, some s => if isAggD d then some (.index true len s x i) else if s = 1 then some (.index false len 1 x i) else none
      | _, _ => none
    | some .string => some (.pure o)
    | _ => none
  | .slice t x lo hi none => match P.underlying t with
    | some (.slice e) => (sizeT P e).map fun s => .slice s false x lo hi
    | some .string => some (.pure o)
    | _ => none
  | .extract x i => some (.extract i x)
  | .makeFunc (.func f) first caps => if first.size = 0 then some (.mkfn f caps.toList) else none
  | .makeSlice t l c => match elemT P t with
    | some e => match P.info? e, zeroD P e with
      | some i, some z => if z.length = i.size ∧ 0 < i.size then some (.mkslice i.size i.bytes z l c) else none
      | _, _ => none
    | none => none
  | .binOp op t x y _ => match P.underlying t with
    | some (.interface _) | none => none
    | some (.slice _) => none
    | some _ => some (.bin op t x y)
  | .unOp .. => some (.pure o)
  | .convert src d x => match P.underlying src, P.underlying d with
    | some .string, some (.slice e) => if isU8 (P.underlying e) then some (.bytes x) else none
    | _, _ => some (.pure o)
  | .call c => compileCall P o c
  | _ => none

end Go.AM
