/- Texts of one kind, put together. -/
import Derived.WalkKit
import Derived.WalkSpells
import Derived.WalkLawsBesides
namespace Go.AM
theorem zaI {α:Type _}(a b:α):(some a=some b)=(a=b):=Option.some.injEq a b
theorem zbI {α:Type _}{β:Type _}(a:α)(b:β)(c:α)(d:β):((a,b)=(c,d))=(a=c/\b=d):=Prod.mk.injEq a b c d
inductive DC where
 | v (x:Value)
 | sl (rows:List (List DC))
 | fn (f:Nat) (caps:List DC)
 | cref (cs:List DC) (off:Nat)
 | nan (k:FloatKind)
 | ifc (t:TypeId) (agg:Bool) (cs:List DC)
 | mref (cs:List DC) (off:Nat)
 | osl (sz:Nat) (rows:List (List DC))
def bM (k:FloatKind)(n:Nat):Bool:=match k.decode n with | .nan _ _=>true | _=>false
abbrev DV:=Bool × List DC
inductive Cap where
 | ptr (n:Nat)
 | d (x:DC)
inductive C where
 | d (x:DC)
 | nils
 | und
 | unk
 | ref (n:Nat)
 | ptr (n off:Nat)
 | eptr (n i off:Nat)
 | fn (f:Nat) (caps:List Cap)
 | yld (l:Nat)
 | sub (n lo hi:Nat)
inductive AV where
 | val (agg:Bool) (cs:List C)
 | tup (l:List (Bool × List C))
inductive RC where
 | d (x:DC)
 | own (sz:Nat) (rows:List (List DC))
 | obj (cs:List DC) (off:Nat)
abbrev RV:=Bool × List RC
inductive aL where
 | box (cs:List C)
 | own (sz:Nat) (rows:List (List DC))
 | imm (rows:List (List DC))
 | dead
def an {α:Type}:List (Nat × α)->Nat->Option α
 | [],_=>none
 | (k,x)::r,n=>if k=n then some x else an r n
def aput {α:Type}:List (Nat × α)->Nat->α->List (Nat × α)
 | [],n,x=>[(n,x)]
 | (k,y)::r,n,x=>if k=n then (n,x)::r else (k,y)::aput r n x
abbrev Tab:=List (Nat × aL)
def aputs:Tab->List (Nat × aL)->Tab
 | T,[]=>T
 | T,(n,e)::r=>aputs (aput T n e) r
structure St where
 tmps:List (Nat × AV)
 tab:Tab
 sv:List (Nat × AV):=[]
def plain:Value->Bool
 | .bool _ | .int .. | .float .. | .complex .. | .string _ | .nilFunc | .nilIface | .pointer none | .map none | .chan none=>true
 | _=>false
def gi (x:Value):C:=
 if plain x then .d (.v x) else
 match x with
 | .slice none 0 0=>.nils
 | .func (.func f) first caps=>if first.size=0/\caps.size=0 then .fn f [] else .unk
 | _=>.unk
def jp:Value->AV
 | .agg cs=>.val true (cs.toList.map gi)
 | x=>.val false [gi x]
def g6:C->Option Value
 | .d (.v x)=>some x
 | _=>none
def kh:List C->Option (List Value)
 | []=>some []
 | c::r=>match g6 c,kh r with
  | some x,some xs=>some (x::xs)
  | _,_=>none
def ff:AV->Option Value
 | .val false [c]=>g6 c
 | .val true cs=>(kh cs).map fun xs=>.agg xs.toArray
 | _=>none
def hH:AV->Option (List C)
 | .val _ cs=>some cs
 | .tup _=>none
def MU:AV->Option (List C)
 | .val true cs=>some cs
 | _=>none
def de:AV->Option C
 | .val false [c]=>some c
 | _=>none
def okC:C->Bool
 | .unk | .und | .yld _ | .sub _ _ _=>false
 | _=>true
def nK:List C->Bool
 | []=>true
 | c::r=>okC c && nK r
def aH {α:Type}(P:Program):Sem α->Option α
 | .pure a=>some a
 | .program k=>aH P (k P)
 | .mark _ k=>aH P k
 | _=>none
def CG (toD:C->Option DC)(T:Tab):Cap->Option DC
 | .d x=>some x
 | .ptr n=>match an T n with
  | some (.box cs)=>(cs.mapM toD).map fun ds=>.cref ds 0
  | _=>none
def dt (T:Tab):Nat->C->Option DC
 | 0,_=>none
 | k+1,c=>match c with
  | .d x=>some x
  | .nils=>some (.sl [])
  | .ref n=>match an T n with
   | some (.own _ rows) | some (.imm rows)=>some (.sl rows)
   | _=>none
  | .ptr n off=>match an T n with
   | some (.box cs)=>(cs.mapM (dt T k)).map fun ds=>.cref ds off
   | _=>none
  | .eptr n i off=>match an T n with
   | some (.own _ rows) | some (.imm rows)=>(rows[i]?).map fun r=>.cref r off
   | _=>none
  | .fn f caps=>(caps.mapM (CG (dt T k) T)).map fun ds=>.fn f ds
  | _=>none
def yI (T:Tab):AV->Option DV
 | .val b cs=>(cs.mapM (dt T 4)).map fun ds=>(b,ds)
 | .tup _=>none
def bq (T:Tab):Nat->C->List Nat
 | 0,_=>[]
 | k+1,c=>match c with
  | .ref n | .eptr n _ _ | .sub n _ _=>[n]
  | .ptr n _=>n::(match an T n with | some (.box cs)=>cs.flatMap (bq T k) | _=>[])
  | .fn _ caps=>caps.flatMap fun | .ptr n=>n::(match an T n with | some (.box cs)=>cs.flatMap (bq T k) | _=>[]) | .d _=>[]
  | _=>[]
def im:DC->Bool
 | .v _=>false
 | .nan _=>false
 | .fn _ []=>false
 | _=>true
def jR (rows:List (List DC)):Bool:=rows.all fun r=>r.all fun d=>!im d
def dz:RC->Bool
 | .d x=>im x
 | .own _ rows=>!jR rows
 | .obj cs _=>cs.any im
def i7 (T:Tab):C->Option (DC × List (Nat × aL))
 | .d x=>some (x,[])
 | .nils=>some (.sl [],[])
 | .ref n=>match an T n with
  | some (.own _ rows)=>some (.sl rows,[(n,.imm rows)])
  | some (.imm rows)=>some (.sl rows,[])
  | _=>none
 | .fn f []=>some (.fn f [],[])
 | _=>none
def cQ (T:Tab):List C->Option (List DC × List (Nat × aL))
 | []=>some ([],[])
 | c::r=>match i7 T c with
  | none=>none
  | some (x,e)=>match cQ (aputs T e) r with
   | none=>none
   | some (xs,es)=>some (x::xs,e++es)
inductive AOp where
 | mv (x:Operand)
 | pick (c a b:Operand)
 | alloc (zero:List C)
 | box (x:Operand)
 | build (zero:List C) (parts:List (Nat × Nat × Operand))
 | bslice (sz n:Nat) (zero:List DC) (parts:List (Nat × Operand))
 | load (agg:Bool) (sz:Nat) (x:Operand)
 | store (sz:Nat) (x y:Operand)
 | faddr (off:Nat) (x:Operand)
 | iaddr (sz:Nat) (arr:Option Nat) (x i:Operand)
 | field (agg:Bool) (off sz:Nat) (x:Operand)
 | index (agg:Bool) (len sz:Nat) (x i:Operand)
 | slice (sz:Nat) (move:Bool) (x:Operand) (lo hi:Option Operand)
 | extract (i:Nat) (x:Operand)
 | mkfn (f:Nat) (caps:List Operand)
 | mkslice (sz bytes:Nat) (zero:List DC) (len cap:Operand)
 | len (x:Operand)
 | append (sz bytes:Nat) (x y:Operand)
 | copy (sz:Nat) (x y:Operand)
 | call (f:Nat) (args:List Operand)
 | calld (x:Operand) (args:List Operand)
 | nilchk (x:Operand)
 | bin (op:BinOp) (t:TypeId) (x y:Operand)
 | eqagg (neg:Bool) (x y:Operand)
 | pure (o:Oper)
 | bytes (x:Operand)
 | view (sz:Nat) (x:Operand) (lo hi:Option Operand)
 | aslice (sz n:Nat) (x:Operand)
 | ifc (t:TypeId) (x:Operand)
 | inv (m:String) (x:Operand) (args:List Operand)
 | bad
structure bp where
 dst:Option Nat
 op:AOp
 guard:Option (Nat × Bool)
def kG {α:Type}(sz:Nat):Nat->List α->List (List α)
 | 0,_=>[]
 | n+1,l=>l.take sz::kG sz n (l.drop sz)
def aeT:TypeDesc->Bool
 | .pointer _=>true
 | _=>false
def WQ (P:Program)(t:TypeId)(m:String):Option Nat:=
 match P.info? t,P.underlying t with
 | some i,some d=>match i.methods.find? (·.name == m) with
  | some q=>match q.path.toList,q.func,aeT d with
   | [],some (f,false),false=>some f
   | _,_,_=>none
  | none=>none
 | _,_=>none
structure Env where
 call:Nat->List DV->Option (List RV)
 seq:Nat->List DC->Option (List (List Value))
 io:Nat->List Nat
instance:CoeFun Env (fun _=>Nat->List DV->Option (List RV)):=⟨Env.call⟩
def evO (tmps:List (Nat × AV)):Operand->AV
 | .tmp t=>(an tmps t).getD (.val false [.unk])
 | .const v=>jp v
 | .func f=>.val false [.fn f []]
 | .global _=>.val false [.unk]
def splice {α:Type}(l:List α)(off:Nat)(xs:List α):List α:=l.take off++xs++l.drop (off+xs.length)
def ic (ρ:Operand->AV):List C->List (Nat × Nat × Operand)->Option (List C)
 | cs,[]=>some cs
 | cs,(off,sz,x)::r=>match hH (ρ x) with
  | some xs=>if xs.length=sz/\off+sz<=cs.length/\nK xs=true then ic ρ (splice cs off xs) r else none
  | none=>none
def fo (ρ:Operand->AV)(sz:Nat):Tab->List (List DC)->List (Nat × aL)->List (Nat × Operand)->Option (List (List DC) × List (Nat × aL))
 | _,rows,es,[]=>some (rows,es)
 | T,rows,es,(i,x)::r=>match hH (ρ x) with
  | some xs=>match cQ T xs with
   | some (ds,e)=>if xs.length=sz/\i < rows.length then fo ρ sz (aputs T e) (rows.set i ds) (es++e) r else none
   | none=>none
  | none=>none
def nE:AV->Option Int
 | .val false [.d (.v (.int _ n))]=>some n
 | _=>none
def ik:AV->Option Bool
 | .val false [.d (.v (.bool b))]=>some b
 | _=>none
def iC (b:Bool)(cs:List C):Option AV:=if b then some (.val true cs) else match cs with
 | [c]=>some (.val false [c])
 | _=>none
def jK (T:Tab):AV->Option (List (List DC))
 | .val false [.d (.sl rows)]=>some rows
 | .val false [.nils]=>some []
 | .val false [.ref n]=>match an T n with
  | some (.own _ rows) | some (.imm rows)=>some rows
  | _=>none
 | .val false [.sub n lo hi]=>match an T n with
  | some (.own _ rows) | some (.imm rows)=>some ((rows.take hi).drop lo)
  | _=>none
 | _=>none
def oF (T:Tab):C->Option (Nat × Nat × Nat)
 | .ref n=>match an T n with
  | some (.own _ rows)=>some (n,0,rows.length)
  | _=>none
 | .sub n lo hi=>some (n,lo,hi)
 | _=>none
def eS (sz:Nat)(rows:List (List DC)):Bool:=rows.all fun r=>r.length == sz
def cu (rows:List (List DC))(i:Nat):List DC:=rows.getD i []
def bF (ρ:Operand->AV)(dflt:Int):Option Operand->Option Int
 | none=>some dflt
 | some x=>nE (ρ x)
def sX (ρ:Operand->AV):List Operand->Option (List Cap)
 | []=>some []
 | x::r=>match de (ρ x),sX ρ r with
  | some (.ptr n 0),some cs=>some (.ptr n::cs)
  | some (.d y),some cs=>some (.d y::cs)
  | _,_=>none
def fy (T:Tab)(ρ:Operand->AV):List Operand->Option (List DV)
 | []=>some []
 | x::r=>match yI T (ρ x),fy T ρ r with
  | some d,some ds=>some (d::ds)
  | _,_=>none
def ci:DV->Option (List DC × Nat)
 | (false,[.mref cs off])=>some (cs,off)
 | _=>none
def ZL:C->Option DC
 | .d x=>some x
 | .nils=>some (.sl [])
 | _=>none
def bA (T:Tab):AV->List Nat
 | .val _ cs=>cs.flatMap (bq T 4)
 | .tup _=>[]
def aeC (T:Tab):C->Option (DC × List Nat)
 | .d x=>some (x,[])
 | .nils=>some (.osl 0 [],[])
 | .ref n=>match an T n with
  | some (.own (s+1) rows)=>some (.osl (s+1) rows,[n])
  | some (.imm rows)=>some (.sl rows,[])
  | _=>none
 | _=>none
def y6 (T:Tab):List C->Option (List DC × List Nat)
 | []=>some ([],[])
 | c::r=>match aeC T c,y6 T r with
  | some (x,l),some (xs,ls)=>some (x::xs,l++ls)
  | _,_=>none
def jH (T:Tab)(ρ:Operand->AV)(io:List Nat):Nat->List Operand->Option (List DV × List Nat × List Nat × List Nat)
 | _,[]=>some ([],[],[],[])
 | k,x::r=>match jH T ρ io (k+1) r with
  | none=>none
  | some (ds,ns,is,ms)=>match io.any fun i=>i == k with
   | true=>match de (ρ x) with
    | some (.ptr n off)=>match an T n with
     | some (.box cs)=>match y6 T cs with
      | some (l,is1)=>some ((false,[.mref l off])::ds,n::ns,is1++is,ms)
      | none=>none
     | _=>none
    | _=>none
   | false=>match yI T (ρ x) with
    | some d=>some (d::ds,ns,is,bA T (ρ x)++ms)
    | none=>none
def ae9:List Nat->List Nat->Bool
 | [],_=>true
 | n::r,ms=>!(r.any fun m=>m == n) && !(ms.any fun m=>m == n) && ae9 r ms
def bw (base:Nat):Nat->List RC->List C × List (Nat × aL)
 | _,[]=>([],[])
 | j,.d x::r=>(.d x::(bw base (j+1) r).1,(bw base (j+1) r).2)
 | j,.own sz rows::r=>(.ref (base+10000*j)::(bw base (j+1) r).1,(base+10000*j,.own sz rows)::(bw base (j+1) r).2)
 | j,.obj cs off::r=>(.ptr (base+10000*j) off::(bw base (j+1) r).1,(base+10000*j,.box (cs.map .d))::(bw base (j+1) r).2)
def bc (base:Nat):Nat->List RV->List (Bool × List C) × List (Nat × aL)
 | _,[]=>([],[])
 | i,(b,cs)::r=>((b,(bw (base+640000*i) 0 cs).1)::(bc base (i+1) r).1,(bw (base+640000*i) 0 cs).2++(bc base (i+1) r).2)
def zy:List (Bool × List C)->AV
 | [(b,cs)]=>.val b cs
 | xs=>.tup xs
def aS (T:Tab):List Nat->List (Nat × aL)
 | []=>[]
 | n::r=>match an T n with
  | some (.own _ rows)=>(n,.imm rows)::aS (aput T n (.imm rows)) r
  | some (.box _)=>(n,.dead)::aS (aput T n .dead) r
  | _=>aS T r
def pz (n:Nat):List (Nat × aL)->Bool
 | []=>true
 | p::r=>if p.1=n then false else pz n r
def bS (T:Tab):List (Nat × aL)->Bool
 | []=>true
 | p::r=>(an T p.1).isNone && pz p.1 r && bS T r
def cH (base:Nat)(T:Tab)(names:List Nat)(res:List RV):Option (AV × List (Nat × aL)):=
 let frz:=if names.isEmpty then [] else if res.any (fun r=>r.2.any dz) then aS T names else []
 let es:=(bc base 0 res).2
 if bS (aputs T frz) es then some (zy (bc base 0 res).1,frz++es) else none
def y7:List Nat->List (Bool × List C)->Option (List (Nat × aL))
 | [],[]=>some []
 | n::ns,(true,cs)::r=>match y7 ns r with
  | some es=>some ((n,.box cs)::es)
  | none=>none
 | _,_=>none
def IA (is:List Nat):List (Nat × aL):=is.map fun n=>(n,.dead)
def abG (T:Tab)(frz es:List (Nat × aL))(l:List (Bool × List C))(ns is:List Nat):Option (AV × List (Nat × aL)):=
 match y7 ns (l.drop (l.length - ns.length)) with
 | some bs=>if bS (aputs T frz) es then some (zy (l.take (l.length - ns.length)),frz++(es++(IA is++bs))) else none
 | none=>none
def ek (base:Nat)(T:Tab)(names ns is:List Nat)(res:List RV):Option (AV × List (Nat × aL)):=
 let frz:=if names.isEmpty then [] else if res.any (fun r=>r.2.any dz) then aS T names else []
 abG T frz (bc base 0 res).2 (bc base 0 res).1 ns is
def di (P:Program)(op:BinOp)(t:TypeId)(x y:Operand)(a b:Value):Option Value:=
 aH P (do eqGuard op t x y a b;binOp op t a b)
def H9:List Value->List Value->Option Bool
 | [],[]=>some true
 | a::r,b::s=>match a,b with
  | .int k x,.int k' y=>if k=k' then (H9 r s).map fun e=>x == y && e else none
  | .bool x,.bool y=>(H9 r s).map fun e=>x == y && e
  | _,_=>none
 | _,_=>none
def dC (ρ:Operand->AV):Operand->Option Value
 | .func f=>some (.func (.func f) #[] #[])
 | x=>ff (ρ x)
def L2:AV->Option (FloatKind × Option Nat)
 | .val false [.d (.v (.float k n))]=>some (k,some n)
 | .val false [.d (.nan k)]=>some (k,none)
 | _=>none
def eT (op:BinOp)(k:FloatKind)(x y:Nat):Option Nat:=
 match op with
 | .add=>k.format.add x y
 | .sub=>k.format.sub x y
 | .mul=>k.format.mul x y
 | _=>k.format.div x y
def arN (op:BinOp)(k:FloatKind):Option Nat->Option Nat->Option C
 | some m,some n=>match eT op k m n with
  | none=>some (.d (.nan k))
  | some _=>none
 | _,_=>some (.d (.nan k))
def cmN (b:Bool):Option Nat->Option Nat->Option C
 | some _,some _=>none
 | _,_=>some (.d (.v (.bool b)))
def mE (op:BinOp)(x y:AV):Option C:=
 match L2 x,L2 y with
 | some (k,a),some (k',b)=>if k=k' then
   match op with
   | .add | .sub | .mul | .quo=>arN op k a b
   | .eql | .lss | .leq | .gtr | .geq=>cmN false a b
   | .neq=>cmN true a b
   | _=>none
  else none
 | _,_=>none
def ah3:AV->Bool
 | .val false [.ptr _ _] | .val false [.eptr _ _ _] | .val false [.d (.cref _ _)]=>true
 | _=>false
def ajr:AV->Bool
 | .val false [.d (.v (.pointer none))]=>true
 | _=>false
def agm (P:Program)(op:BinOp)(t:TypeId)(x y:AV):Option Bool:=
 match P.underlying t with
 | some (.pointer _)=>if ah3 x && ajr y then (match op with | .eql=>some false | .neq=>some true | _=>none) else none
 | _=>none
def xX (P:Program)(op:BinOp)(t:TypeId)(x y:AV):Option C:=
 match agm P op t x y with
 | some b=>some (.d (.v (.bool b)))
 | none=>mE op x y
def dp (P:Program)(o:Op)(ρ:Operand->AV):Option FloatKind:=
 match o with
 | .convert src d x=>match P.underlying src,P.underlying d,L2 (ρ x) with
  | some _,some (.float kk),some (s,b)=>if s=kk then (match b with | none=>some kk | some _=>none) else
    (match b with | none=>some kk | some n=>if bM s n then some kk else none)
  | _,_,_=>none
 | .call c=>match c.callee,c.args.toList with
  | .value (.func f),[x]=>match P.funcs[f]?,L2 (ρ x) with
   | some fn, some (.f64, b) => if fn.name = "math.archTrunc" ∧ fn.body.isNone = true ∧ (Extern.findNext fn).isNone = true then (match b with | none => some .f64 | some n => if bM .f64 n then some .f64 else none) else none
   | _,_=>none
  | _,_=>none
 | _=>none
def eff (P:Program)(E:Env)(T:Tab)(ρ:Operand->AV)(dst:Nat):AOp->Option (AV × List (Nat × aL))
 | .mv x=>some (ρ x,[])
 | .pick c a b=>match ik (ρ c) with
  | some t=>some (if t then ρ a else ρ b,[])
  | none=>none
 | .alloc zero=>if (an T dst).isNone then some (.val false [.ptr dst 0],[(dst,.box zero)]) else none
 | .box x=>match hH (ρ x) with
  | some cs=>if (an T dst).isNone/\nK cs=true then some (.val false [.ptr dst 0],[(dst,.box cs)]) else none
  | none=>none
 | .build zero parts=>(ic ρ zero parts).map fun cs=>(.val true cs,[])
 | .bslice sz n zero parts=>match fo ρ sz T (List.replicate n zero) [] parts with
  | some (rows,es)=>if (an (aputs T es) dst).isNone then some (.val false [.ref dst],es++[(dst,.own sz rows)]) else none
  | none=>none
 | .load agg sz x=>match de (ρ x) with
  | some (.ptr n off)=>match an T n with
   | some (.box cs)=>if off+sz<=cs.length then (iC agg ((cs.drop off).take sz)).map fun y=>(y,[]) else none
   | _=>none
  | some (.eptr n i off)=>match an T n with
   | some (.own _ rows) | some (.imm rows)=>
    if i < rows.length/\off+sz<=(cu rows i).length then (iC agg ((((cu rows i).drop off).take sz).map .d)).map fun y=>(y,[]) else none
   | _=>none
  | some (.d (.cref cs off))=>if off+sz<=cs.length then (iC agg (((cs.drop off).take sz).map .d)).map fun y=>(y,[]) else none
  | _=>none
 | .store sz x y=>match hH (ρ y),de (ρ x) with
  | some ys,some (.ptr n off)=>match an T n with
   | some (.box cs)=>if ys.length=sz/\off+sz<=cs.length/\nK ys=true then some (.val false [.und],[(n,.box (splice cs off ys))]) else none
   | _=>none
  | some ys,some (.eptr n i off)=>match cQ T ys with
   | some (ds,es)=>match an (aputs T es) n with
    | some (.own s rows)=>if ys.length=sz/\i < rows.length/\off+sz<=(cu rows i).length then some (.val false [.und],es++[(n,.own s (rows.set i (splice (cu rows i) off ds)))]) else none
    | _=>none
   | none=>none
  | _,_=>none
 | .faddr off x=>match de (ρ x) with
  | some (.ptr n o)=>some (.val false [.ptr n (o+off)],[])
  | some (.eptr n i o)=>some (.val false [.eptr n i (o+off)],[])
  | some (.d (.cref cs o))=>some (.val false [.d (.cref cs (o+off))],[])
  | _=>none
 | .iaddr sz none x i=>match nE (ρ i),de (ρ x) with
  | some z,some (.d (.sl rows))=>if 0<=z/\z < rows.length/\(cu rows z.toNat).length=sz then some (.val false [.d (.cref (cu rows z.toNat) 0)],[]) else none
  | some z,some (.ref n)=>match an T n with
   | some (.own _ rows) | some (.imm rows)=>if 0<=z/\z < rows.length/\(cu rows z.toNat).length=sz then some (.val false [.eptr n z.toNat 0],[]) else none
   | _=>none
  | _,_=>none
 | .iaddr sz (some len) x i=>match nE (ρ i),de (ρ x) with
  | some z,some (.ptr n o)=>if 0<=z/\z < len then some (.val false [.ptr n (o+z.toNat*sz)],[]) else none
  | some z,some (.eptr n k o)=>if 0<=z/\z < len then some (.val false [.eptr n k (o+z.toNat*sz)],[]) else none
  | some z,some (.d (.cref cs o))=>if 0<=z/\z < len then some (.val false [.d (.cref cs (o+z.toNat*sz))],[]) else none
  | _,_=>none
 | .field agg off sz x=>match MU (ρ x) with
  | some cs=>if off+sz<=cs.length then (iC agg ((cs.drop off).take sz)).map fun y=>(y,[]) else none
  | none=>none
 | .index agg len sz x i=>match MU (ρ x),nE (ρ i) with
  | some cs,some z=>if 0<=z/\z < len/\z.toNat*sz+sz<=cs.length then (iC agg ((cs.drop (z.toNat*sz)).take sz)).map fun y=>(y,[]) else none
  | _,_=>none
 | .slice sz move x lo hi=>match de (ρ x) with
  | some (.d (.sl rows))=>match bF ρ 0 lo,bF ρ rows.length hi with
   | some l,some h=>if 0<=l/\l<=h/\h<=rows.length/\eS sz rows=true then some (.val false [.d (.sl ((rows.take h.toNat).drop l.toNat))],[]) else none
   | _,_=>none
  | some (.nils)=>match bF ρ 0 lo,bF ρ 0 hi with
   | some l,some h=>if l=0/\h=0 then some (.val false [.nils],[]) else none
   | _,_=>none
  | some (.ref n)=>match an T n with
   | some (.own s rows)=>match bF ρ 0 lo,bF ρ rows.length hi with
    | some l,some h=>
     if 0<=l/\l<=h/\h<=rows.length/\s=sz then
      if move then (if (an T dst).isNone then some (.val false [.ref dst],[(n,.dead),(dst,.own s ((rows.take h.toNat).drop l.toNat))]) else none)
      else some (.val false [.d (.sl ((rows.take h.toNat).drop l.toNat))],[(n,.imm rows)])
     else none
    | _,_=>none
   | some (.imm rows)=>match bF ρ 0 lo,bF ρ rows.length hi with
    | some l,some h=>if 0<=l/\l<=h/\h<=rows.length/\eS sz rows=true then some (.val false [.d (.sl ((rows.take h.toNat).drop l.toNat))],[]) else none
    | _,_=>none
   | _=>none
  | _=>none
 | .extract i x=>match ρ x with
  | .tup l=>(l[i]?).map fun p=>(.val p.1 p.2,[])
  | _=>none
 | .mkfn f caps=>(sX ρ caps).map fun cs=>(.val false [.fn f cs],[])
 | .mkslice sz bytes zero len cap=>match nE (ρ len),nE (ρ cap) with
  | some l,some c=>if 0<=l/\l<=c/\bytes*c<=140737488355328/\c<=9223372036854775807/\(an T dst).isNone then some (.val false [.ref dst],[(dst,.own sz (List.replicate l.toNat zero))]) else none
  | _,_=>none
 | .len x=>(jK T (ρ x)).map fun rows=>(.val false [.d (.v (.int .i64 rows.length))],[])
 | .append sz bytes x y=>match jK T (ρ y) with
  | some rows2=>match de (ρ x) with
   | some .nils=>if eS sz rows2/\rows2.length*bytes<=140737488355328/\rows2.length<=9223372036854775807/\(an T dst).isNone then some (.val false [.ref dst],[(dst,.own sz rows2)]) else none
   | some (.ref n)=>match an T n with
    | some (.own s rows)=>
     if s=sz/\eS sz rows2/\(rows.length+rows2.length)*bytes<=140737488355328/\rows.length+rows2.length<=9223372036854775807/\(an T dst).isNone then some (.val false [.ref dst],[(n,.dead),(dst,.own sz (rows++rows2))]) else none
    | _=>none
   | _=>none
  | none=>none
 | .copy sz x y=>match jK T (ρ y),(de (ρ x)).bind (oF T) with
  | some rows2,some (n,lo,hi)=>match an T n with
   | some (.own s rows)=>if s=sz/\eS sz rows2=true/\lo < hi/\hi<=rows.length then
     some (.val false [.d (.v (.int .i64 (min rows2.length (hi - lo):Nat)))],[(n,.own s (splice rows lo (rows2.take (hi - lo))))]) else none
   | _=>none
  | _,_=>none
 | .view sz x lo hi=>match de (ρ x) with
  | some (.ref n)=>match an T n with
   | some (.own s rows)=>match bF ρ 0 lo,bF ρ rows.length hi with
    | some l,some h=>if 0<=l/\l<=h/\h<=rows.length/\s=sz then (if l < h then some (.val false [.sub n l.toNat h.toNat],[]) else some (.val false [.d (.sl [])],[])) else none
    | _,_=>none
   | _=>none
  | _=>none
 | .aslice sz n x=>match de (ρ x) with
  | some (.d (.cref cs off))=>if off+n*sz<=cs.length/\0 < sz/\0 < n then some (.val false [.d (.sl (kG sz n (cs.drop off)))],[]) else none
  | _=>none
 | .call f args=>match E.io f with
  | []=>match fy T ρ args with
   | some ds=>match E f ds with
    | some res=>cH dst T (args.flatMap fun x=>bA T (ρ x)) res
    | none=>none
   | none=>none
  | i::io=>match jH T ρ (i::io) 0 args with
   | some (ds,ns,is,ms)=>match ae9 (ns++is) ms with
    | true=>match E f ds with
     | some res=>ek dst T ms ns is res
     | none=>none
    | false=>none
   | none=>none
 | .calld x args=>match de (ρ x),fy T ρ args with
  | some c,some ds=>match dt T 4 c with
   | some (.fn f caps)=>match E f (ds++caps.map fun d=>(false,[d])) with
    | some res=>cH dst T (bq T 4 c++args.flatMap fun x=>bA T (ρ x)) res
    | none=>none
   | _=>none
  | _,_=>none
 | .ifc t x=>match ρ x with
  | .val b xs=>match cQ T xs with
   | some (ds,es)=>some (.val false [.d (.ifc t b ds)],es)
   | none=>none
  | .tup _=>none
 | .inv m x args=>match de (ρ x),fy T ρ args with
  | some (.d (.ifc t b cs)),some ds=>match WQ P t m with
   | some f=>match E f ((b,cs)::ds) with
    | some res=>cH dst T (args.flatMap fun x=>bA T (ρ x)) res
    | none=>none
   | none=>none
  | _,_=>none
 | .nilchk x=>match de (ρ x) with
  | some (.ptr _ _) | some (.eptr _ _ _) | some (.d (.cref _ _)) | some (.fn _ _) | some (.d (.fn _ _))=>some (ρ x,[])
  | _=>none
 | .bin op t x y=>match ff (ρ x),ff (ρ y) with
  | some a,some b=>match di P op t x y a b with
   | some v=>some (jp v,[])
   | none=>(mE op (ρ x) (ρ y)).map fun c=>(.val false [c],[])
  | _,_=>(xX P op t (ρ x) (ρ y)).map fun c=>(.val false [c],[])
 | .eqagg neg x y=>match hH (ρ x),hH (ρ y) with
  | some xs,some ys=>match kh xs,kh ys with
   | some as,some bs=>(H9 as bs).map fun e=>(.val false [.d (.v (.bool (if neg then !e else e)))],[])
   | _,_=>none
  | _,_=>none
 | .pure o=>match dp P o.op ρ with
  | some k=>some (.val false [.d (.nan k)],[])
  | none=>match o.op.operands.toList.all fun x=>(dC ρ x).isSome with
   | true=>match aH P (execOp (fun x=>(dC ρ x).getD undef) o) with
    | some (.value v)=>some (jp v,[])
    | _=>none
   | false=>none
 | .bytes x=>match ff (ρ x) with
  | some (.string s)=>if s.size<=9223372036854775807/\(an T dst).isNone then some (.val false [.ref dst],[(dst,.own 1 (s.data.toList.map fun b=>[.v (.int .u8 b.toNat)]))]) else none
  | _=>none
 | .bad=>none
open Go.RowKit
def awc:Bool->List Value->Value->Prop
 | true,xs,v=>v=.agg xs.toArray
 | false,xs,v=>xs=[v]
inductive aX (w:World) (N:Nat->Prop):DC->Value->Prop
 | v {x:Value} (h:plain x=true):aX w N (.v x) x
 | nan {k:FloatKind} {n:Nat} (h:bM k n=true):aX w N (.nan k) (.float k n)
 | nil {a:Option Addr} {cap:Nat}:aX w N (.sl []) (.slice a 0 cap)
 | sl {rows:List (List DC)} {b off cap sz:Nat} (f:Nat->Nat->Value)
   (hne:0 < rows.length) (hN:¬ N b) (hb:b < w.heap.size) (hsz:0 < sz) (hl:∀ r ∈ rows,r.length=sz) (hcap:rows.length<=cap)
   (hc:∀ i j,i < rows.length->j < sz->w.cell? ⟨b,off+i*sz+j,none⟩=some (f i j))
   (hd:∀ (i j:Nat) (r:List DC) (d:DC),rows[i]?=some r->r[j]?=some d->aX w N d (f i j)) :
   aX w N (.sl rows) (.slice (some ⟨b,off,none⟩) rows.length cap)
 | fn {f:Nat} {caps:List DC} {cs:Array Value} (hl:caps.length=cs.size) (hd:∀ (i:Nat) (d:DC) (c:Value),caps[i]?=some d->cs[i]?=some c->aX w N d c) :
   aX w N (.fn f caps) (.func (.func f) #[] cs)
 | cref {cs:List DC} {b o off:Nat} (f:Nat->Value) (hN:¬ N b) (hb:b < w.heap.size)
   (hc:∀ j,j < cs.length->w.cell? ⟨b,o+j,none⟩=some (f j)) (hd:∀ (j:Nat) (d:DC),cs[j]?=some d->aX w N d (f j)) :
   aX w N (.cref cs off) (.pointer (some ⟨b,o+off,none⟩))
 | ifc {t:TypeId} {agg:Bool} {cs:List DC} {v:Value} (xs:List Value) (hx:awc agg xs v) (hl:cs.length=xs.length) (hd:∀ (i:Nat) (d:DC) (c:Value),cs[i]?=some d->xs[i]?=some c->aX w N d c) :
   aX w N (.ifc t agg cs) (.iface t v)
theorem sM {w w':World}{b o:Nat}(h:w'.heap[b]?=w.heap[b]?):w'.cell? ⟨b,o,none⟩=w.cell? ⟨b,o,none⟩:=by simp [World.cell?,h]
theorem aX.mono {w w':World}{N N':Nat->Prop}(hs:w.heap.size<=w'.heap.size)(hh:∀ b,b < w.heap.size->¬ N b->w'.heap[b]?=w.heap[b]?)
  (hn:∀ b,b < w.heap.size->N' b->N b) {d:DC} {v:Value} (h:aX w N d v):aX w' N' d v:=by
 induction h with
 | v h=>exact .v h
 | nan h=>exact .nan h
 | nil=>exact .nil
 | @sl rows b off cap sz f hne hN hb hsz hl hcap hc hd ih=>
  exact .sl f hne (fun h=>hN (hn _ hb h)) (Nat.lt_of_lt_of_le hb hs) hsz hl hcap (fun i j hi hj=>(sM (hh _ hb hN)).trans (hc i j hi hj)) ih
 | fn hl hd ih=>exact .fn hl ih
 | cref f hN hb hc hd ih=>
  exact .cref f (fun h=>hN (hn _ hb h)) (Nat.lt_of_lt_of_le hb hs) (fun j hj=>(sM (hh _ hb hN)).trans (hc j hj)) ih
 | ifc xs hx hl hd ih=>exact .ifc xs hx hl ih
structure Gh where
 blk:Nat->Option Nat
 sv:Nat->Value
 st:Nat->Nat
def live (T:Tab)(n:Nat):Prop:=
 match an T n with
 | some (.box _) | some (.own _ _)=>True
 | _=>False
def aB (N0:Nat->Prop)(g:Gh)(T:Tab):Nat->Prop:=fun b=>N0 b\/∃ n,live T n/\g.blk n=some b
def DW (w:World)(N:Nat->Prop)(g:Gh)(T:Tab):Cap->Value->Prop
 | .d x,v=>aX w N x v
 | .ptr n,v=>(an T n).isSome/\∃ b,g.blk n=some b/\v=.pointer (some ⟨b,0,none⟩)
def dr (w:World)(N:Nat->Prop)(g:Gh)(T:Tab):C->Value->Prop
 | .d x,v=>aX w N x v
 | .nils,v=>v=.slice none 0 0
 | .und,v=>v=undef
 | .unk,_=>True
 | .yld l,v=>v=.func (.yield l) #[] #[]
 | .sub n lo hi,v=>(an T n).isSome/\lo < hi/\∃ b o len cap cap',g.sv n=.slice (some ⟨b,o,none⟩) len cap/\hi<=len/\v=.slice (some ⟨b,o+lo*g.st n,none⟩) (hi - lo) cap'
 | .ref n,v=>(an T n).isSome/\v=g.sv n/\∃ a l c,v=.slice a l c
 | .ptr n off,v=>(an T n).isSome/\∃ b,g.blk n=some b/\v=.pointer (some ⟨b,off,none⟩)
 | .eptr n i off,v=>(an T n).isSome/\∃ b o len cap,g.sv n=.slice (some ⟨b,o,none⟩) len cap/\v=.pointer (some ⟨b,o+i*g.st n+off,none⟩)
 | .fn f caps,v=>∃ cs:Array Value,v=.func (.func f) #[] cs/\caps.length=cs.size/\∀ (i:Nat) (c:Cap) (x:Value),caps[i]?=some c->cs[i]?=some x->DW w N g T c x
def cv (w:World)(N:Nat->Prop)(sz:Nat)(rows:List (List DC))(v:Value)(ob:Option Nat):Prop:=
 (v=.slice none 0 0/\rows=[]/\ob=none) \/
 ∃ b off cap cells t fz,ob=some b/\v=.slice (some ⟨b,off,none⟩) rows.length cap/\w.heap[b]?=some (.cells cells t fz)/\rows.length<=cap/\cap<=maxLen /\
  off+cap*sz<=cells.size/\(∀ j,off<=j->j < off+cap*sz->(decide (fz.1<=j) && decide (j < fz.2))=false)/\(∀ r ∈ rows,r.length=sz)/\0 < sz /\
  ∀ (i j:Nat) (r:List DC) (d:DC),rows[i]?=some r->r[j]?=some d->∃ c,cells[off+i*sz+j]?=some c/\aX w N d c
def zq (w:World)(N:Nat->Prop)(g:Gh)(T:Tab)(n:Nat):aL->Prop
 | .box cs=>∃ b cells t,g.blk n=some b/\w.heap[b]?=some (.cells cells t (0,0))/\cells.size=cs.length/\(∀ (i:Nat) (c:C) (x:Value),cs[i]?=some c->cells[i]?=some x->dr w N g T c x) /\
   ∀ (i:Nat) (c:C),cs[i]?=some c->okC c=true
 | .own sz rows=>cv w N sz rows (g.sv n) (g.blk n)/\g.st n=sz
 | .imm rows=>aX w N (.sl rows) (g.sv n)/\∀ r ∈ rows,r.length=g.st n
 | .dead=>True
structure fC where
 w:World
 own:Nat->Prop
structure yb (w0:fC)(w w':World):Prop where
 os:w'.os=w.os
 tape:w'.tape=w.tape
 output:w'.output=w.output
 size:w.heap.size<=w'.heap.size
 block:∀ k,k < w0.w.heap.size->¬ w0.own k->w'.heap[k]?=w.heap[k]?
theorem yb.refl {w0:fC}{w:World}:yb w0 w w:=⟨rfl,rfl,rfl,Nat.le_refl _,fun _ _ _=>rfl⟩
theorem yb.trans {w0:fC}{a b c:World}(h:yb w0 a b)(k:yb w0 b c):yb w0 a c:=
 ⟨k.os.trans h.os,k.tape.trans h.tape,k.output.trans h.output,Nat.le_trans h.size k.size,fun i hi ho=>(k.block i hi ho).trans (h.block i hi ho)⟩
theorem yb.of {w0:fC}{w w':World}(h:Below w.heap.size w w')(hs:w0.w.heap.size<=w.heap.size):yb w0 w w':=⟨h.os,h.tape,h.output,h.size,fun k hk _=>h.block k (Nat.lt_of_lt_of_le hk hs)⟩
structure Mem (w0:fC)(N0:Nat->Prop)(g:Gh)(T:Tab)(w:World):Prop where
 below:yb w0 w0.w w
 ents:∀ n e,an T n=some e->zq w (aB N0 g T) g T n e
 inj:∀ n m b,live T n->live T m->g.blk n=some b->g.blk m=some b->n=m
 rng:∀ n b,live T n->g.blk n=some b->(w0.w.heap.size<=b\/w0.own b)/\b < w.heap.size
 n0:∀ b,N0 b->b < w0.w.heap.size/\¬ w0.own b
def gq (w:World)(N:Nat->Prop)(g:Gh)(T:Tab)(agg:Bool)(cs:List C)(v:Value):Prop:=
 match agg with
 | true=>∃ xs:Array Value,v=.agg xs/\cs.length=xs.size/\∀ (i:Nat) (c:C) (x:Value),cs[i]?=some c->xs[i]?=some x->dr w N g T c x
 | false=>∃ c,cs=[c]/\dr w N g T c v
def aT (w:World)(N:Nat->Prop)(g:Gh)(T:Tab):AV->Value->Prop
 | .val agg cs,v=>gq w N g T agg cs v
 | .tup l,v=>∃ xs:Array Value,v=.tuple xs/\l.length=xs.size/\∀ (i:Nat) (p:Bool × List C) (x:Value),l[i]?=some p->xs[i]?=some x->gq w N g T p.1 p.2 x
theorem bx {α:Type}(l:List (Nat × α))(n:Nat)(x:α):an (aput l n x) n=some x:=by
 induction l with
 | nil=>simp [aput,an]
 | cons p r ih=>
  obtain⟨k,y⟩:=p;by_cases h:k=n
  ·simp [aput,h,an]
  ·simp [aput,h,an,ih]
theorem bJ {α:Type}(l:List (Nat × α)){n m:Nat}(x:α)(h:m ≠ n):an (aput l n x) m=an l m:=by
 induction l with
 | nil=>simp [aput,an,Ne.symm h]
 | cons p r ih=>
  obtain⟨k,y⟩:=p;by_cases hk:k=n
  ·subst hk;simp [aput,an,Ne.symm h]
  ·simp [aput,hk,an,ih]
theorem cM {α:Type}(l:List (Nat × α))(n m:Nat)(x:α):an (aput l n x) m=if m=n then some x else an l m:=by
 by_cases h:m=n
 ·subst h;simp [bx]
 ·simp [h,bJ]
theorem gx {T:Tab}{n m:Nat}{e:aL}(h:(an T m).isSome):(an (aput T n e) m).isSome:=by
 rw [cM];split
 ·rfl
 ·exact h
theorem DW.mono {w w':World}{N N':Nat->Prop}{g g':Gh}{T T':Tab}(hd:∀ d v,aX w N d v->aX w' N' d v)(hT:∀ n,(an T n).isSome->(an T' n).isSome)
  (hg:∀ n,(an T n).isSome->g'.blk n=g.blk n/\g'.sv n=g.sv n/\g'.st n=g.st n) {c:Cap} {v:Value} (h:DW w N g T c v):DW w' N' g' T' c v:=by
 cases c with
 | d x=>exact hd _ _ h
 | ptr n=>exact⟨hT n h.1,by rw [(hg n h.1).1];exact h.2⟩
theorem dr.mono {w w':World}{N N':Nat->Prop}{g g':Gh}{T T':Tab}(hd:∀ d v,aX w N d v->aX w' N' d v)(hT:∀ n,(an T n).isSome->(an T' n).isSome)
  (hg:∀ n,(an T n).isSome->g'.blk n=g.blk n/\g'.sv n=g.sv n/\g'.st n=g.st n) {c:C} {v:Value} (h:dr w N g T c v):dr w' N' g' T' c v:=by
 cases c with
 | d x=>exact hd _ _ h
 | nils=>exact h
 | und=>exact h
 | unk=>trivial
 | yld l=>exact h
 | sub n lo hi=>exact⟨hT n h.1,by rw [(hg n h.1).2.1,(hg n h.1).2.2];exact h.2⟩
 | ref n=>exact⟨hT n h.1,by rw [(hg n h.1).2.1];exact h.2⟩
 | ptr n off=>exact⟨hT n h.1,by rw [(hg n h.1).1];exact h.2⟩
 | eptr n i off=>exact⟨hT n h.1,by rw [(hg n h.1).2.1,(hg n h.1).2.2];exact h.2⟩
 | fn f caps=>
  obtain⟨cs,h1,h2,h3⟩:=h;exact⟨cs,h1,h2,fun i c x hc hx=>(h3 i c x hc hx).mono hd hT hg⟩
theorem gq.mono {w w':World}{N N':Nat->Prop}{g g':Gh}{T T':Tab}(hm:∀ c v,dr w N g T c v->dr w' N' g' T' c v){b:Bool}{cs:List C}{v:Value}(h:gq w N g T b cs v):gq w' N' g' T' b cs v:=by
 cases b with
 | true=>
  obtain⟨xs,h1,h2,h3⟩:=h;exact⟨xs,h1,h2,fun i c x hc hx=>hm _ _ (h3 i c x hc hx)⟩
 | false=>
  obtain⟨c,h1,h2⟩:=h;exact⟨c,h1,hm _ _ h2⟩
theorem aT.mono {w w':World}{N N':Nat->Prop}{g g':Gh}{T T':Tab}(hm:∀ c v,dr w N g T c v->dr w' N' g' T' c v){x:AV}{v:Value}(h:aT w N g T x v):aT w' N' g' T' x v:=by
 cases x with
 | val b cs=>exact gq.mono hm h
 | tup l=>
  obtain⟨xs,h1,h2,h3⟩:=h;exact⟨xs,h1,h2,fun i p x hp hx=>(h3 i p x hp hx).mono hm⟩
variable {w0:fC}{w w':World}{N0:Nat->Prop}{g g':Gh}{T T':Tab}
structure bg (N0:Nat->Prop)(g:Gh)(T:Tab)(w:World)(g':Gh)(T':Tab)(w':World):Prop where
 d:∀ d v,aX w (aB N0 g T) d v->aX w' (aB N0 g' T') d v
 t:∀ n,(an T n).isSome->(an T' n).isSome
 g:∀ n,(an T n).isSome->g'.blk n=g.blk n/\g'.sv n=g.sv n/\g'.st n=g.st n
theorem bg.c (h:bg N0 g T w g' T' w'){c:C}{v:Value}(hc:dr w (aB N0 g T) g T c v):dr w' (aB N0 g' T') g' T' c v:=hc.mono h.d h.t h.g
theorem bg.a (h:bg N0 g T w g' T' w'){x:AV}{v:Value}(hc:aT w (aB N0 g T) g T x v):aT w' (aB N0 g' T') g' T' x v:=hc.mono fun _ _=>h.c
theorem bg.refl:bg N0 g T w g T w:=⟨fun _ _ h=>h,fun _ h=>h,fun _ _=>⟨rfl,rfl,rfl⟩⟩
theorem bg.trans {w'':World}{g'':Gh}{T'':Tab}(h:bg N0 g T w g' T' w')(k:bg N0 g' T' w' g'' T'' w''):bg N0 g T w g'' T'' w'':=
 ⟨fun d v x=>k.d d v (h.d d v x),fun n x=>k.t n (h.t n x),fun n x=>by
  obtain⟨a1,a2,a3⟩:=h.g n x;obtain⟨b1,b2,b3⟩:=k.g n (h.t n x);exact⟨b1.trans a1,b2.trans a2,b3.trans a3⟩⟩
theorem bg.of (hs:w.heap.size<=w'.heap.size)(hh:∀ b,b < w.heap.size->¬ aB N0 g T b->w'.heap[b]?=w.heap[b]?)(hn:∀ b,b < w.heap.size->aB N0 g' T' b->aB N0 g T b)
  (ht:∀ n,(an T n).isSome->(an T' n).isSome) (hg:∀ n,(an T n).isSome->g'.blk n=g.blk n/\g'.sv n=g.sv n/\g'.st n=g.st n):bg N0 g T w g' T' w':=
 ⟨fun _ _ h=>h.mono hs hh hn,ht,hg⟩
theorem eL {n:Nat}{e:aL}(h:an T n=some e):(an T n).isSome:=by rw [h];rfl
theorem bV {n:Nat}(h:live T n):(an T n).isSome:=by
 unfold live at h;cases hx:an T n with
 | none=>rw [hx] at h;exact h.elim
 | some e=>rfl
theorem cv.mono (h:bg N0 g T w g' T' w'){sz:Nat}{rows:List (List DC)}{v:Value}{ob:Option Nat}(hb:∀ b,ob=some b->w'.heap[b]?=w.heap[b]?)
  (x:cv w (aB N0 g T) sz rows v ob):cv w' (aB N0 g' T') sz rows v ob:=by
 rcases x with x | ⟨b,off,cap,cells,t,fz,h1,h2,h3,h4,h5,h6,h7,h8,h9,h10⟩
 ·exact .inl x
 ·exact .inr ⟨b,off,cap,cells,t,fz,h1,h2,(hb b h1).trans h3,h4,h5,h6,h7,h8,h9,fun i j r d hr hd=>by
   obtain⟨c,hc,hx⟩:=h10 i j r d hr hd;exact⟨c,hc,h.d _ _ hx⟩⟩
theorem zq.mono (h:bg N0 g T w g' T' w'){n:Nat}{e:aL}(hn:an T n=some e)(hb:∀ b,live T n->g.blk n=some b->w'.heap[b]?=w.heap[b]?)
  (x:zq w (aB N0 g T) g T n e):zq w' (aB N0 g' T') g' T' n e:=by
 have hg:=h.g n (eL hn);cases e with
 | box cs=>
  obtain⟨b,cells,t,h1,h2,h3,h4,h5⟩:=x;have hl:live T n:=by unfold live;rw [hn];trivial
  exact⟨b,cells,t,hg.1.trans h1,(hb b hl h1).trans h2,h3,fun i c x hc hx=>h.c (h4 i c x hc hx),h5⟩
 | own sz rows=>
  have hl:live T n:=by unfold live;rw [hn];trivial
  refine⟨?_,hg.2.2.trans x.2⟩;have:=x.1.mono h (fun b hb'=>hb b hl hb');rw [hg.2.1,hg.1];exact this
 | imm rows=>exact⟨by rw [hg.2.1];exact h.d _ _ x.1,by rw [hg.2.2];exact x.2⟩
 | dead=>trivial
theorem Mem.upd (hM:Mem w0 N0 g T w)(hbelow:yb w0 w w')(hK:bg N0 g T w g' T' w')
  (hent:∀ m e,an T' m=some e->(an T m=some e/\∀ b,live T m->g.blk m=some b->w'.heap[b]?=w.heap[b]?)\/zq w' (aB N0 g' T') g' T' m e)
  (hinj:∀ n m b,live T' n->live T' m->g'.blk n=some b->g'.blk m=some b->n=m)
  (hrng:∀ n b,live T' n->g'.blk n=some b->(w0.w.heap.size<=b\/w0.own b)/\b < w'.heap.size):Mem w0 N0 g' T' w':=
 ⟨hM.below.trans hbelow,fun m e he=>by
  rcases hent m e he with ⟨h1,h2⟩ | h
  ·exact (hM.ents m e h1).mono hK h1 h2
  ·exact h,hinj,hrng,hM.n0⟩
theorem fv {n m:Nat}{e:aL}:live (aput T n e) m ↔ (if m=n then (match e with | .box _ | .own _ _=>True | _=>False) else live T m):=by
 unfold live;rw [cM];by_cases h:m=n
 ·simp only [h,if_true];cases e <;> simp
 ·simp [h]
theorem Ed (hM:Mem w0 N0 g T w){b:Nat}(h:aB N0 g T b):b < w.heap.size:=by
 rcases h with h | ⟨n,hl,hb⟩
 ·exact Nat.lt_of_lt_of_le (hM.n0 b h).1 hM.below.size
 ·exact (hM.rng n b hl hb).2
def Gh.set (g:Gh)(n:Nat)(b:Option Nat)(v:Value)(s:Nat):Gh:=
 { blk:=fun m=>if m=n then b else g.blk m,sv:=fun m=>if m=n then v else g.sv m,st:=fun m=>if m=n then s else g.st m }
theorem Mem.create (hM:Mem w0 N0 g T w){n:Nat}{e:aL}{ob:Option Nat}{sv:Value}{s:Nat}(hf:an T n=none)(hext:Below w.heap.size w w')
  (hob:∀ b,ob=some b->w.heap.size<=b/\b < w'.heap.size)
  (hE:bg N0 g T w (g.set n ob sv s) (aput T n e) w'->zq w' (aB N0 (g.set n ob sv s) (aput T n e)) (g.set n ob sv s) (aput T n e) n e) :
  Mem w0 N0 (g.set n ob sv s) (aput T n e) w'/\bg N0 g T w (g.set n ob sv s) (aput T n e) w':=by
 have hne:∀ m,(an T m).isSome->m ≠ n:=fun m hm h=>by subst h;rw [hf] at hm;cases hm
 have hK:bg N0 g T w (g.set n ob sv s) (aput T n e) w':=by
  refine bg.of hext.size (fun b hb _=>hext.block b hb) (fun b hb ha=>?_) (fun m hm=>gx hm) (fun m hm=>by simp [Gh.set,hne m hm]);rcases ha with ha | ⟨m,hl,hbm⟩
  ·exact .inl ha
  ·rw [fv] at hl
   by_cases hm:m=n
   ·simp only [Gh.set,hm,if_true] at hbm
    have:=hob b hbm;omega
   ·simp only [hm,if_false] at hl
    simp only [Gh.set,hm,if_false] at hbm;exact .inr ⟨m,hl,hbm⟩
 refine⟨hM.upd (.of hext hM.below.size) hK (fun m e' he'=>?_) (fun m k b hm hk bm bk=>?_) (fun m b hm bm=>?_),hK⟩
 ·rw [cM] at he'
  by_cases h:m=n
  ·simp only [h,if_true,zaI] at he'
   subst h;subst he';exact .inr (hE hK)
  ·simp only [h,if_false] at he'
   exact .inl ⟨he',fun b hl hb=>hext.block b (hM.rng m b hl hb).2⟩
 ·rw [fv] at hm hk
  by_cases h1:m=n <;> by_cases h2:k=n
  ·rw [h1,h2]
  ·simp only [Gh.set,h1,h2,if_true,if_false] at bm bk hk
   have:=(hM.rng k b hk bk).2;have:=(hob b bm).1;omega
  ·simp only [Gh.set,h1,h2,if_true,if_false] at bm bk hm
   have:=(hM.rng m b hm bm).2;have:=(hob b bk).1;omega
  ·simp only [Gh.set,h1,h2,if_false] at bm bk hm hk
   exact hM.inj m k b hm hk bm bk
 ·rw [fv] at hm
  by_cases h1:m=n
  ·simp only [Gh.set,h1,if_true] at bm
   exact⟨.inl (Nat.le_trans hM.below.size (hob b bm).1),(hob b bm).2⟩
  ·simp only [Gh.set,h1,if_false] at bm hm
   have:=hM.rng m b hm bm;exact⟨this.1,Nat.lt_of_lt_of_le this.2 hext.size⟩
theorem Mem.write (hM:Mem w0 N0 g T w){n b:Nat}{e:aL}(hl:live T n)(hb:g.blk n=some b)(hle:match e with | .box _ | .own _ _=>True | _=>False)
  (hg:w.grownBy w' (some b)) (hsz:w'.heap.size=w.heap.size)
  (hE:bg N0 g T w g (aput T n e) w'->zq w' (aB N0 g (aput T n e)) g (aput T n e) n e) :
  Mem w0 N0 g (aput T n e) w'/\bg N0 g T w g (aput T n e) w':=by
 have hlive:∀ m,live (aput T n e) m ↔ live T m:=fun m=>by
  rw [fv];by_cases h:m=n
  ·subst h;simp only [if_true];exact⟨fun _=>hl,fun _=>hle⟩
  ·simp [h]
 have hK:bg N0 g T w g (aput T n e) w':=by
  refine bg.of (by omega) (fun k hk ha=>hg.block k hk (fun h=>ha (.inr ⟨n,hl,by rw [hb,h]⟩))) (fun k hk ha=>?_) (fun m hm=>gx hm) (fun _ _=>⟨rfl,rfl,rfl⟩);rcases ha with ha | ⟨m,hl',hbm⟩
  ·exact .inl ha
  ·exact .inr ⟨m,(hlive m).1 hl',hbm⟩
 have hbel:yb w0 w w':=
  ⟨hg.os,hg.tape,hg.output,hg.size,fun k hk ho=>by
   have h1:=hM.below.size;refine hg.block k (by omega) (fun h=>?_);have:=(hM.rng n b hl hb).1;simp at h;subst h;exact this.elim (fun h=>by omega) ho⟩
 refine⟨hM.upd hbel hK (fun m e' he'=>?_) (fun m k c hm hk=>hM.inj m k c ((hlive m).1 hm) ((hlive k).1 hk)) (fun m c hm hc=>?_),hK⟩
 ·rw [cM] at he'
  by_cases h:m=n
  ·simp only [h,if_true,zaI] at he'
   subst h;subst he';exact .inr (hE hK)
  ·simp only [h,if_false] at he'
   refine .inl ⟨he',fun c hlm hc=>hg.block c (hM.rng m c hlm hc).2 (fun hcb=>h ?_)⟩;simp at hcb;subst hcb;exact hM.inj m n c hlm hl hc hb
 ·have:=hM.rng m c ((hlive m).1 hm) hc
  exact⟨this.1,by omega⟩
theorem Mem.retire (hM:Mem w0 N0 g T w){n:Nat}{e:aL}(hs:(an T n).isSome)(hle:match e with | .box _ | .own _ _=>False | _=>True)
  (hE:bg N0 g T w g (aput T n e) w->zq w (aB N0 g (aput T n e)) g (aput T n e) n e):Mem w0 N0 g (aput T n e) w/\bg N0 g T w g (aput T n e) w:=by
 have hlive:∀ m,live (aput T n e) m->live T m/\m ≠ n:=fun m h=>by
  rw [fv] at h;by_cases hm:m=n
  ·subst hm;simp only [if_true] at h;cases e <;> simp_all
  ·simp only [hm,if_false] at h;exact⟨h,hm⟩
 have hK:bg N0 g T w g (aput T n e) w:=by
  refine bg.of (Nat.le_refl _) (fun _ _ _=>rfl) (fun k hk ha=>?_) (fun m hm=>gx hm) (fun _ _=>⟨rfl,rfl,rfl⟩);rcases ha with ha | ⟨m,hl',hbm⟩
  ·exact .inl ha
  ·exact .inr ⟨m,(hlive m hl').1,hbm⟩
 refine⟨hM.upd .refl hK (fun m e' he'=>?_) (fun m k c hm hk=>hM.inj m k c (hlive m hm).1 (hlive k hk).1) (fun m c hm hc=>hM.rng m c (hlive m hm).1 hc),hK⟩;rw [cM] at he';by_cases h:m=n
 ·simp only [h,if_true,zaI] at he'
  subst h;subst he';exact .inr (hE hK)
 ·simp only [h,if_false] at he'
  exact .inl ⟨he',fun _ _ _=>rfl⟩
theorem Mem.freeze (hM:Mem w0 N0 g T w){n sz:Nat}{rows:List (List DC)}(hn:an T n=some (.own sz rows)) :
  Mem w0 N0 g (aput T n (.imm rows)) w/\bg N0 g T w g (aput T n (.imm rows)) w:=by
 have hl:live T n:=by unfold live;rw [hn];trivial
 refine hM.retire (eL hn) trivial (fun hK=>?_);obtain⟨hs,hst⟩:=hM.ents n _ hn;rcases hs with ⟨hv,hr,hb⟩ | ⟨b,off,cap,cells,t,fz,h1,h2,h3,h4,h5,h6,h7,h8,h9,h10⟩
 ·subst hr;rw [zq,hv];exact⟨.nil,by simp⟩
 ·refine⟨?_,by rw [hst];exact h8⟩
  rw [h2];by_cases hr:rows=[]
  ·subst hr;exact .nil
  ·have hN:¬ aB N0 g (aput T n (.imm rows)) b:=by
    rintro (h | ⟨m,hlm,hbm⟩)
    ·have h1':=hM.n0 b h
     exact (hM.rng n b hl h1).1.elim (fun h=>by omega) h1'.2
    ·rw [fv] at hlm
     by_cases hm:m=n
     ·simp [hm] at hlm
     ·simp only [hm,if_false] at hlm
      exact hm (hM.inj m n b hlm hl hbm h1)
   have hsz:∀ (i:Nat) (r:List DC),rows[i]?=some r->r.length=sz:=fun i r hr=>h8 r (List.mem_of_getElem? hr);refine .sl (sz:=sz) (fun i j=>(cells[off+i*sz+j]?).getD undef) (List.length_pos_iff.2 hr) hN (hM.rng n b hl h1).2 h9 h8 h4 (fun i j hi hj=>?_) (fun i j r d hr hd=>?_)
   ·obtain⟨r,hr⟩:∃ r,rows[i]?=some r:=⟨rows[i],by simp [hi]⟩
    obtain⟨d,hd⟩:∃ d,r[j]?=some d:=⟨r[j]'(by rw [hsz i r hr];exact hj),by simp⟩
    obtain⟨c,hc,_⟩:=h10 i j r d hr hd;simp [World.cell?,h3,hc]
   ·obtain⟨c,hc,hx⟩:=h10 i j r d hr hd
    rw [hc];exact hK.d _ _ hx
def bL (P:Program)(t:TypeId):Option Nat:=(P.info? t).map (·.size)
def bW:TypeDesc->Bool
 | .struct _ | .array _ _=>true
 | _=>false
def wU (P:Program)(t:TypeId):Option Value:=(P.info? t).bind (·.zero)
def ry (P:Program)(t:TypeId):Option (List C):=(wU P t).bind fun v=>
 let cs:=v.cells.toList.map gi
 if nK cs then some cs else none
def Kg:C->Option DC
 | .d x=>some x
 | .nils=>some (.sl [])
 | .fn f []=>some (.fn f [])
 | _=>none
def H1 (P:Program)(t:TypeId):Option (List DC):=(ry P t).bind fun cs=>cs.mapM Kg
def nw (P:Program)(t:TypeId):Option TypeId:=
 match P.underlying t with
 | some (.slice e)=>some e
 | _=>none
def gv (P:Program)(o:Oper)(c:Call):Option AOp:=
 match c.callee with
 | .value (.func f)=>match P.funcs[f]? with
  | some fn => if fn.body.isSome ∧ (fn.name == "runtime.NumGoroutine") = false then some (.call f c.args.toList) else some (.pure o)
  | none=>none
 | .value x=>some (.calld x c.args.toList)
 | .invoke x m=>some (.inv m x c.args.toList)
 | .builtin .len=>match c.args.toList,c.argTypes[0]? with
  | [x],some t=>match P.underlying t with
   | some (.slice _)=>some (.len x)
   | some .string | some (.array _ _)=>some (.pure o)
   | _=>none
  | _,_=>none
 | .builtin .copy=>match c.args.toList,c.argTypes.toList with
  | [x,y],[t,_]=>match nw P t with
   | some e=>match P.info? e with
    | some i=>if 0 < i.size then some (.copy i.size x y) else none
    | none=>none
   | none=>none
  | _,_=>none
 | .builtin .append=>match c.args.toList,c.argTypes.toList with
  | [x,y],[t,u]=>match nw P t,nw P u with
   | some e,some e'=>match P.info? e,wU P e with
    | some i,some z=>if e=e'/\z.cells.size=i.size/\0 < i.size then some (.append i.size i.bytes x y) else none
    | _,_=>none
   | _,_=>none
  | _,_=>none
 | .builtin .max | .builtin .min | .builtin .real | .builtin .imag | .builtin .complex=>some (.pure o)
 | _=>none
def i5 (P:Program)(fs:List Field):Option (List (Nat × Nat)):=fs.mapM fun f=>(bL P f.type).map fun s=>(f.offset,s)
def awu:Option TypeDesc->Bool
 | some (.int k)=>k == .u8
 | _=>false
theorem aa7 {d:Option TypeDesc}(h:awu d=true):d=some (.int .u8):=by
 unfold awu at h;split at h
 ·rename_i k
  cases k <;> first | rfl | simp at h
 ·cases h
def bU (P:Program)(o:Oper):Option AOp:=
 match o.op with
 | .move x | .assign x=>some (.mv x)
 | .pick c a b=>some (.pick c a b)
 | .alloc e=>(ry P e).map .alloc
 | .box _ x=>some (.box x)
 | .build t parts=>match P.underlying t,ry P t with
  | some (.struct fs),some z=>(i5 P fs.toList).bind fun places=>(parts.toList.mapM fun p=>(places[p.1]?).map fun q=>(q.1,q.2,p.2)).map (.build z)
  | some (.array _ e),some z=>(bL P e).map fun s=>.build z (parts.toList.map fun p=>(p.1*s,s,p.2))
  | _,_=>none
 | .buildSlice t n parts=>match nw P t with
  | some e=>match bL P e,H1 P e with
   | some s,some z=>if n*s<=16777216/\z.length=s/\0 < s then some (.bslice s n z parts.toList) else none
   | _,_=>none
  | none=>none
 | .load t x=>match P.underlying t,bL P t with
  | some d,some s=>if bW d then some (.load true s x) else some (.load false 1 x)
  | _,_=>none
 | .store t x y=>(bL P t).map fun s=>.store s x y
 | .nilCheck x=>some (.nilchk x)
 | .fieldAddr t x f=>match P.underlying t with
  | some (.struct fs)=>match fs[f]? with
   | some fd=>match bL P fd.type with
    | some s=>if 0 < s then some (.faddr fd.offset x) else none
    | none=>none
   | none=>none
  | _=>none
 | .indexAddr t x i=>match P.underlying t with
  | some (.slice e)=>(bL P e).map fun s=>.iaddr s none x i
  | some (.array len e)=>(bL P e).map fun s=>.iaddr s (some len) x i
  | _=>none
 | .field t x f=>match P.underlying t with
  | some (.struct fs)=>match fs[f]? with
   | some fd=>match P.underlying fd.type,bL P fd.type with
    | some d,some s=>if bW d then some (.field true fd.offset s x) else some (.field false fd.offset 1 x)
    | _,_=>none
   | none=>none
  | _=>none
 | .index t x i=>match P.underlying t with
  | some (.array len e)=>match P.underlying e,bL P e with
   | some d,some s=>if bW d then some (.index true len s x i) else if s=1 then some (.index false len 1 x i) else none
   | _,_=>none
  | some .string=>some (.pure o)
  | _=>none
 | .slice t x lo hi none=>match P.underlying t with
  | some (.slice e)=>(bL P e).map fun s=>.slice s false x lo hi
  | some .string=>some (.pure o)
  | some (.array n e)=>match lo,hi with
   | none,none=>(bL P e).map fun s=>.aslice s n x
   | _,_=>none
  | _=>none
 | .extract x i=>some (.extract i x)
 | .makeInterface t x=>match P.underlying t with
  | some (.interface _)=>none
  | some _=>some (.ifc t x)
  | none=>none
 | .makeFunc (.func f) first caps=>if first.size=0 then some (.mkfn f caps.toList) else none
 | .makeSlice t l c=>match nw P t with
  | some e=>match P.info? e,H1 P e with
   | some i,some z=>if z.length=i.size/\0 < i.size then some (.mkslice i.size i.bytes z l c) else none
   | _,_=>none
  | none=>none
 | .binOp op t x y _=>match P.underlying t with
  | some (.interface _) | none=>none
  | some (.slice _)=>none
  | some _=>some (.bin op t x y)
 | .unOp ..=>some (.pure o)
 | .convert src d x=>match P.underlying src,P.underlying d with
  | some .string,some (.slice e)=>if awu (P.underlying e) then some (.bytes x) else none
  | _,_=>some (.pure o)
 | .call c=>gv P o c
 | _=>none
variable {P:Program}{w0:fC}{w w':World}{N:Nat->Prop}{N0:Nat->Prop}{g g':Gh}{T T':Tab}
theorem aao {x:Value}(h:plain x=true):x.oneCell'=true:=by
 cases x <;> simp_all [plain,Value.oneCell']
theorem aX.one {d:DC}{v:Value}(h:aX w N d v):v.oneCell'=true:=by
 cases h with
 | v h=>exact aao h
 | _=>rfl
theorem dr.one {c:C}{v:Value}(h:dr w N g T c v)(ho:okC c=true):v.oneCell'=true:=by
 cases c with
 | d x=>exact aX.one h
 | nils=>rw [show v=_ from h];rfl
 | und=>simp [okC] at ho
 | unk=>simp [okC] at ho
 | yld l=>simp [okC] at ho
 | sub n lo hi=>simp [okC] at ho
 | ref n=>obtain⟨_,_,a,l,c,rfl⟩:=h;rfl
 | ptr n off=>obtain⟨_,b,_,rfl⟩:=h;rfl
 | eptr n i off=>obtain⟨_,b,o,len,cap,_,rfl⟩:=h;rfl
 | fn f caps=>obtain⟨cs,rfl,_⟩:=h;rfl
theorem JS {v:Value}(h:v.oneCell'=true):v.cells=#[v]:=by cases v <;> simp_all [Value.oneCell',Value.cells]
theorem lJ {cs:List C}(h:nK cs=true):∀ (i:Nat) (c:C),cs[i]?=some c->okC c=true:=by
 induction cs with
 | nil=>intro i c hc;simp at hc
 | cons x r ih=>
  simp only [nK,Bool.and_eq_true] at h;intro i c hc;cases i with
  | zero=>simp at hc;subst hc;exact h.1
  | succ i=>exact ih h.2 i c (by simpa using hc)
theorem AP {cs:List C}(h:∀ (i:Nat) (c:C),cs[i]?=some c->okC c=true):nK cs=true:=by
 induction cs with
 | nil=>rfl
 | cons x r ih=>
  simp only [nK,Bool.and_eq_true];exact⟨h 0 x rfl,ih fun i c hc=>h (i+1) c (by simpa using hc)⟩
theorem gq.cells {b:Bool}{cs:List C}{v:Value}(h:gq w N g T b cs v)(ho:nK cs=true) :
  v.cells.size=cs.length/\(∀ (i:Nat) (c:C) (x:Value),cs[i]?=some c->v.cells[i]?=some x->dr w N g T c x)/\∀ x ∈ v.cells.toList,x.oneCell'=true:=by
 have key:v.cells.size=cs.length/\(∀ (i:Nat) (c:C) (x:Value),cs[i]?=some c->v.cells[i]?=some x->dr w N g T c x):=by
  cases b with
  | true=>
   obtain⟨xs,rfl,h2,h3⟩:=h;exact⟨h2.symm,h3⟩
  | false=>
   obtain⟨c,rfl,hc⟩:=h;have hone:=hc.one (lJ ho 0 c rfl);rw [JS hone];refine⟨rfl,fun i c' x h1 h2=>?_⟩;cases i with
   | zero=>simp at h1 h2;subst h1;subst h2;exact hc
   | succ i=>simp at h1
 refine⟨key.1,key.2,fun x hx=>?_⟩;obtain⟨i,hi⟩:=List.mem_iff_getElem?.1 hx;have hi':v.cells[i]?=some x:=by simpa using hi
 have hlt:i < cs.length:=by rw [<- key.1];exact (Array.getElem?_eq_some_iff.1 hi').1
 exact (key.2 i cs[i] x (by simp [hlt]) hi').one (lJ ho i _ (by simp [hlt]))
theorem jL {x:AV}{cs:List C}{v:Value}(hx:aT w N g T x v)(h:hH x=some cs):∃ b,gq w N g T b cs v:=by
 cases x with
 | val b cs'=>simp only [hH,zaI] at h;subst h;exact⟨b,hx⟩
 | tup l=>simp [hH] at h
theorem bf {x:AV}{c:C}{v:Value}(hx:aT w N g T x v)(h:de x=some c):dr w N g T c v:=by
 unfold de at h;split at h
 ·simp only [zaI] at h
  subst h;obtain⟨c',h1,h2⟩:=hx;simp only [List.cons.injEq,and_true] at h1;subst h1;exact h2
 ·cases h
theorem Ig {x:Value}{v:Value}(h:aX w N (.v x) v):v=x/\plain x=true:=by
 cases h with
 | v h=>exact⟨rfl,h⟩
theorem mf {x:AV}{z:Int}{v:Value}(hx:aT w N g T x v)(h:nE x=some z):∃ k,v=.int k z:=by
 unfold nE at h;split at h
 ·simp only [zaI] at h
  subst h;obtain⟨c',h1,h2⟩:=hx;simp only [List.cons.injEq,and_true] at h1;subst h1;exact⟨_,(Ig h2).1⟩
 ·cases h
theorem lH {x:AV}{b:Bool}{v:Value}(hx:aT w N g T x v)(h:ik x=some b):v=.bool b:=by
 unfold ik at h;split at h
 ·simp only [zaI] at h
  subst h;obtain⟨c',h1,h2⟩:=hx;simp only [List.cons.injEq,and_true] at h1;subst h1;exact (Ig h2).1
 ·cases h
theorem Bb {c:C}{x v:Value}(hc:dr w N g T c v)(h:g6 c=some x):v=x:=by
 unfold g6 at h;split at h
 ·simp only [zaI] at h
  subst h;exact (Ig hc).1
 ·cases h
theorem tu:∀ {cs:List C} {xs:List Value},kh cs=some xs->xs.length=cs.length/\∀ (i:Nat) (c:C),cs[i]?=some c->∃ x,xs[i]?=some x/\g6 c=some x
 | [],xs,h=>by simp [kh] at h;subst h;simp
 | c::r,xs,h=>by
  simp only [kh] at h;split at h
  ·rename_i x ys h1 h2
   simp only [zaI] at h;subst h;obtain⟨h3,h4⟩:=tu h2;refine⟨by simp [h3],fun i c' hc'=>?_⟩;cases i with
   | zero=>simp at hc';subst hc';exact⟨x,rfl,h1⟩
   | succ i=>obtain⟨y,hy,hp⟩:=h4 i c' (by simpa using hc');exact⟨y,by simpa using hy,hp⟩
  ·cases h
theorem lm {x:AV}{u v:Value}(hx:aT w N g T x v)(h:ff x=some u):v=u:=by
 unfold ff at h;split at h
 ·rename_i c
  obtain⟨c',h1,h2⟩:=hx;simp only [List.cons.injEq,and_true] at h1;subst h1;exact Bb h2 h
 ·rename_i cs
  obtain⟨xs,rfl,h2,h3⟩:=hx;cases hp:kh cs with
  | none=>simp [hp] at h
  | some ys=>
   simp only [hp,Option.map_some,zaI] at h;subst h;obtain⟨h4,h5⟩:=tu hp;congr 1;apply Array.ext';apply List.ext_getElem?;intro i;by_cases hi:i < cs.length
   ·obtain⟨y,hy,hc⟩:=h5 i cs[i] (by simp [hi])
    have hlt:i < xs.size:=by omega
    have:=h3 i cs[i] xs[i] (by simp [hi]) (by simp [hlt]);rw [show ys.toArray.toList[i]?=some y from by simpa using hy];rw [<- Bb this hc];simp [hlt]
   ·have h6:xs.size<=i:=by omega
    have h7:ys.length<=i:=by omega
    simp [h6,h7]
 ·cases h
theorem nc (x:Value):dr w N g T (gi x) x:=by
 unfold gi;split
 ·rename_i h;exact aX.v h
 ·have key:∀ y,y=x->dr w N g T (match y with | .slice none 0 0=>C.nils | .func (.func f) first caps=>(if first.size=0/\caps.size=0 then C.fn f [] else C.unk) | _=>C.unk) x:=by
   intro y hy;split
   ·subst hy;rfl
   ·rename_i f first caps
    split
    ·rename_i h
     obtain⟨h1,h2⟩:=h;have e1:first=#[]:=Array.eq_empty_of_size_eq_zero h1;have e2:caps=#[]:=Array.eq_empty_of_size_eq_zero h2;subst e1;subst e2;subst hy;exact⟨#[],rfl,rfl,fun i c x hc=>by simp at hc⟩
    ·trivial
   ·trivial
  exact key x rfl
theorem qR (x:Value):aT w N g T (jp x) x:=by
 cases x
 case agg cs=>
  refine⟨cs,rfl,by simp,fun i c x hc hx=>?_⟩;simp only [List.getElem?_map,Array.getElem?_toList,hx,Option.map_some,zaI] at hc;subst hc;exact nc x
 all_goals exact⟨_,rfl,nc _⟩
theorem sK {α:Type}{s:Sem α}{a:α}(h:aH P s=some a)(w:World):s.run P w=.ok a w:=by
 induction s with
 | pure b=>simp only [aH,zaI] at h;subst h;rfl
 | program k ih=>exact ih P h
 | mark m k ih=>exact ih h
 | _=>simp [aH] at h
def dw (w:World)(N:Nat->Prop)(g:Gh)(T:Tab)(tmps:List (Nat × AV))(vals:Array Value):Prop:=
 ∀ t x,an tmps t=some x->aT w N g T x (vals.getD t undef)
theorem gI {tmps:List (Nat × AV)}{a:Act}(h:dw w N g T tmps a.tmps)(x:Operand):aT w N g T (evO tmps x) (a.eval x):=by
 cases x with
 | tmp t=>
  simp only [evO,Act.eval];cases hx:an tmps t with
  | none=>exact⟨.unk,rfl,trivial⟩
  | some y=>exact h t y hx
 | const v=>exact qR v
 | func f=>exact⟨_,rfl,#[],rfl,rfl,fun i c x hc=>by simp at hc⟩
 | global n=>exact⟨.unk,rfl,trivial⟩
theorem Mem.creates (hM:Mem w0 N0 g T w)(hext:Below w.heap.size w w')(hT:∀ m,(an T m).isSome->an T' m=an T m)
  (hg:∀ m,(an T m).isSome->g'.blk m=g.blk m/\g'.sv m=g.sv m/\g'.st m=g.st m)
  (hnew:∀ m b,an T m=none->live T' m->g'.blk m=some b->w.heap.size<=b/\b < w'.heap.size)
  (hinj:∀ m k b,an T m=none->an T k=none->live T' m->live T' k->g'.blk m=some b->g'.blk k=some b->m=k)
  (hE:bg N0 g T w g' T' w'->∀ m e,an T m=none->an T' m=some e->zq w' (aB N0 g' T') g' T' m e) :
  Mem w0 N0 g' T' w'/\bg N0 g T w g' T' w':=by
 have hold:∀ m,(an T m).isSome->(live T' m ↔ live T m):=fun m hm=>by unfold live;rw [hT m hm]
 have hcase:∀ m,an T m=none\/(an T m).isSome:=fun m=>by cases an T m <;> simp
 have hK:bg N0 g T w g' T' w':=by
  refine bg.of hext.size (fun b hb _=>hext.block b hb) (fun b hb ha=>?_) (fun m hm=>by rw [hT m hm];exact hm) hg;rcases ha with ha | ⟨m,hl,hbm⟩
  ·exact .inl ha
  ·rcases hcase m with hm | hm
   ·have:=hnew m b hm hl hbm;omega
   ·exact .inr ⟨m,(hold m hm).1 hl,by rw [<- (hg m hm).1];exact hbm⟩
 refine⟨hM.upd (.of hext hM.below.size) hK (fun m e' he'=>?_) (fun m k b hm hk bm bk=>?_) (fun m b hm bm=>?_),hK⟩
 ·rcases hcase m with h | h
  ·exact .inr (hE hK m e' h he')
  ·rw [hT m h] at he'
   exact .inl ⟨he',fun b hl hb=>hext.block b (hM.rng m b hl hb).2⟩
 ·rcases hcase m with h1 | h1 <;> rcases hcase k with h2 | h2
  ·exact hinj m k b h1 h2 hm hk bm bk
  ·have hk':=(hold k h2).1 hk
   rw [(hg k h2).1] at bk;have:=(hM.rng k b hk' bk).2;have:=(hnew m b h1 hm bm).1;omega
  ·have hm':=(hold m h1).1 hm
   rw [(hg m h1).1] at bm;have:=(hM.rng m b hm' bm).2;have:=(hnew k b h2 hk bk).1;omega
  ·rw [(hg m h1).1] at bm
   rw [(hg k h2).1] at bk;exact hM.inj m k b ((hold m h1).1 hm) ((hold k h2).1 hk) bm bk
 ·rcases hcase m with h1 | h1
  ·have:=hnew m b h1 hm bm
   exact⟨.inl (Nat.le_trans hM.below.size this.1),this.2⟩
  ·rw [(hg m h1).1] at bm
   have:=hM.rng m b ((hold m h1).1 hm) bm;exact⟨this.1,Nat.lt_of_lt_of_le this.2 hext.size⟩
def Fw (r:Option Nat):Fence:={ Fence.wide with round:=r }
def bj (r:Option Nat)(n:Nat)(P:Program)(o:Oper)(a:Act)(w:World)(R:Value->World->Prop):Prop:=
 ∀ (K:Act->World->Prop) (Q:Exit->Act->World->Prop),(∀ v w',R v w'->K (a.put o.dst v) w')->o.wpIn (Fw r) n P a w K Q
section
variable {r:Option Nat}{n:Nat}{o:Oper}{a:Act}{R:Value->World->Prop}
theorem bj.value (hd:∀ c,o.op ≠ .defer c){v:Value}(h:(execOp a.eval o).run P w=.ok (.value v) w')(hR:R v w'):bj r n P o a w R:=by
 intro K Q hK;refine⟨fun _ _=>trivial,?_⟩;rw [Oper.semAt_eq _ _ _ hd,h];exact hK _ _ hR
theorem bj.skip (hd:∀ c,o.op ≠ .defer c)(h:(execOp a.eval o).run P w=.ok .skip w')(hR:R undef w'):bj r n P o a w R:=by
 intro K Q hK;refine⟨fun _ _=>trivial,?_⟩;rw [Oper.semAt_eq _ _ _ hd,h];exact hK _ _ hR
theorem bj.enter (hd:∀ c,o.op ≠ .defer c){f:FuncId}{args:Array Value}(h:(execOp a.eval o).run P w=.ok (.enter f args) w)
  (hc:Calls P f args w fun e w'=>∃ v,e=.returned v/\R v w'):bj r n P o a w R:=by
 intro K Q hK;refine⟨fun _ _=>trivial,?_⟩;rw [Oper.semAt_eq _ _ _ hd,h];refine⟨fun hx=>by simp [Fw,Fence.wide] at hx,?_⟩;have:CallsIn (Fw r) (n - 1) P f args w fun e w'=>∃ v,e=.returned v/\R v w':=callsIn_wide.2 hc;refine this.mono ?_
 rintro e w' ⟨v,rfl,hv⟩
 exact hK _ _ hv
theorem bj.mono {R':Value->World->Prop}(h:bj r n P o a w R)(hR:∀ v w',R v w'->R' v w'):bj r n P o a w R':=
 fun K Q hK=>h K Q fun v w' hv=>hK v w' (hR v w' hv)
end
def Res (w0:fC)(N0:Nat->Prop)(g:Gh)(T:Tab)(w:World)(x:AV)(es:List (Nat × aL))(v:Value)(w':World):Prop:=
 ∃ g',Mem w0 N0 g' (aputs T es) w'/\bg N0 g T w g' (aputs T es) w'/\aT w' (aB N0 g' (aputs T es)) g' (aputs T es) x v
theorem Res.same (hM:Mem w0 N0 g T w){x:AV}{v:Value}(h:aT w (aB N0 g T) g T x v):Res w0 N0 g T w x [] v w:=⟨g,hM,bg.refl,h⟩
def pU (w:World)(N:Nat->Prop)(d:DV)(v:Value):Prop:=
 match d with
 | (true,ds)=>∃ xs:Array Value,v=.agg xs/\ds.length=xs.size/\∀ (i:Nat) (d:DC) (x:Value),ds[i]?=some d->xs[i]?=some x->aX w N d x
 | (false,ds)=>∃ d,ds=[d]/\aX w N d v
def iW (w:World)(N:Nat->Prop)(ds:List DV)(vs:Array Value):Prop:=
 ds.length=vs.size/\∀ (i:Nat) (d:DV) (v:Value),ds[i]?=some d->vs[i]?=some v->pU w N d v
def jz (w:World)(N:Nat->Prop)(ob:Option Nat):RC->Value->Prop
 | .d x,v=>aX w N x v
 | .own sz rows,v=>cv w N sz rows v ob
 | .obj cs off,v=>∃ b cells t,ob=some b/\v=.pointer (some ⟨b,off,none⟩)/\w.heap[b]?=some (.cells cells t (0,0))/\cells.size=cs.length /\
   ∀ (j:Nat) (d:DC) (x:Value),cs[j]?=some d->cells[j]?=some x->aX w N d x
def ri (w:World)(N:Nat->Prop)(ob:Nat->Option Nat)(x:RV)(v:Value):Prop:=
 match x with
 | (true,cs)=>∃ xs:Array Value,v=.agg xs/\cs.length=xs.size/\∀ (j:Nat) (c:RC) (x:Value),cs[j]?=some c->xs[j]?=some x->jz w N (ob j) c x
 | (false,cs)=>∃ c,cs=[c]/\jz w N (ob 0) c v
def acw (w:World)(N:Nat->Prop)(res:List RV)(v:Value)(w':World):Prop:=
 ∃ (vs:Array Value) (ob:Nat->Nat->Option Nat),v=(if h:vs.size=1 then vs[0] else .tuple vs)/\res.length=vs.size /\
  (∀ (i:Nat) (x:RV) (u:Value),res[i]?=some x->vs[i]?=some u->ri w' (fun b=>N b\/∃ i j,ob i j=some b) (ob i) x u) /\
  (∀ i j b,ob i j=some b->w.heap.size<=b/\b < w'.heap.size)/\∀ i j i' j' b,ob i j=some b->ob i' j'=some b->i=i'/\j=j'
def fk:DC->Option (Nat × List (List DC))
 | .osl (s+1) rows=>some (s+1,rows)
 | _=>none
def LW:DC->Bool
 | .osl _ _=>true
 | _=>false
def jo (w:World)(N:Nat->Prop):List DC->List Value->List (Option Nat)->Prop
 | [],[],is=>is=[]
 | d::ds,x::xs,is=>match fk d with
  | none=>(if LW d=true then x=.slice none 0 0 else aX w N d x)/\jo w N ds xs is
  | some p=>match is with
   | ob::is=>cv w N p.1 p.2 x ob/\(∀ b,ob=some b->N b)/\jo w N ds xs is
   | []=>False
 | _,_,_=>False
def vi (w:World)(N:Nat->Prop)(b:Nat)(cs:List DC)(off:Nat)(v:Value)(is:List (Option Nat)):Prop:=
 N b/\v=.pointer (some ⟨b,off,none⟩)/\∃ cells t,w.heap[b]?=some (.cells cells t (0,0))/\jo w N cs cells.toList is
def iv (w:World)(N:Nat->Prop):List DV->List Value->List Nat->List (Option Nat)->Prop
 | [],[],bs,is=>bs=[]/\is=[]
 | d::ds,v::vs,bs,is=>match ci d with
  | none=>pU w N d v/\iv w N ds vs bs is
  | some p=>match bs with
   | b::bs=>∃ i1 i2,is=i1++i2/\vi w N b p.1 p.2 v i1/\iv w N ds vs bs i2
   | []=>False
 | _,_,_,_=>False
def j3 (bs:List Nat)(is:List (Option Nat)):List Nat:=bs++is.filterMap id
def kE (w:World):List Nat->List Value->Prop
 | [],us=>us=[]
 | b::bs,u::us=>(∃ cells t,w.heap[b]?=some (.cells cells t (0,0))/\u=.agg cells)/\kE w bs us
 | _::_,[]=>False
structure rU (bs:List Nat)(w w':World):Prop where
 os:w'.os=w.os
 tape:w'.tape=w.tape
 output:w'.output=w.output
 size:w.heap.size<=w'.heap.size
 block:∀ k,k < w.heap.size->k ∉ bs->w'.heap[k]?=w.heap[k]?
def AL (w:World)(N:Nat->Prop)(is:List (Option Nat))(res:List RV)(us:List Value)(v:Value)(w':World):Prop:=
 ∃ (vs:Array Value) (ob:Nat->Nat->Option Nat),v=(if h:vs.size=1 then vs[0] else .tuple vs)/\res.length=(vs.toList++us).length /\
  (∀ (i:Nat) (x:RV) (u:Value),res[i]?=some x->(vs.toList++us)[i]?=some u->ri w' (fun b=>(N b/\some b ∉ is)\/∃ i j,ob i j=some b) (ob i) x u) /\
  (∀ i j b,ob i j=some b->(w.heap.size<=b\/some b ∈ is)/\b < w'.heap.size)/\∀ i j i' j' b,ob i j=some b->ob i' j'=some b->i=i'/\j=j'
def eu (P:Program)(f:FuncId)(args:List DV)(res:List RV):Prop:=
 ∀ (w:World) (vs:Array Value) (N:Nat->Prop) (bs:List Nat) (is:List (Option Nat)),(∀ b,N b->b < w.heap.size)->(j3 bs is).Nodup->iv w N args vs.toList bs is ->
  Calls P f vs w fun e w'=>∃ v us,e=.returned v/\rU (j3 bs is) w w'/\kE w' bs us/\AL w N is res us v w'
theorem LV {d:DV}{v:Value}{N:Nat->Prop}(h:pU w N d v):ci d=none:=by
 obtain⟨b,cs⟩:=d;cases b with
 | true=>rfl
 | false=>
  obtain⟨x,e,h⟩:=h;subst e;cases h <;> rfl
theorem iW.toM {N:Nat->Prop}:∀ {ds:List DV} {vs:List Value},iW w N ds vs.toArray->iv w N ds vs [] []
 | [],[],_=>⟨rfl,rfl⟩
 | [],_::_,h=>by have:=h.1;simp at this
 | _::_,[],h=>by have:=h.1;simp at this
 | d::ds,v::vs,h=>by
  have h0:=h.2 0 d v rfl (by simp);simp only [iv,LV h0];refine⟨h0,iW.toM ⟨by have:=h.1;simpa using this,fun i d' v' hd hv=>h.2 (i+1) d' v' (by simpa using hd) (by simpa using hv)⟩⟩
theorem aj8 {us:List Value}(h:kE w [] us):us=[]:=h
theorem rU.below (h:rU [] w w'):Below w.heap.size w w':=⟨h.os,h.tape,h.output,h.size,fun k hk=>h.block k hk (by simp)⟩
theorem eu.plain {f:FuncId}{args:List DV}{res:List RV}(h:eu P f args res){vs:Array Value}(hN:∀ b,N b->b < w.heap.size)(ha:iW w N args vs) :
  Calls P f vs w fun e w'=>∃ v,e=.returned v/\Below w.heap.size w w'/\acw w N res v w':=by
 refine (h w vs N [] [] hN List.nodup_nil (iW.toM (by simpa using ha))).mono ?_
 rintro e w' ⟨v,us,he,hb,ho,vs,ob,e1,e2,e3,e4,e5⟩
 obtain rfl:=aj8 ho;refine⟨v,he,hb.below,vs,ob,e1,by simpa using e2,fun i x u hx hu=>?_,fun i j b h=>⟨(e4 i j b h).1.resolve_right (by simp),(e4 i j b h).2⟩,e5⟩;have:=e3 i x u hx (by simpa using hu);have hp:(fun b=>(N b/\some b ∉ ([]:List (Option Nat)))\/∃ i j,ob i j=some b)=fun b=>N b\/∃ i j,ob i j=some b:=by
  funext b;simp
 rwa [hp] at this
variable {P:Program}{E:Env}{w0:fC}{w w':World}{N0:Nat->Prop}{g g':Gh}{T T':Tab}{r:Option Nat}{n:Nat}{o:Oper}{a:Act}{ρ:Operand->AV}{dst:Nat} {y:AV} {es:List (Nat × aL)}
theorem avr (hM:Mem w0 N0 g T w)(hρ:∀ x,aT w (aB N0 g T) g T (ρ x) (a.eval x)){x:Operand}(ho:o.op=.move x\/o.op=.assign x)
  (he:eff P E T ρ dst (.mv x)=some (y,es)):bj r n P o a w (Res w0 N0 g T w y es):=by
 simp only [eff,zaI,zbI] at he;obtain⟨rfl,rfl⟩:=he;exact bj.value (fun c h=>by rcases ho with ho | ho <;> rw [ho] at h <;> cases h) (v:=a.eval x) (by rcases ho with ho | ho <;> simp [execOp,ho]) (Res.same hM (hρ x))
theorem asS (hM:Mem w0 N0 g T w)(hρ:∀ x,aT w (aB N0 g T) g T (ρ x) (a.eval x)){c p q:Operand}(ho:o.op=.pick c p q)
  (he:eff P E T ρ dst (.pick c p q)=some (y,es)):bj r n P o a w (Res w0 N0 g T w y es):=by
 simp only [eff] at he;split at he
 ·rename_i t ht
  simp only [zaI,zbI] at he;obtain⟨rfl,rfl⟩:=he;have hc:=lH (hρ c) ht;refine bj.value (fun c h=>by rw [ho] at h;cases h) (v:=if t then a.eval p else a.eval q) (by simp [execOp,ho,hc,asBool]) (Res.same hM ?_);cases t
  ·simpa using hρ q
  ·simpa using hρ p
 ·cases he
theorem Mem.box (hM:Mem w0 N0 g T w){m:Nat}{cs:List C}(hm:an T m=some (.box cs)) :
  ∃ b cells t,g.blk m=some b/\w.heap[b]?=some (.cells cells t (0,0))/\cells.size=cs.length/\(∀ (i:Nat) (c:C) (x:Value),cs[i]?=some c->cells[i]?=some x->dr w (aB N0 g T) g T c x) /\
   ∀ (i:Nat) (c:C),cs[i]?=some c->okC c=true:=hM.ents m _ hm
theorem fg (b o j:Nat):(⟨b,o,none⟩:Addr).add j=⟨b,o+j,none⟩:=by
 unfold Addr.add;split <;> simp_all
theorem qX {t:TypeId}{d:TypeDesc}(h:P.underlying t=some d)(w:World):(isAgg t).run P w=.ok (bW d) w:=by
 unfold isAgg;rw [Sem.run_bind,run_underlying h w];cases d <;> rfl
theorem bY {t:TypeId}{s:Nat}(h:bL P t=some s)(w:World):(sizeOf t).run P w=.ok s w:=by
 unfold bL at h;cases hi:P.info? t with
 | none=>simp [hi] at h
 | some i=>simp [hi] at h;simp [sizeOf,typeInfo,hi,h]
theorem Mf {t:TypeId}{d:TypeDesc}{s b o:Nat}(hu:P.underlying t=some d)(hd:bW d=true)(hs:bL P t=some s)(f:Nat->Value)
  (hc:∀ j,j < s->w.cell? ⟨b,o+j,none⟩=some (f j)):(loadVar t ⟨b,o,none⟩).run P w=.ok (.agg ((List.range s).map f).toArray) w:=by
 have h:=run_loadCells (P:=P) w ⟨b,o,none⟩ s f (fun j hj=>by rw [fg];exact hc j hj);simp [loadVar,qX hu,hd,bY hs,h]
theorem OE {t:TypeId}{d:TypeDesc}{b o:Nat}{x:Value}(hu:P.underlying t=some d)(hd:bW d=false)
  (hc:w.cell? ⟨b,o,none⟩=some x):(loadVar t ⟨b,o,none⟩).run P w=.ok x w:=by
 simp [loadVar,qX hu,hd,hc]
theorem sa (hM:Mem w0 N0 g T w){t:TypeId}{x:Operand}{d:TypeDesc}{s:Nat}(ho:o.op=.load t x)(hu:P.underlying t=some d)(hs:bL P t=some s)
  {b off:Nat} (hx:a.eval x=.pointer (some ⟨b,off,none⟩)) {cs:List C} (hl:cs.length=if bW d then s else 1) (f:Nat->Value)
  (hc:∀ j c,cs[j]?=some c->w.cell? ⟨b,off+j,none⟩=some (f j)/\dr w (aB N0 g T) g T c (f j)) (hy:iC (bW d) cs=some y) :
  bj r n P o a w (Res w0 N0 g T w y []):=by
 unfold iC at hy;cases hd:bW d with
 | true=>
  simp only [hd,if_true,zaI] at hy hl;subst hy;refine bj.value (fun c h=>by rw [ho] at h;cases h) (v:=.agg ((List.range s).map f).toArray)
   (by simp [execOp,ho,hx,Instr.loadAt,Instr.sureAddr,Mf hu hd hs f (fun j hj=>(hc j cs[j] (by simp [hl,hj])).1)]) (Res.same hM ⟨_,rfl,by simp [hl],fun i c x hci hxi=>?_⟩)
  have h1:=(hc i c hci).2;have hi:i < s:=by rw [<- hl];exact (List.getElem?_eq_some_iff.1 hci).1
  simp [hi] at hxi
  rwa [<- hxi]
 | false=>
  simp only [hd,Bool.false_eq_true,if_false] at hy hl;split at hy
  ·rename_i c
   simp only [zaI] at hy;subst hy;have h1:=hc 0 c rfl;exact bj.value (fun c h=>by rw [ho] at h;cases h) (v:=f 0) (by simp [execOp,ho,hx,Instr.loadAt,Instr.sureAddr,OE hu hd (show w.cell? ⟨b,off,none⟩=some (f 0) by simpa using h1.1)]) (Res.same hM ⟨c,rfl,h1.2⟩)
  ·cases hy
theorem getElem?_seg {α:Type}{l:List α}{off s j:Nat}{c:α}(h:((l.drop off).take s)[j]?=some c):j < s/\l[off+j]?=some c:=by
 rw [List.getElem?_take] at h;split at h
 ·exact⟨by assumption,by simpa using h⟩
 ·cases h
theorem Mem.rows (hM:Mem w0 N0 g T w){m:Nat}{rows:List (List DC)}(hm:(∃ s,an T m=some (.own s rows))\/an T m=some (.imm rows))(hne:rows ≠ []) :
  ∃ b off cap,g.sv m=.slice (some ⟨b,off,none⟩) rows.length cap/\b < w.heap.size/\0 < g.st m/\(∀ r ∈ rows,r.length=g.st m) /\
   ∀ (i j:Nat) (r:List DC) (d:DC),rows[i]?=some r->r[j]?=some d->∃ c,w.cell? ⟨b,off+i*g.st m+j,none⟩=some c/\aX w (aB N0 g T) d c:=by
 rcases hm with ⟨s,hm⟩ | hm
 ·obtain⟨hs,hst⟩:=hM.ents m _ hm
  rw [hst];rcases hs with ⟨_,h,_⟩ | ⟨b,off,cap,cells,t,fz,h1,h2,h3,h4,h5,h6,h7,h8,h9,h10⟩
  ·exact absurd h hne
  ·refine⟨b,off,cap,h2,(Array.getElem?_eq_some_iff.1 h3).1,h9,h8,fun i j r d hr hd=>?_⟩
   obtain⟨c,hc,hx⟩:=h10 i j r d hr hd;exact⟨c,by simp [World.cell?,h3,hc],hx⟩
 ·obtain⟨hd,hl⟩:=hM.ents m _ hm
  generalize hv:g.sv m=v at hd;cases hd with
  | nil=>exact absurd rfl hne
  | @sl _ b off cap sz f hne' hN hb hsz hl' hcap hc hd=>
   obtain⟨r0,rest,rfl⟩:=List.exists_cons_of_ne_nil hne;have hst:g.st m=sz:=by rw [<- hl r0 (by simp),hl' r0 (by simp)]
   refine⟨b,off,cap,rfl,hb,by rw [hst];exact hsz,hl,fun i j r d hr hdd=>⟨f i j,?_,hd i j r d hr hdd⟩⟩;rw [hst];refine hc i j (List.getElem?_eq_some_iff.1 hr).1 ?_;rw [<- hl' r (List.mem_of_getElem? hr)];exact (List.getElem?_eq_some_iff.1 hdd).1
theorem JL {w:World}{b off:Nat}{N:Nat->Prop}{ds:List DC}(h:∀ (j:Nat) (d:DC),ds[j]?=some d->∃ c,w.cell? ⟨b,off+j,none⟩=some c/\aX w N d c) :
  ∃ f:Nat->Value,∀ (j:Nat) (d:DC),ds[j]?=some d->w.cell? ⟨b,off+j,none⟩=some (f j)/\aX w N d (f j):=
 ⟨fun j=>(w.cell? ⟨b,off+j,none⟩).getD undef,fun j d hd=>by
  obtain⟨c,hc,hx⟩:=h j d hd;exact⟨by simp [hc],by simpa [hc] using hx⟩⟩
theorem mq {rows:List (List DC)}{i:Nat}(h:i < rows.length):rows[i]?=some (cu rows i):=by
 simp [cu,h]
theorem QD (hM:Mem w0 N0 g T w)(hρ:∀ x,aT w (aB N0 g T) g T (ρ x) (a.eval x)){t:TypeId}{x:Operand}{d:TypeDesc}{s:Nat}(ho:o.op=.load t x)(hu:P.underlying t=some d)
  (hs:bL P t=some s) {k:Nat} (hk:k=if bW d then s else 1) (he:eff P E T ρ dst (.load (bW d) k x)=some (y,es)):bj r n P o a w (Res w0 N0 g T w y es):=by
 simp only [eff] at he;split at he
 ·rename_i m off hx
  obtain⟨_,b,hb,hv⟩:=bf (hρ x) hx;split at he
  ·rename_i cs hm
   split at he
   ·rename_i hlen
    obtain⟨b',cells,t',h1,h2,h3,h4,h5⟩:=hM.box hm;rw [hb] at h1;simp only [zaI] at h1;subst h1;cases hy:iC (bW d) ((cs.drop off).take k) with
    | none=>rw [hy] at he;simp at he
    | some z=>
     rw [hy] at he;simp only [Option.map_some,zaI,zbI] at he;obtain⟨rfl,rfl⟩:=he;refine sa hM ho hu hs hv (by rw [<- hk];simp;omega) (fun j=>(cells[off+j]?).getD undef) (fun j c hc=>?_) hy;obtain⟨hj,hc⟩:=getElem?_seg hc;have hlt:off+j < cells.size:=by rw [h3];exact (List.getElem?_eq_some_iff.1 hc).1
     simp only [World.cell?,h2];refine⟨by simp [hlt],?_⟩;have:=h4 (off+j) c cells[off+j] hc (by simp [hlt]);simpa [hlt] using this
   ·cases he
  ·cases he
 ·rename_i m i off hx
  obtain⟨_,b,o',len,cap,hsv,hv⟩:=bf (hρ x) hx;have key:∀ rows,((∃ s,an T m=some (.own s rows))\/an T m=some (.imm rows)) ->
    (if i < rows.length/\off+k<=(cu rows i).length then
     (iC (bW d) ((((cu rows i).drop off).take k).map .d)).map fun y=>(y,([]:List (Nat × aL))) else none)=some (y,es)->bj r n P o a w (Res w0 N0 g T w y es):=by
   intro rows hm he;split at he
   ·rename_i hlen
    obtain⟨hi,hlen⟩:=hlen;have hne:rows ≠ []:=fun h=>by subst h;simp at hi
    obtain⟨b',off',cap',h1,h2,h3,h4,h5⟩:=hM.rows hm hne;rw [hsv] at h1;simp only [Value.slice.injEq,zaI,Addr.mk.injEq,and_true] at h1;obtain⟨⟨rfl,rfl⟩,_,_⟩:=h1;obtain⟨f,hf⟩:=JL (b:=b) (off:=o'+i*g.st m+off) (ds:=(cu rows i).drop off) (fun j d hd=>by
     have:=h5 i (off+j) _ d (mq hi) (by simpa using hd)
     rwa [<- Nat.add_assoc] at this)
    cases hy:iC (bW d) ((((cu rows i).drop off).take k).map .d) with
    | none=>rw [hy] at he;simp at he
    | some z=>
     rw [hy] at he;simp only [Option.map_some,zaI,zbI] at he;obtain⟨rfl,rfl⟩:=he;refine sa hM ho hu hs hv (by rw [<- hk];simp;omega) f (fun j c hc=>?_) hy;rw [List.getElem?_map] at hc;cases hq:(((cu rows i).drop off).take k)[j]? with
     | none=>simp [hq] at hc
     | some q=>
      simp only [hq,Option.map_some,zaI] at hc;subst hc;rw [List.getElem?_take] at hq;split at hq
      ·exact hf j q hq
      ·cases hq
   ·cases he
  split at he
  ·rename_i s' rows hm;exact key rows (.inl ⟨_,hm⟩) he
  ·rename_i rows hm;exact key rows (.inr hm) he
  ·cases he
 ·rename_i cs off hx
  have hd:=bf (hρ x) hx;generalize hv:a.eval x=v at hd;change aX w (aB N0 g T) (.cref cs off) v at hd;cases hd with
  | @cref _ b o' _ f hN hb hc hd=>
   split at he
   ·rename_i hlen
    cases hy:iC (bW d) (((cs.drop off).take k).map .d) with
    | none=>rw [hy] at he;simp at he
    | some z=>
     rw [hy] at he;simp only [Option.map_some,zaI,zbI] at he;obtain⟨rfl,rfl⟩:=he;refine sa hM ho hu hs hv (by rw [<- hk];simp;omega) (fun j=>f (off+j)) (fun j c hc'=>?_) hy;rw [List.getElem?_map] at hc';cases hq:((cs.drop off).take k)[j]? with
     | none=>simp [hq] at hc'
     | some q=>
      simp only [hq,Option.map_some,zaI] at hc';subst hc';obtain⟨hj,hq⟩:=getElem?_seg hq;have hlt:=(List.getElem?_eq_some_iff.1 hq).1;refine⟨?_,hd (off+j) q hq⟩;have:=hc (off+j) hlt
      rwa [<- Nat.add_assoc] at this
   ·cases he
 ·cases he
theorem Er {f:Field}{s:Nat}(hs:bL P f.type=some s)(h0:0 < s)(b off:Nat)(w:World) :
  (fieldPlace ⟨b,off,none⟩ f).run P w=.ok ⟨b,off+f.offset,none⟩ w:=by
 have:¬ s=0:=by omega
 simp [fieldPlace,bY hs,this,fg]
theorem ach (hM:Mem w0 N0 g T w)(hρ:∀ x,aT w (aB N0 g T) g T (ρ x) (a.eval x)){t:TypeId}{x:Operand}{k:Nat}{fs:Array Field}{fd:Field}{s:Nat}(ho:o.op=.fieldAddr t x k)
  (hu:P.underlying t=some (.struct fs)) (hf:fs[k]?=some fd) (hs:bL P fd.type=some s) (h0:0 < s)
  (he:eff P E T ρ dst (.faddr fd.offset x)=some (y,es)):bj r n P o a w (Res w0 N0 g T w y es):=by
 have run:∀ b off,a.eval x=.pointer (some ⟨b,off,none⟩)->(execOp a.eval o).run P w=.ok (.value (.pointer (some ⟨b,off+fd.offset,none⟩))) w:=fun b off hx=>by
  simp [execOp,ho,hx,Instr.fieldAt,run_underlying hu,hf,Instr.sureAddr,Er hs h0]
 have hd:∀ c,o.op ≠ .defer c:=fun c h=>by rw [ho] at h;cases h
 simp only [eff] at he;split at he
 ·rename_i m off hx
  obtain⟨h1,b,hb,hv⟩:=bf (hρ x) hx;simp only [zaI,zbI] at he;obtain⟨rfl,rfl⟩:=he;exact bj.value hd (run b off hv) (Res.same hM ⟨_,rfl,h1,b,hb,rfl⟩)
 ·rename_i m i off hx
  obtain⟨h1,b,o',len,cap,hsv,hv⟩:=bf (hρ x) hx;simp only [zaI,zbI] at he;obtain⟨rfl,rfl⟩:=he;exact bj.value hd (run b _ hv) (Res.same hM ⟨_,rfl,h1,b,o',len,cap,hsv,by simp [Nat.add_assoc]⟩)
 ·rename_i cs off hx
  have hd':=bf (hρ x) hx;generalize hv:a.eval x=v at hd';change aX w (aB N0 g T) (.cref cs off) v at hd';simp only [zaI,zbI] at he;obtain⟨rfl,rfl⟩:=he;cases hd' with
  | @cref _ b o' _ f hN hb hc hd'=>
   refine bj.value hd (run b _ hv) (Res.same hM ⟨_,rfl,?_⟩);have:=aX.cref (off:=off+fd.offset) f hN hb hc hd';simpa [dr,Nat.add_assoc] using this
 ·cases he
theorem vL {t e:TypeId}{s:Nat}(hu:P.underlying t=some (.slice e))(hs:bL P e=some s){b off len cap:Nat}{k:IntKind}{z:Int}(h0:0<=z)(h1:z < len)(w:World) :
  (Instr.indexAt t (.slice (some ⟨b,off,none⟩) len cap) (.int k z)).run P w=.ok (.pointer (some ⟨b,off+z.toNat*s,none⟩)) w:=by
 simp [Instr.indexAt,asIntOf,run_underlying hu,h0,h1,bY hs,fg]
theorem vY {t e:TypeId}{s len:Nat}(hu:P.underlying t=some (.array len e))(hs:bL P e=some s){b off:Nat}{k:IntKind}{z:Int}(h0:0<=z)(h1:z < len)(w:World) :
  (Instr.indexAt t (.pointer (some ⟨b,off,none⟩)) (.int k z)).run P w=.ok (.pointer (some ⟨b,off+z.toNat*s,none⟩)) w:=by
 simp [Instr.indexAt,asIntOf,run_underlying hu,Instr.sureAddr,h0,h1,bY hs,fg]
theorem EX (hM:Mem w0 N0 g T w)(hρ:∀ x,aT w (aB N0 g T) g T (ρ x) (a.eval x)){t e:TypeId}{x i:Operand}{s:Nat}(ho:o.op=.indexAddr t x i)
  (hu:P.underlying t=some (.slice e)) (hs:bL P e=some s)
  (he:eff P E T ρ dst (.iaddr s none x i)=some (y,es)):bj r n P o a w (Res w0 N0 g T w y es):=by
 have hd:∀ c,o.op ≠ .defer c:=fun c h=>by rw [ho] at h;cases h
 have run:∀ b off len cap z,nE (ρ i)=some z->a.eval x=.slice (some ⟨b,off,none⟩) len cap->0<=z->z < (len:Nat) ->
   (execOp a.eval o).run P w=.ok (.value (.pointer (some ⟨b,off+z.toNat*s,none⟩))) w:=fun b off len cap z hi hx h0 h1=>by
  obtain⟨k,hk⟩:=mf (hρ i) hi;simp [execOp,ho,hx,hk,vL hu hs h0 h1]
 simp only [eff] at he;split at he
 ·rename_i z rows hi hx
  split at he
  ·rename_i hlen
   obtain⟨h0,h1,h2⟩:=hlen;have hd':=bf (hρ x) hx;generalize hv:a.eval x=v at hd';change aX w (aB N0 g T) (.sl rows) v at hd';simp only [zaI,zbI] at he;obtain⟨rfl,rfl⟩:=he;cases hd' with
   | nil=>simp at h1;omega
   | @sl _ b off cap sz f hne hN hb hsz hl hcap hc hdd=>
    have hz:z.toNat < rows.length:=by omega
    have hrow:=mq hz;have hsz':sz=s:=by rw [<- h2,hl _ (List.mem_of_getElem? hrow)]
    refine bj.value hd (run b off _ cap z hi hv h0 h1) (Res.same hM ⟨_,rfl,?_⟩);subst hsz';have:=aX.cref (w:=w) (N:=aB N0 g T) (cs:=cu rows z.toNat) (b:=b) (o:=off+z.toNat*sz) (off:=0) (fun j=>f z.toNat j) hN hb (fun j hj=>hc z.toNat j hz (by omega)) (fun j d hj=>hdd z.toNat j _ d hrow hj);simpa [dr] using this
  ·cases he
 ·rename_i z m hi hx
  obtain⟨h1,hv,a',l',c',hsl⟩:=bf (hρ x) hx;have key:∀ rows,((∃ s,an T m=some (.own s rows))\/an T m=some (.imm rows)) ->
    (if 0<=z/\z < rows.length/\(cu rows z.toNat).length=s then some (AV.val false [C.eptr m z.toNat 0],([]:List (Nat × aL))) else none)=some (y,es)->bj r n P o a w (Res w0 N0 g T w y es):=by
   intro rows hm he;split at he
   ·rename_i hlen
    obtain⟨h0,h1',h2⟩:=hlen;have hz:z.toNat < rows.length:=by omega
    have hne:rows ≠ []:=fun h=>by subst h;simp at hz
    obtain⟨b,off,cap,h3,h4,h5,h6,h7⟩:=hM.rows hm hne;simp only [zaI,zbI] at he;obtain⟨rfl,rfl⟩:=he;have hst:g.st m=s:=by rw [<- h2,h6 _ (List.mem_of_getElem? (mq hz))]
    refine bj.value hd (run b off _ cap z hi (hv.trans h3) h0 h1') (Res.same hM ⟨_,rfl,h1,b,off,_,cap,h3,by simp [hst]⟩)
   ·cases he
  split at he
  ·rename_i s' rows hm;exact key rows (.inl ⟨_,hm⟩) he
  ·rename_i rows hm;exact key rows (.inr hm) he
  ·cases he
 ·cases he
theorem EM (hM:Mem w0 N0 g T w)(hρ:∀ x,aT w (aB N0 g T) g T (ρ x) (a.eval x)){t e:TypeId}{x i:Operand}{s len:Nat}(ho:o.op=.indexAddr t x i)
  (hu:P.underlying t=some (.array len e)) (hs:bL P e=some s)
  (he:eff P E T ρ dst (.iaddr s (some len) x i)=some (y,es)):bj r n P o a w (Res w0 N0 g T w y es):=by
 have hd:∀ c,o.op ≠ .defer c:=fun c h=>by rw [ho] at h;cases h
 have run:∀ b off z,nE (ρ i)=some z->a.eval x=.pointer (some ⟨b,off,none⟩)->0<=z->z < (len:Nat) ->
   (execOp a.eval o).run P w=.ok (.value (.pointer (some ⟨b,off+z.toNat*s,none⟩))) w:=fun b off z hi hx h0 h1=>by
  obtain⟨k,hk⟩:=mf (hρ i) hi;simp [execOp,ho,hx,hk,vY hu hs h0 h1]
 simp only [eff] at he;split at he
 ·rename_i z m off hi hx
  obtain⟨h1,b,hb,hv⟩:=bf (hρ x) hx;split at he
  ·rename_i hlen
   simp only [zaI,zbI] at he;obtain⟨rfl,rfl⟩:=he;exact bj.value hd (run b off z hi hv hlen.1 hlen.2) (Res.same hM ⟨_,rfl,h1,b,hb,rfl⟩)
  ·cases he
 ·rename_i z m k off hi hx
  obtain⟨h1,b,o',len',cap,hsv,hv⟩:=bf (hρ x) hx;split at he
  ·rename_i hlen
   simp only [zaI,zbI] at he;obtain⟨rfl,rfl⟩:=he;exact bj.value hd (run b _ z hi hv hlen.1 hlen.2) (Res.same hM ⟨_,rfl,h1,b,o',len',cap,hsv,by simp [Nat.add_assoc]⟩)
  ·cases he
 ·rename_i z cs off hi hx
  have hd':=bf (hρ x) hx;generalize hv:a.eval x=v at hd';change aX w (aB N0 g T) (.cref cs off) v at hd';split at he
  ·rename_i hlen
   simp only [zaI,zbI] at he;obtain⟨rfl,rfl⟩:=he;cases hd' with
   | @cref _ b o' _ f hN hb hc hd'=>
    refine bj.value hd (run b _ z hi hv hlen.1 hlen.2) (Res.same hM ⟨_,rfl,?_⟩);have:=aX.cref (off:=off+z.toNat*s) f hN hb hc hd';simpa [dr,Nat.add_assoc] using this
  ·cases he
 ·cases he
theorem q9 {x:AV}{cs:List C}{v:Value}{N:Nat->Prop}(hx:aT w N g T x v)(h:MU x=some cs):gq w N g T true cs v:=by
 unfold MU at h;split at h
 ·simp only [zaI] at h;subst h;exact hx
 ·cases h
theorem Mp {t:TypeId}{d:TypeDesc}{s off:Nat}(hu:P.underlying t=some d)(hs:bL P t=some s){cs:List C}{xs:Array Value}{N:Nat->Prop}(hv:gq w N g T true cs (.agg xs))
  {k:Nat} (hk:k=if bW d then s else 1) (hl:off+k<=cs.length) (hy:iC (bW d) ((cs.drop off).take k)=some y) :
  ∃ u,(part t xs off).run P w=.ok u w/\aT w N g T y u:=by
 obtain⟨xs',h1,h2,h3⟩:=hv;simp only [Value.agg.injEq] at h1;subst h1;unfold iC at hy;cases hd:bW d with
 | true=>
  simp only [hd,if_true,zaI] at hy hk;subst hy;subst hk;refine⟨.agg (xs.extract off (off+k)),by simp [part,qX hu,hd,bY hs],_,rfl,by simp;omega,fun i c x hc hx=>?_⟩;obtain⟨hi,hc⟩:=getElem?_seg hc;refine h3 (off+i) c x hc ?_;rw [Array.getElem?_extract] at hx;split at hx
  ·exact hx
  ·cases hx
 | false=>
  simp only [hd,Bool.false_eq_true,if_false] at hy hk;subst hk;split at hy
  ·rename_i c hds
   simp only [zaI] at hy;subst hy;have hc:((cs.drop off).take 1)[0]?=some c:=by rw [hds];rfl
   obtain⟨_,hc⟩:=getElem?_seg hc;have hlt:off < xs.size:=by omega
   exact⟨xs[off],by simp [part,qX hu,hd,hlt],c,rfl,h3 off c _ (by simpa using hc) (by simp [hlt])⟩
  ·cases hy
theorem Na (hM:Mem w0 N0 g T w)(hρ:∀ x,aT w (aB N0 g T) g T (ρ x) (a.eval x)){t:TypeId}{x:Operand}{k:Nat}{fs:Array Field}{fd:Field}{d:TypeDesc}{s q:Nat}(ho:o.op=.field t x k)
  (hu:P.underlying t=some (.struct fs)) (hf:fs[k]?=some fd) (hd:P.underlying fd.type=some d) (hs:bL P fd.type=some s) (hq:q=if bW d then s else 1)
  (he:eff P E T ρ dst (.field (bW d) fd.offset q x)=some (y,es)):bj r n P o a w (Res w0 N0 g T w y es):=by
 simp only [eff] at he;split at he
 ·rename_i cs hx
  have hv:=q9 (hρ x) hx;obtain⟨xs,hxs,_⟩:=hv;have hv:=q9 (hρ x) hx;rw [hxs] at hv;split at he
  ·rename_i hlen
   cases hy:iC (bW d) ((cs.drop fd.offset).take q) with
   | none=>rw [hy] at he;simp at he
   | some z=>
    rw [hy] at he;simp only [Option.map_some,zaI,zbI] at he;obtain⟨rfl,rfl⟩:=he;obtain⟨u,h1,h2⟩:=Mp hd hs hv hq hlen hy;exact bj.value (fun c h=>by rw [ho] at h;cases h) (v:=u) (by simp [execOp,ho,Instr.field,run_underlying hu,hf,hxs,asAgg,h1]) (Res.same hM h2)
  ·cases he
 ·cases he
theorem Mr (hM:Mem w0 N0 g T w)(hρ:∀ x,aT w (aB N0 g T) g T (ρ x) (a.eval x)){t e:TypeId}{x i:Operand}{len:Nat}{d:TypeDesc}{s q:Nat}(ho:o.op=.index t x i)
  (hu:P.underlying t=some (.array len e)) (hd:P.underlying e=some d) (hs:bL P e=some s) (hq:q=if bW d then s else 1) (hqs:q=s)
  (he:eff P E T ρ dst (.index (bW d) len q x i)=some (y,es)):bj r n P o a w (Res w0 N0 g T w y es):=by
 simp only [eff] at he;split at he
 ·rename_i cs z hx hi
  have hv:=q9 (hρ x) hx;obtain⟨xs,hxs,_⟩:=hv;have hv:=q9 (hρ x) hx;rw [hxs] at hv;obtain⟨k,hk⟩:=mf (hρ i) hi;split at he
  ·rename_i hlen
   obtain⟨h0,h1,h2⟩:=hlen;cases hy:iC (bW d) ((cs.drop (z.toNat*q)).take q) with
   | none=>rw [hy] at he;simp at he
   | some u=>
    rw [hy] at he;simp only [Option.map_some,zaI,zbI] at he;obtain⟨rfl,rfl⟩:=he;obtain⟨u',h3,h4⟩:=Mp hd hs hv hq h2 hy;rw [hqs] at h3;exact bj.value (fun c h=>by rw [ho] at h;cases h) (v:=u') (by simp [execOp,ho,Instr.index,asIntOf,run_underlying hu,hk,hxs,h0,h1,bY hs,h3]) (Res.same hM h4)
  ·cases he
 ·cases he
theorem PZ (hM:Mem w0 N0 g T w)(hρ:∀ x,aT w (aB N0 g T) g T (ρ x) (a.eval x)){x:Operand}{i:Nat}(ho:o.op=.extract x i)
  (he:eff P E T ρ dst (.extract i x)=some (y,es)):bj r n P o a w (Res w0 N0 g T w y es):=by
 simp only [eff] at he;split at he
 ·rename_i l hx
  have h:=hρ x;rw [hx] at h;obtain⟨xs,h1,h2,h3⟩:=h;cases hp:l[i]? with
  | none=>rw [hp] at he;simp at he
  | some p=>
   rw [hp] at he;simp only [Option.map_some,zaI,zbI] at he;obtain⟨rfl,rfl⟩:=he;have hlt:i < xs.size:=by rw [<- h2];exact (List.getElem?_eq_some_iff.1 hp).1
   exact bj.value (fun c h=>by rw [ho] at h;cases h) (v:=xs[i]) (by simp [execOp,ho,Instr.extract,h1,hlt]) (Res.same hM (h3 i p _ hp (by simp [hlt])))
 ·cases he
theorem sm {N:Nat->Prop}(hρ:∀ x,aT w N g T (ρ x) (a.eval x)):∀ {caps:List Operand} {cs:List Cap},sX ρ caps=some cs->cs.length=caps.length /\
  ∀ (i:Nat) (c:Cap) (x:Value),cs[i]?=some c->(caps.map a.eval)[i]?=some x->DW w N g T c x
 | [],cs,h=>by simp [sX] at h;subst h;simp
 | x::rest,cs,h=>by
  simp only [sX] at h;split at h
  ·rename_i m cs' h1 h2
   simp only [zaI] at h;subst h;obtain⟨h3,h4⟩:=sm hρ h2;refine⟨by simp [h3],fun i c u hc hu=>?_⟩;cases i with
   | zero=>
    simp at hc hu;subst hc;subst hu;exact bf (hρ x) h1
   | succ i=>exact h4 i c u (by simpa using hc) (by simpa using hu)
  ·rename_i d cs' h1 h2
   simp only [zaI] at h;subst h;obtain⟨h3,h4⟩:=sm hρ h2;refine⟨by simp [h3],fun i c u hc hu=>?_⟩;cases i with
   | zero=>
    simp at hc hu;subst hc;subst hu;exact bf (hρ x) h1
   | succ i=>exact h4 i c u (by simpa using hc) (by simpa using hu)
  ·cases h
theorem aqF (hM:Mem w0 N0 g T w)(hρ:∀ x,aT w (aB N0 g T) g T (ρ x) (a.eval x)){f:Nat}{first caps:Array Operand}(ho:o.op=.makeFunc (.func f) first caps)(hf:first.size=0)
  (he:eff P E T ρ dst (.mkfn f caps.toList)=some (y,es)):bj r n P o a w (Res w0 N0 g T w y es):=by
 simp only [eff] at he;cases hc:sX ρ caps.toList with
 | none=>rw [hc] at he;simp at he
 | some cs=>
  rw [hc] at he;simp only [Option.map_some,zaI,zbI] at he;obtain⟨rfl,rfl⟩:=he;obtain⟨h1,h2⟩:=sm hρ hc;have hf':first=#[]:=Array.eq_empty_of_size_eq_zero hf;refine bj.value (fun c h=>by rw [ho] at h;cases h) (v:=.func (.func f) #[] (caps.map a.eval)) (by simp [execOp,ho,Instr.makeFunc,hf']) (Res.same hM ⟨_,rfl,_,rfl,by simp [h1],fun i c x hci hx=>h2 i c x hci ?_⟩);rw [<- Array.getElem?_toList] at hx;simpa using hx
theorem abC (hM:Mem w0 N0 g T w)(hρ:∀ x,aT w (aB N0 g T) g T (ρ x) (a.eval x)){x:Operand}(ho:o.op=.nilCheck x)
  (he:eff P E T ρ dst (.nilchk x)=some (y,es)):bj r n P o a w (Res w0 N0 g T w y es):=by
 have hd:∀ c,o.op ≠ .defer c:=fun c h=>by rw [ho] at h;cases h
 simp only [eff] at he;split at he <;> simp only [zaI,zbI,reduceCtorEq] at he
 ·rename_i hx
  obtain⟨rfl,rfl⟩:=he;obtain⟨_,b,_,hv⟩:=bf (hρ x) hx;exact bj.value hd (v:=a.eval x) (by simp [execOp,ho,hv]) (Res.same hM (hρ x))
 ·rename_i hx
  obtain⟨rfl,rfl⟩:=he;obtain⟨_,b,o',len,cap,_,hv⟩:=bf (hρ x) hx;exact bj.value hd (v:=a.eval x) (by simp [execOp,ho,hv]) (Res.same hM (hρ x))
 ·rename_i cs off hx
  obtain⟨rfl,rfl⟩:=he;have hd':=bf (hρ x) hx;generalize hv:a.eval x=v at hd';change aX w (aB N0 g T) (.cref cs off) v at hd';refine bj.value hd (v:=a.eval x) ?_ (Res.same hM (hρ x));cases hd';simp [execOp,ho,hv]
 ·rename_i f caps hx
  obtain⟨rfl,rfl⟩:=he;obtain⟨cs,hv,_⟩:=bf (hρ x) hx;exact bj.value hd (v:=a.eval x) (by simp [execOp,ho,hv]) (Res.same hM (hρ x))
 ·rename_i f caps hx
  obtain⟨rfl,rfl⟩:=he;have hd':=bf (hρ x) hx;generalize hv:a.eval x=v at hd';change aX w (aB N0 g T) (.fn f caps) v at hd';refine bj.value hd (v:=a.eval x) ?_ (Res.same hM (hρ x));cases hd';simp [execOp,ho,hv]
theorem dc {k:FloatKind}{n:Nat}:bM k n=true ↔ ∃ s t,k.decode n=.nan s t:=by
 unfold bM;split
 ·rename_i s t h;exact⟨fun _=>⟨s,t,h⟩,fun _=>rfl⟩
 ·rename_i h;exact⟨nofun,fun ⟨s,t,h'⟩=>absurd h' (h s t)⟩
theorem avD (t:Nat):bM .f32 ((t % 2)*2 ^ 31+0x7f800000+1+(t / 2) % (2 ^ 23 - 1))=true:=by
 have h1:Ieee.single.signWeight=2147483648:=by decide
 have h2:Ieee.single.binade=8388608:=by decide
 have h3:Ieee.single.infRung=2139095040:=by decide
 rw [dc];simp only [FloatKind.decode,FloatKind.format,Ieee.Format.read,h1,h2,h3];have hr:((t % 2)*2 ^ 31+0x7f800000+1+(t / 2) % (2 ^ 23 - 1)) % 2147483648=2139095041+(t / 2) % 8388607:=by omega
 rw [hr,if_neg (by omega),if_neg (by omega),if_neg (by omega)];exact⟨_,_,rfl⟩
theorem avF (t:Nat):bM .f64 ((t % 2)*2 ^ 63+0x7ff0000000000000+1+(t / 2) % (2 ^ 52 - 1))=true:=by
 have h1:Ieee.double.signWeight=9223372036854775808:=by decide
 have h2:Ieee.double.binade=4503599627370496:=by decide
 have h3:Ieee.double.infRung=9218868437227405312:=by decide
 rw [dc];simp only [FloatKind.decode,FloatKind.format,Ieee.Format.read,h1,h2,h3];have hr:((t % 2)*2 ^ 63+0x7ff0000000000000+1+(t / 2) % (2 ^ 52 - 1)) % 9223372036854775808=9218868437227405313+(t / 2) % 4503599627370495:=by omega
 rw [hr,if_neg (by omega),if_neg (by omega),if_neg (by omega)];exact⟨_,_,rfl⟩
theorem sU {N:Nat->Prop}{x:AV}{v:Value}{k:FloatKind}{b:Option Nat}(hx:aT w N g T x v)(h:L2 x=some (k,b)):∃ n,v=.float k n/\(match b with | some m=>m=n | none=>bM k n=true):=by
 unfold L2 at h;split at h
 ·rename_i k' n
  simp only [zaI,zbI] at h;obtain⟨rfl,rfl⟩:=h;obtain⟨c,h1,h2⟩:=hx;simp only [List.cons.injEq,and_true] at h1;subst h1;change aX w N (.v (.float _ _)) v at h2;cases h2;exact⟨_,rfl,rfl⟩
 ·rename_i k'
  simp only [zaI,zbI] at h;obtain⟨rfl,rfl⟩:=h;obtain⟨c,h1,h2⟩:=hx;simp only [List.cons.injEq,and_true] at h1;subst h1;change aX w N (.nan _) v at h2;cases h2 with
  | nan hn=>exact⟨_,rfl,hn⟩
 ·cases h
theorem Mem.grow0 (hM:Mem w0 N0 g T w)(h:Below w.heap.size w w'):Mem w0 N0 g T w'/\bg N0 g T w g T w':=by
 have hK:bg N0 g T w g T w':=bg.of h.size (fun b hb _=>h.block b hb) (fun _ _ h=>h) (fun _ h=>h) fun _ _=>⟨rfl,rfl,rfl⟩
 exact⟨hM.upd (.of h hM.below.size) hK (fun m e he=>.inl ⟨he,fun b hlv hb=>h.block b (hM.rng m b hlv hb).2⟩) hM.inj (fun n b h1 h2=>⟨(hM.rng n b h1 h2).1,Nat.lt_of_lt_of_le (hM.rng n b h1 h2).2 h.size⟩),hK⟩
theorem Res.nan (hM:Mem w0 N0 g T w)(h:Below w.heap.size w w'){k:FloatKind}{n:Nat}(hn:bM k n=true):Res w0 N0 g T w (.val false [.d (.nan k)]) [] (.float k n) w':=by
 obtain⟨h1,h2⟩:=hM.grow0 h;exact⟨g,h1,h2,.d (.nan k),rfl,aX.nan hn⟩
theorem ab9 (k:FloatKind)(x y t:Nat):bM k ((Question.nanBits k x y).cut t)=true:=by
 cases k with
 | f32=>exact avD t
 | f64=>exact avF t
theorem ahE (k:FloatKind)(x t:Nat):bM k ((Question.nanConv k x).cut t)=true:=by
 cases k with
 | f32=>exact avD t
 | f64=>exact avF t
theorem Gd {op:BinOp}{k:FloatKind}{m n:Nat}(h:bM k m=true\/bM k n=true)(ho:op=.add\/op=.sub\/op=.mul\/op=.quo):eT op k m n=none:=by
 have key:∀ d e:Ieee.Datum,((∃ s t,d=.nan s t)\/∃ s t,e=.nan s t)->d.sum e=none/\d.sum e.opposite=none/\d.product e=none/\∀ q,d.quotient q e=none:=by
  rintro d e (⟨s,t,rfl⟩ | ⟨s,t,rfl⟩)
  ·refine⟨rfl,rfl,rfl,fun _=>rfl⟩
  ·cases d <;> exact⟨rfl,rfl,rfl,fun _=>rfl⟩
 have hk:=key (k.decode m) (k.decode n) (h.imp dc.1 dc.1);simp only [FloatKind.decode] at hk;rcases ho with rfl | rfl | rfl | rfl
 ·simp only [eT,Ieee.Format.add,hk.1,Option.map_none]
 ·simp only [eT,Ieee.Format.sub,hk.2.1,Option.map_none]
 ·simp only [eT,Ieee.Format.mul,hk.2.2.1,Option.map_none]
 ·simp only [eT,Ieee.Format.div,hk.2.2.2,Option.map_none]
theorem abo {k:FloatKind}{m n:Nat}(h:bM k m=true\/bM k n=true):k.format.order m n=none:=by
 have key:∀ d e:Ieee.Datum,((∃ s t,d=.nan s t)\/∃ s t,e=.nan s t)->d.order e=none:=by
  rintro d e (⟨s,t,rfl⟩ | ⟨s,t,rfl⟩)
  ·rfl
  ·cases d <;> rfl
 exact key (k.decode m) (k.decode n) (h.imp dc.1 dc.1)
theorem E3 {op:BinOp}{t:TypeId}{p q:Operand}{k:FloatKind}{m n:Nat}(ho:op=.add\/op=.sub\/op=.mul\/op=.quo)(h:eT op k m n=none)(w:World) :
  ∃ z,bM k z=true/\(do eqGuard op t p q (.float k m) (.float k n);binOp op t (.float k m) (.float k n):Sem Value).run P w=.ok (.float k z) w.drew:=by
 have hf:(Question.nanBits k m n).forced=false:=rfl;refine⟨(Question.nanBits k m n).cut (w.tape w.drawn (.nanBits k m n)),ab9 _ _ _ _,?_⟩;rcases ho with rfl | rfl | rfl | rfl <;> simp only [eT] at h <;> simp [eqGuard,binOp,Op.floatArith,h,hf]
def axN:BinOp->Bool
 | .neq=>true
 | _=>false
theorem NO {op:BinOp}{t:TypeId}{p q:Operand}{k:FloatKind}{m n:Nat}(ho:op=.eql\/op=.neq\/op=.lss\/op=.leq\/op=.gtr\/op=.geq)(h:bM k m=true\/bM k n=true)(w:World) :
  (do eqGuard op t p q (.float k m) (.float k n);binOp op t (.float k m) (.float k n):Sem Value).run P w=.ok (.bool (axN op)) w:=by
 have:=abo h;rcases ho with rfl | rfl | rfl | rfl | rfl | rfl <;> simp [eqGuard,binOp,Op.floatCmp,this,axN]
theorem JU {src d:TypeId}{u:TypeDesc}{s kk:FloatKind}{n:Nat}(h1:P.underlying src=some u)(h2:P.underlying d=some (.float kk))(hn:bM s n=true)(w:World) :
  ∃ z w',bM kk z=true/\Below w.heap.size w w'/\(convert src d (.float s n)).run P w=.ok (.float kk z) w':=by
 obtain⟨sg,fr,hd⟩:=dc.1 hn;by_cases hs:s=kk
 ·subst hs
  refine⟨n,w,hn,Below.refl _ w,?_⟩;simp [convert,Sem.run_bind,run_underlying h1 w,run_underlying h2 w,Conv.floatToFloat]
 ·have hf:(Question.nanConv kk n).forced=false:=rfl
  refine⟨_,w.drew,ahE kk n (w.tape w.drawn (.nanConv kk n)),(Below.refl _ w).drew,?_⟩;simp [convert,Sem.run_bind,run_underlying h1 w,run_underlying h2 w,Conv.floatToFloat,hs,hd,hf]
theorem EB {fn : Func} (h : fn.name = "math.archTrunc") : Extern.find fn = some (Extern.MathFloor.toIntegral "math.archTrunc" .zero) := by
 have e1 : Extern.allGenericRows.lookup "math.archTrunc" = none := by kernel_rfl
 have e2 : Extern.allTypedRows.lookup "math.archTrunc" = none := by kernel_rfl
 have e3 : Extern.allRows.lookup "math.archTrunc" = some (Extern.MathFloor.toIntegral "math.archTrunc" .zero) := by kernel_rfl
 unfold Extern.find;simp only [h,e1,e2,e3];rfl
theorem aaw (s:Bool)(t:Nat)(ht:0 < t/\t < 4503599627370496):bM .f64 (FloatKind.f64.encode (.nan s t))=true:=by
 have h1:Ieee.double.signWeight=9223372036854775808:=by decide
 have h2:Ieee.double.binade=4503599627370496:=by decide
 have h3:Ieee.double.infRung=9218868437227405312:=by decide
 rw [dc];simp only [FloatKind.decode,FloatKind.encode,FloatKind.format,Ieee.Format.write,Ieee.Format.word,Ieee.Format.read,h1,h2,h3];have hm:t % 4503599627370496=t:=Nat.mod_eq_of_lt ht.2;have hr:(if s=true then 9223372036854775808+(9218868437227405312+t % 4503599627370496) else 9218868437227405312+t % 4503599627370496) % 9223372036854775808=9218868437227405312+t:=by
  cases s
  ·simp only [Bool.false_eq_true,if_false];omega
  ·simp only [if_true];omega
 rw [hr,if_neg (by omega),if_neg (by omega),if_neg (by omega)];exact⟨_,_,rfl⟩
theorem Ih {n:Nat}{s:Bool}{t:Nat}(h:FloatKind.f64.decode n=.nan s t):0 < t/\t < 4503599627370496:=by
 have h1:Ieee.double.signWeight=9223372036854775808:=by decide
 have h2:Ieee.double.binade=4503599627370496:=by decide
 have h3:Ieee.double.infRung=9218868437227405312:=by decide
 simp only [FloatKind.decode,FloatKind.format,Ieee.Format.read,h1,h2,h3] at h;split at h
 ·cases h
 ·split at h
  ·cases h
  ·split at h
   ·cases h
   ·simp only [Ieee.Datum.nan.injEq] at h
    omega
theorem ada {t:Nat}(h:t < 4503599627370496)(h0:0 < t):0 < Ieee.double.quiet t/\Ieee.double.quiet t < 4503599627370496:=by
 have e:Ieee.double.quiet t=t ||| 2 ^ 51:=rfl;rw [e];constructor
 ·have:=Nat.left_le_or (n:=t) (m:=2 ^ 51);omega
 ·exact Nat.or_lt_two_pow (n:=52) h (by decide)
theorem EZ {f : FuncId} {fn : Func} (hf : P.funcs[f]? = some fn) (hn : fn.name = "math.archTrunc") (hb : fn.body.isNone = true) (hx : (Extern.findNext fn).isNone = true) {n : Nat} (hnan : bM .f64 n = true) (w : World) :
  ∃ z w',bM .f64 z=true/\Below w.heap.size w w'/\(callFunc f #[.float .f64 n]).run P w=.ok (.value (.float .f64 z)) w':=by
 obtain⟨s,t,hd⟩:=dc.1 hnan;have hft:=Ih hd;have hx':Extern.findNext fn=none:=by cases hq:Extern.findNext fn <;> simp_all
 have hb':fn.body=none:=by cases hq:fn.body <;> simp_all
 have h1 : ¬ fn.name = "runtime.NumGoroutine" := by rw [hn]; decide
 have run : ∀ r : Result Value, (Extern.MathFloor.toIntegral "math.archTrunc" .zero #[.float .f64 n]).run P w = r → (callFunc f #[.float .f64 n]).run P w = (match r with | .ok v w' => .ok (.value v) w' | .halt h w' => .halt h w') := by
  intro r hr;simp only [callFunc,Sem.run_bind];simp [hf,h1,hb',hx',EB hn,hr];cases r <;> rfl
 have te : Extern.MathFloor.toIntegral "math.archTrunc" .zero #[.float .f64 n] = (if FloatKind.f64.format.quiet t = t then pure (.float .f64 n) else do
   let kept ← choose (.extern "math.Floor,Ceil,Trunc,RoundToEven.signallingNaN kept" 2)
   pure (.float .f64 (if kept == 1 then n else FloatKind.f64.encode (.nan s (FloatKind.f64.format.quiet t))))):=by
  show (match FloatKind.f64.decode n with
   | .nan s t=>
    if FloatKind.f64.format.quiet t=t then pure (.float .f64 n) else do
     let kept ← choose (.extern "math.Floor,Ceil,Trunc,RoundToEven.signallingNaN kept" 2)
     pure (.float .f64 (if kept == 1 then n else FloatKind.f64.encode (.nan s (FloatKind.f64.format.quiet t))))
   | d=>pure (.float .f64 (FloatKind.f64.encode (d.integral .zero))):Sem Value)=_
  rw [hd]
 by_cases hq:FloatKind.f64.format.quiet t=t
 ·refine⟨n,w,hnan,Below.refl _ w,?_⟩
  rw [run (.ok (.float .f64 n) w) (by rw [te,if_pos hq];rfl)]
 ·have hfo : (Question.extern "math.Floor,Ceil,Trunc,RoundToEven.signallingNaN kept" 2).forced = false := rfl
  have hqq:=ada hft.2 hft.1;have hw:=aaw s (FloatKind.f64.format.quiet t) hqq;by_cases hk : ((Question.extern "math.Floor,Ceil,Trunc,RoundToEven.signallingNaN kept" 2).cut (w.tape w.drawn (Question.extern "math.Floor,Ceil,Trunc,RoundToEven.signallingNaN kept" 2))) = 1
  ·refine⟨n,w.drew,hnan,(Below.refl _ w).drew,?_⟩
   rw [run (.ok (.float .f64 n) w.drew) (by rw [te,if_neg hq];simp [hfo,hk])]
  ·refine⟨_,w.drew,hw,(Below.refl _ w).drew,?_⟩
   rw [run (.ok (.float .f64 (FloatKind.f64.encode (.nan s (FloatKind.f64.format.quiet t)))) w.drew) (by rw [te,if_neg hq];simp [hfo,hk])]
theorem PK (hM:Mem w0 N0 g T w)(hρ:∀ x,aT w (aB N0 g T) g T (ρ x) (a.eval x))(hd:∀ c,o.op ≠ .defer c){k:FloatKind}(he:dp P o.op ρ=some k):bj r n P o a w (Res w0 N0 g T w (.val false [.d (.nan k)]) []):=by
 unfold dp at he;split at he
 ·rename_i src d x ho
  split at he
  ·rename_i u kk s b h1 h2 h3
   obtain⟨m,hv,hb⟩:=sU (hρ x) h3;have hk:bM s m=true/\kk=k:=by
    split at he
    ·rename_i hs
     split at he
     ·simp only [zaI] at he;exact⟨hb,he⟩
     ·cases he
    ·split at he
     ·simp only [zaI] at he;exact⟨hb,he⟩
     ·rename_i n'
      split at he
      ·rename_i hn;simp only [zaI] at he;simp only at hb;subst hb;exact⟨hn,he⟩
      ·cases he
   obtain⟨hk1,rfl⟩:=hk;obtain⟨z,w',hz,hB,hr⟩:=JU h1 h2 hk1 w;exact bj.value hd (v:=.float kk z) (by simp [execOp,ho,hv,hr]) (Res.nan hM hB hz)
  ·cases he
 ·rename_i c ho
  split at he
  ·rename_i f x hc ha
   split at he
   ·rename_i fn b hf h3
    split at he
    ·rename_i hcond
     obtain⟨hn,hb,hx⟩:=hcond;obtain⟨m,hv,hbb⟩:=sU (hρ x) h3;have hk:bM .f64 m=true/\FloatKind.f64=k:=by
      split at he
      ·simp only [zaI] at he;exact⟨hbb,he⟩
      ·split at he
       ·rename_i hn;simp only [zaI] at he;simp only at hbb;subst hbb;exact⟨hn,he⟩
       ·cases he
     obtain⟨hk1,rfl⟩:=hk;obtain⟨z,w',hz,hB,hr⟩:=EZ hf hn hb hx hk1 w;have ha':c.args=#[x]:=by rw [<- Array.toArray_toList (xs:=c.args),ha]
     have hev:a.eval (.func f)=.func (.func f) #[] #[]:=rfl;refine bj.value hd (v:=.float .f64 z) ?_ (Res.nan hM hB hz);simp only [execOp,ho,resolve,hc,hev];simp [Deferred.ofValue,invoke,ha',hv,hr]
    ·cases he
   ·cases he
  ·cases he
 ·cases he
theorem vx (hM:Mem w0 N0 g T w)(hρ:∀ x,aT w (aB N0 g T) g T (ρ x) (a.eval x))(hs:∀ cs b,o.op ≠ .select cs b)(hd:∀ c,o.op ≠ .defer c)
  (he:eff P E T ρ dst (.pure o)=some (y,es)):bj r n P o a w (Res w0 N0 g T w y es):=by
 simp only [eff] at he;split at he
 ·rename_i k hk
  simp only [zaI,zbI] at he;obtain⟨rfl,rfl⟩:=he;exact PK hM hρ hd hk
 ·split at he
  ·rename_i hall
   split at he
   ·rename_i v hv
    simp only [zaI,zbI] at he;obtain⟨rfl,rfl⟩:=he;refine bj.value hd (v:=v) ?_ (Res.same hM (qR v));rw [execOp_congr (ρ':=fun x=>(dC ρ x).getD undef) o hs]
    ·exact sK hv w
    ·intro x hx
     have:=List.all_eq_true.1 hall x (by simpa using hx);obtain⟨u,hu⟩:=Option.isSome_iff_exists.1 this;rw [hu];unfold dC at hu;split at hu
     ·simp only [zaI] at hu;subst hu;rfl
     ·exact lm (hρ _) hu
   ·cases he
  ·cases he
theorem FI (hM:Mem w0 N0 g T w)(hρ:∀ x,aT w (aB N0 g T) g T (ρ x) (a.eval x)){op:BinOp}{t u:TypeId}{p q:Operand}(ho:o.op=.binOp op t p q u){c:C}(he:mE op (ρ p) (ρ q)=some c) :
  bj r n P o a w (Res w0 N0 g T w (.val false [c]) []):=by
 have hd:∀ c,o.op ≠ .defer c:=fun c h=>by rw [ho] at h;cases h
 unfold mE at he;split at he
 ·rename_i k x k' z hx hz
  split at he
  ·rename_i hk;subst hk
   obtain⟨m1,hv1,hb1⟩:=sU (hρ p) hx;obtain⟨m2,hv2,hb2⟩:=sU (hρ q) hz;have arith:(op=.add\/op=.sub\/op=.mul\/op=.quo)->eT op k m1 m2=none->bj r n P o a w (Res w0 N0 g T w (.val false [.d (.nan k)]) []):=fun hop hn=>by
    obtain⟨zz,h1,h2⟩:=E3 (P:=P) (t:=t) (p:=p) (q:=q) hop hn w;refine bj.value hd (v:=.float k zz) ?_ (Res.nan hM (Below.refl _ w).drew h1);simp only [Sem.run_bind] at h2;simp only [execOp,ho,hv1,hv2,Sem.run_bind];rw [h2];rfl
   have cmp:∀ b:Bool,(op=.eql\/op=.neq\/op=.lss\/op=.leq\/op=.gtr\/op=.geq)->(bM k m1=true\/bM k m2=true)->b=axN op->bj r n P o a w (Res w0 N0 g T w (.val false [.d (.v (.bool b))]) []):=fun b hop hn hb=>by
    have h2:=NO (P:=P) (t:=t) (p:=p) (q:=q) hop hn w;refine bj.value hd (v:=.bool b) ?_ (Res.same hM ⟨_,rfl,aX.v rfl⟩);simp only [Sem.run_bind] at h2;simp only [execOp,ho,hv1,hv2,Sem.run_bind];rw [h2,hb];rfl
   have nn:∀ {b:Bool},cmN b x z=some c->c=.d (.v (.bool b))/\(bM k m1=true\/bM k m2=true):=fun {b} h=>by
    cases x with
    | none=>simp only [cmN,zaI] at h;exact⟨h.symm,.inl hb1⟩
    | some x=>
     cases z with
     | none=>simp only [cmN,zaI] at h;exact⟨h.symm,.inr hb2⟩
     | some z=>cases h
   have ar:(op=.add\/op=.sub\/op=.mul\/op=.quo)->arN op k x z=some c->c=.d (.nan k)/\eT op k m1 m2=none:=fun hop h=>by
    cases x with
    | none=>simp only [arN,zaI] at h;exact⟨h.symm,Gd (.inl hb1) hop⟩
    | some x=>
     cases z with
     | none=>simp only [arN,zaI] at h;exact⟨h.symm,Gd (.inr hb2) hop⟩
     | some z=>
      simp only at hb1 hb2;subst hb1;subst hb2;simp only [arN] at h;split at h
      ·rename_i ha;simp only [zaI] at h;exact⟨h.symm,ha⟩
      ·cases h
   cases op with
   | add=>obtain⟨rfl,h⟩:=ar (by simp) he;exact arith (by simp) h
   | sub=>obtain⟨rfl,h⟩:=ar (by simp) he;exact arith (by simp) h
   | mul=>obtain⟨rfl,h⟩:=ar (by simp) he;exact arith (by simp) h
   | quo=>obtain⟨rfl,h⟩:=ar (by simp) he;exact arith (by simp) h
   | eql=>obtain⟨rfl,h⟩:=nn he;exact cmp false (by simp) h rfl
   | neq=>obtain⟨rfl,h⟩:=nn he;exact cmp true (by simp) h rfl
   | lss=>obtain⟨rfl,h⟩:=nn he;exact cmp false (by simp) h rfl
   | leq=>obtain⟨rfl,h⟩:=nn he;exact cmp false (by simp) h rfl
   | gtr=>obtain⟨rfl,h⟩:=nn he;exact cmp false (by simp) h rfl
   | geq=>obtain⟨rfl,h⟩:=nn he;exact cmp false (by simp) h rfl
   | _=>cases he
  ·cases he
 ·cases he
theorem aaK {N:Nat->Prop}{x:AV}{v:Value}(h:aT w N g T x v)(hs:ah3 x=true):∃ b,v=.pointer (some b):=by
 unfold ah3 at hs;split at hs
 ·obtain⟨c,e,h⟩:=h
  simp only [List.cons.injEq,and_true] at e;subst e;obtain⟨_,b,_,hv⟩:=h;exact⟨_,hv⟩
 ·obtain⟨c,e,h⟩:=h
  simp only [List.cons.injEq,and_true] at e;subst e;obtain⟨_,b,o,len,cap,_,hv⟩:=h;exact⟨_,hv⟩
 ·obtain⟨c,e,h⟩:=h
  simp only [List.cons.injEq,and_true] at e;subst e;cases h with
  | cref f hN hb hc hd=>exact⟨_,rfl⟩
 ·cases hs
theorem aa5 {N:Nat->Prop}{x:AV}{v:Value}(h:aT w N g T x v)(hs:ajr x=true):v=.pointer none:=by
 unfold ajr at hs;split at hs
 ·obtain⟨c,e,h⟩:=h
  simp only [List.cons.injEq,and_true] at e;subst e;cases h with
  | v h=>rfl
 ·cases hs
theorem aaM (hM:Mem w0 N0 g T w)(hρ:∀ x,aT w (aB N0 g T) g T (ρ x) (a.eval x)){op:BinOp}{t u:TypeId}{p q:Operand}(ho:o.op=.binOp op t p q u){c:C}(he:xX P op t (ρ p) (ρ q)=some c) :
  bj r n P o a w (Res w0 N0 g T w (.val false [c]) []):=by
 unfold xX at he;split at he
 ·rename_i b hb
  simp only [zaI] at he;subst he;unfold agm at hb;split at hb
  ·rename_i elem hu
   split at hb
   ·rename_i hc
    have hd:∀ c,o.op ≠ .defer c:=fun c h=>by rw [ho] at h;cases h
    simp only [Bool.and_eq_true] at hc;obtain⟨z,hz⟩:=aaK (hρ p) hc.1;have hq:=aa5 (hρ q) hc.2;have hp:P.underlying t=some (.pointer (P.pointee t)):=by simp only [Program.pointee,hu]
    refine bj.value hd (v:=.bool b) ?_ (Res.same hM ⟨_,rfl,aX.v rfl⟩);simp only [execOp,ho,hz,hq,Sem.run_bind];cases op <;> simp only [zaI,reduceCtorEq] at hb
    ·subst hb
     rw [show (eqGuard .eql t p q (.pointer (some z)) (.pointer none):Sem Unit)=pure () from rfl,Sem.run_pure];show ((Sem.run P (binOp BinOp.eql t (Value.pointer (some z)) (Value.pointer none)) w).andThen _)=_;rw [run_eql_pointer_nil w t (some z) hp];rfl
    ·subst hb
     rw [show (eqGuard .neq t p q (.pointer (some z)) (.pointer none):Sem Unit)=pure () from rfl,Sem.run_pure];show ((Sem.run P (binOp BinOp.neq t (Value.pointer (some z)) (Value.pointer none)) w).andThen _)=_;rw [run_neq_pointer_nil w t (some z) hp];rfl
   ·cases hb
  ·cases hb
 ·exact FI hM hρ ho he
theorem azY (hM:Mem w0 N0 g T w)(hρ:∀ x,aT w (aB N0 g T) g T (ρ x) (a.eval x)){op:BinOp}{t u:TypeId}{p q:Operand}(ho:o.op=.binOp op t p q u)
  (he:eff P E T ρ dst (.bin op t p q)=some (y,es)):bj r n P o a w (Res w0 N0 g T w y es):=by
 have nan:(mE op (ρ p) (ρ q)).map (fun c=>(AV.val false [c],([]:List (Nat × aL))))=some (y,es)->bj r n P o a w (Res w0 N0 g T w y es):=fun h=>by
  cases hc:mE op (ρ p) (ρ q) with
  | none=>rw [hc] at h;cases h
  | some c=>
   rw [hc] at h;simp only [Option.map_some,zaI,zbI] at h;obtain⟨rfl,rfl⟩:=h;exact FI hM hρ ho hc
 have mis:(xX P op t (ρ p) (ρ q)).map (fun c=>(AV.val false [c],([]:List (Nat × aL))))=some (y,es)->bj r n P o a w (Res w0 N0 g T w y es):=fun h=>by
  cases hc:xX P op t (ρ p) (ρ q) with
  | none=>rw [hc] at h;cases h
  | some c=>
   rw [hc] at h;simp only [Option.map_some,zaI,zbI] at h;obtain⟨rfl,rfl⟩:=h;exact aaM hM hρ ho hc
 simp only [eff] at he;split at he
 ·rename_i x z hx hz
  split at he
  ·rename_i v hv
   simp only [zaI,zbI] at he;obtain⟨rfl,rfl⟩:=he;have h:=sK (P:=P) (a:=v) hv w;refine bj.value (fun c h=>by rw [ho] at h;cases h) (v:=v) ?_ (Res.same hM (qR v));simp only [execOp,ho,lm (hρ p) hx,lm (hρ q) hz,Sem.run_bind];simp only [Sem.run_bind] at h;rw [h];rfl
  ·exact nan he
 ·exact mis he
theorem yp (hM:Mem w0 N0 g T w){x:AV}{rows:List (List DC)}{v:Value}(hx:aT w (aB N0 g T) g T x v)(h:jK T x=some rows) :
  ∃ a cap,v=.slice a rows.length cap/\(rows=[]\/∃ b off sz,a=some ⟨b,off,none⟩/\b < w.heap.size/\0 < sz/\(∀ r ∈ rows,r.length=sz) /\
   ∀ (i j:Nat) (r:List DC) (d:DC),rows[i]?=some r->r[j]?=some d->∃ c,w.cell? ⟨b,off+i*sz+j,none⟩=some c/\aX w (aB N0 g T) d c):=by
 unfold jK at h;split at h
 ·rename_i rows'
  simp only [zaI] at h;subst h;obtain⟨c,h1,h2⟩:=hx;simp only [List.cons.injEq,and_true] at h1;subst h1;change aX w (aB N0 g T) (.sl rows') v at h2;cases h2 with
  | nil=>exact⟨_,_,rfl,.inl rfl⟩
  | @sl _ b off cap sz f hne hN hb hsz hl hcap hc hdd=>
   refine⟨_,_,rfl,.inr ⟨b,off,sz,rfl,hb,hsz,hl,fun i j r d hr hd=>⟨f i j,hc i j (List.getElem?_eq_some_iff.1 hr).1 ?_,hdd i j r d hr hd⟩⟩⟩;rw [<- hl r (List.mem_of_getElem? hr)];exact (List.getElem?_eq_some_iff.1 hd).1
 ·simp only [zaI] at h
  subst h;obtain⟨c,h1,h2⟩:=hx;simp only [List.cons.injEq,and_true] at h1;subst h1;exact⟨none,0,h2,.inl rfl⟩
 ·rename_i m
  obtain⟨c,h1,h2⟩:=hx;simp only [List.cons.injEq,and_true] at h1;subst h1;obtain⟨_,hv,_⟩:=h2;have key:∀ rows',((∃ s,an T m=some (.own s rows'))\/an T m=some (.imm rows'))->rows'=rows->∃ a cap,v=.slice a rows.length cap/\(rows=[]\/∃ b off sz,a=some ⟨b,off,none⟩/\b < w.heap.size/\0 < sz/\(∀ r ∈ rows,r.length=sz) /\
   ∀ (i j:Nat) (r:List DC) (d:DC),rows[i]?=some r->r[j]?=some d->∃ c,w.cell? ⟨b,off+i*sz+j,none⟩=some c/\aX w (aB N0 g T) d c):=by
   rintro rows' hm rfl
   by_cases hne:rows'=[]
   ·subst hne
    rw [hv];rcases hm with ⟨s,hm⟩ | hm
    ·obtain⟨hs,_⟩:=hM.ents m _ hm
     rcases hs with ⟨h1,_,_⟩ | ⟨b,off,cap,cells,t,fz,_,h2,_⟩
     ·exact⟨none,0,h1,.inl rfl⟩
     ·exact⟨_,_,h2,.inl rfl⟩
    ·obtain⟨hd,_⟩:=hM.ents m _ hm
     generalize g.sv m=u at hd;cases hd with
     | nil=>exact⟨_,_,rfl,.inl rfl⟩
     | sl f hne=>simp at hne
   ·obtain⟨b,off,cap,h3,h4,h5,h6,h7⟩:=hM.rows hm hne
    exact⟨_,cap,hv.trans h3,.inr ⟨b,off,g.st m,rfl,h4,h5,h6,h7⟩⟩
  split at h
  ·rename_i s' rows' hm
   exact key rows' (.inl ⟨_,hm⟩) (by simpa using h)
  ·rename_i rows' hm
   exact key rows' (.inr hm) (by simpa using h)
  ·cases h
 ·rename_i m lo hi
  obtain⟨c,h1,h2⟩:=hx;simp only [List.cons.injEq,and_true] at h1;subst h1;obtain⟨_,hlt,b0,o0,len,cap,cap',hsv,hle,hv⟩:=h2;have key:∀ rows',((∃ s,an T m=some (.own s rows'))\/an T m=some (.imm rows'))->(rows'.take hi).drop lo=rows->∃ a cap,v=.slice a rows.length cap/\(rows=[]\/∃ b off sz,a=some ⟨b,off,none⟩/\b < w.heap.size/\0 < sz/\(∀ r ∈ rows,r.length=sz) /\
   ∀ (i j:Nat) (r:List DC) (d:DC),rows[i]?=some r->r[j]?=some d->∃ c,w.cell? ⟨b,off+i*sz+j,none⟩=some c/\aX w (aB N0 g T) d c):=by
   rintro rows' hm rfl
   have hlen:len=rows'.length\/rows'=[]:=by
    by_cases hne:rows'=[]
    ·exact .inr hne
    ·obtain⟨b,off,cap,h3,_⟩:=hM.rows hm hne
     rw [h3] at hsv;simp only [Value.slice.injEq] at hsv;exact .inl hsv.2.1.symm
   have hne:rows' ≠ []:=by
    intro hnil;subst hnil;rcases hm with ⟨s,hm⟩ | hm
    ·obtain⟨hs,_⟩:=hM.ents m _ hm
     rcases hs with ⟨h1,_,_⟩ | ⟨b,off,cap,cells,t,fz,_,h2,_⟩
     ·rw [h1] at hsv;cases hsv
     ·rw [h2] at hsv
      simp only [Value.slice.injEq,List.length_nil] at hsv;omega
    ·obtain⟨hd,_⟩:=hM.ents m _ hm
     generalize g.sv m=u at hd hsv;cases hd with
     | nil=>simp only [Value.slice.injEq] at hsv;omega
     | sl f hne=>simp at hne
   have hlen':len=rows'.length:=hlen.resolve_right hne;obtain⟨b,off,cap2,h3,h4,h5,h6,h7⟩:=hM.rows hm hne;rw [h3] at hsv;simp only [Value.slice.injEq,zaI,Addr.mk.injEq,and_true] at hsv;obtain⟨⟨rfl,rfl⟩,_,_⟩:=hsv;refine⟨_,cap',by rw [hv];congr 1;simp;omega,.inr ⟨b,off+lo*g.st m,g.st m,rfl,h4,h5,fun r hr=>h6 r (List.mem_of_mem_take (List.mem_of_mem_drop hr)),fun i j r d hr hd=>?_⟩⟩;rw [List.getElem?_drop] at hr;obtain⟨c,hc,hx⟩:=h7 (lo+i) j r d (by rw [List.getElem?_take] at hr;split at hr;exact hr;cases hr) hd;rw [Nat.add_mul,<- Nat.add_assoc] at hc;exact⟨c,hc,hx⟩
  split at h
  ·rename_i s' rows' hm
   exact key rows' (.inl ⟨_,hm⟩) (by simpa using h)
  ·rename_i rows' hm
   exact key rows' (.inr hm) (by simpa using h)
  ·cases h
 ·cases h
theorem ayo (hM:Mem w0 N0 g T w)(hρ:∀ x,aT w (aB N0 g T) g T (ρ x) (a.eval x)){c:Call}{x:Operand}{t:TypeId}{d:TypeId}(ho:o.op=.call c)(hc:c.callee=.builtin .len)(ha:c.args.toList=[x])
  (ht:c.argTypes[0]?=some t) (hu:P.underlying t=some (.slice d))
  (he:eff P E T ρ dst (.len x)=some (y,es)):bj r n P o a w (Res w0 N0 g T w y es):=by
 simp only [eff] at he;cases hr:jK T (ρ x) with
 | none=>rw [hr] at he;simp at he
 | some rows=>
  rw [hr] at he;simp only [Option.map_some,zaI,zbI] at he;obtain⟨rfl,rfl⟩:=he;obtain⟨ad,cap,hv,_⟩:=yp hM (hρ x) hr;have ha':c.args=#[x]:=by rw [<- Array.toArray_toList (xs:=c.args),ha]
  exact bj.value (fun c h=>by rw [ho] at h;cases h) (v:=.int .i64 rows.length)
   (by simp [execOp,ho,resolve,hc,invoke,builtin,ha',hv,Builtin.len_,ht,run_underlying hu,goInt]) (Res.same hM ⟨_,rfl,aX.v rfl⟩)
theorem cU {α:Type}{x:Option α}(h:x.isNone=true):x=none:=by cases x <;> simp_all
theorem Res.newBox (hM:Mem w0 N0 g T w)(hf:(an T dst).isNone=true){cs:List C}{cells:Array Value}{t:TypeId}(hl:cells.size=cs.length)(hok:nK cs=true)
  (hc:∀ (i:Nat) (c:C) (x:Value),cs[i]?=some c->cells[i]?=some x->dr w (aB N0 g T) g T c x) :
  Res w0 N0 g T w (.val false [.ptr dst 0]) [(dst,.box cs)] (.pointer (some ⟨w.heap.size,0,none⟩)) (w.alloc (.cells cells t)):=by
 have hn:=cU hf;obtain⟨h1,h2⟩:=hM.create (w':=w.alloc (.cells cells t)) (e:=.box cs) (ob:=some w.heap.size) (sv:=undef) (s:=0) hn ((Below.refl _ w).alloc (Nat.le_refl _) _)
  (fun b hb=>by simp at hb;subst hb;simp) (fun hK=>⟨w.heap.size,cells,t,by simp [Gh.set],heap_alloc_new w _,hl,fun i c x hci hxi=>hK.c (hc i c x hci hxi),lJ hok⟩)
 exact⟨_,h1,h2,_,rfl,by rw [show aputs T [(dst,aL.box cs)]=aput T dst (.box cs) from rfl,bx];rfl,w.heap.size,by simp [Gh.set],rfl⟩
theorem eM {t:TypeId}{v:Value}(h:wU P t=some v)(w:World):(zeroValue t).run P w=.ok v w:=by
 unfold wU at h;cases hi:P.info? t with
 | none=>simp [hi] at h
 | some i=>simp only [hi,Option.bind_some] at h;simp [zeroValue,typeInfo,hi,h]
theorem mH {t:TypeId}{cs:List C}(h:ry P t=some cs):∃ v,wU P t=some v/\cs=v.cells.toList.map gi/\nK cs=true:=by
 unfold ry at h;cases hz:wU P t with
 | none=>simp [hz] at h
 | some v=>
  simp only [hz,Option.bind_some] at h;split at h
  ·rename_i hok
   simp only [zaI] at h;subst h;exact⟨v,rfl,rfl,hok⟩
  ·cases h
theorem BY {N:Nat->Prop}(v:Value):∀ (i:Nat) (c:C) (x:Value),(v.cells.toList.map gi)[i]?=some c->v.cells[i]?=some x->dr w N g T c x:=by
 intro i c x hc hx;simp only [List.getElem?_map,Array.getElem?_toList,hx,Option.map_some,zaI] at hc;subst hc;exact nc x
theorem akj (hM:Mem w0 N0 g T w){t:TypeId}{cs:List C}(ho:o.op=.alloc t)(hz:ry P t=some cs)
  (he:eff P E T ρ dst (.alloc cs)=some (y,es)):bj r n P o a w (Res w0 N0 g T w y es):=by
 simp only [eff] at he;split at he
 ·rename_i hf
  simp only [zaI,zbI] at he;obtain⟨rfl,rfl⟩:=he;obtain⟨v,h1,h2,h3⟩:=mH hz;refine bj.value (fun c h=>by rw [ho] at h;cases h) (v:=.pointer (some ⟨w.heap.size,0,none⟩)) (w':=w.alloc (.cells v.cells t))
   (by simp [execOp,ho,Instr.alloc,eM h1,newVar,newRow]) (Res.newBox hM hf (by rw [h2];simp) h3 ?_)
  rw [h2];exact BY v
 ·cases he
theorem awO (hM:Mem w0 N0 g T w)(hρ:∀ x,aT w (aB N0 g T) g T (ρ x) (a.eval x)){t:TypeId}{x:Operand}(ho:o.op=.box t x)
  (he:eff P E T ρ dst (.box x)=some (y,es)):bj r n P o a w (Res w0 N0 g T w y es):=by
 simp only [eff] at he;split at he
 ·rename_i cs hx
  split at he
  ·rename_i hf
   simp only [zaI,zbI] at he;obtain⟨rfl,rfl⟩:=he;obtain⟨b,hv⟩:=jL (hρ x) hx;obtain⟨h1,h2,h3⟩:=hv.cells hf.2;exact bj.value (fun c h=>by rw [ho] at h;cases h) (v:=.pointer (some ⟨w.heap.size,0,none⟩)) (w':=w.alloc (.cells (a.eval x).cells t))
    (by simp [execOp,ho,Instr.box,newVar,newRow]) (Res.newBox hM hf.1 h1 hf.2 h2)
  ·cases he
 ·cases he
theorem GT (vs:List Value):∀ (k off:Nat) (cells:Array Value),off+k+vs.length<=cells.size ->
  ((vs.zipIdx k).foldl (fun cs (c,j)=>cs.setIfInBounds (off+j) c) cells).toList=cells.toList.take (off+k)++vs++cells.toList.drop (off+k+vs.length):=by
 induction vs with
 | nil=>intro k off cells _;simp
 | cons v rest ih=>
  intro k off cells h;simp only [List.zipIdx_cons,List.foldl_cons];rw [ih (k+1) off _ (by simp at h ⊢;omega)];have:=list_seg_step cells.toList (off+k) v rest (by simp at h ⊢;omega);simp only [Array.toList_setIfInBounds,<- Nat.add_assoc];simp only [List.length_cons];rw [show off+k+(rest.length+1)=off+k+rest.length+1 by omega];rw [show off+k+(rest.length+1)=off+k+rest.length+1 by omega] at this;rw [<- this]
theorem eB {α:Type}{l xs:List α}{off:Nat}(h:off+xs.length<=l.length)(i:Nat) :
  (splice l off xs)[i]?=if off<=i/\i < off+xs.length then xs[i - off]? else l[i]?:=by
 unfold splice;rw [List.getElem?_append,List.getElem?_append];simp only [List.length_append,List.length_take,Nat.min_eq_left (show off<=l.length by omega),List.getElem?_take,List.getElem?_drop];by_cases h1:i < off
 ·rw [if_neg (show ¬ (off<=i/\i < off+xs.length) by omega),if_pos (show i < off+xs.length by omega),if_pos h1,if_pos h1]
 ·by_cases h2:i < off+xs.length
  ·rw [if_pos (show off<=i/\i < off+xs.length by omega),if_pos h2,if_neg h1]
  ·rw [if_neg (show ¬ (off<=i/\i < off+xs.length) by omega),if_neg h2,show off+xs.length+(i - (off+xs.length))=i by omega]
theorem cP {α:Type}{l xs:List α}{off:Nat}(h:off+xs.length<=l.length):(splice l off xs).length=l.length:=by
 unfold splice;simp;omega
theorem MN {l xs:List C}{off:Nat}(h1:nK l=true)(h2:nK xs=true)(h:off+xs.length<=l.length):nK (splice l off xs)=true:=by
 refine AP fun i c hc=>?_;rw [eB h] at hc;split at hc
 ·exact lJ h2 _ c hc
 ·exact lJ h1 _ c hc
def dQ (w:World)(N:Nat->Prop)(g:Gh)(T:Tab)(cs:List C)(xs:List Value):Prop:=
 xs.length=cs.length/\∀ (i:Nat) (c:C) (x:Value),cs[i]?=some c->xs[i]?=some x->dr w N g T c x
theorem dQ.splice {N:Nat->Prop}{cs ds:List C}{xs us:List Value}{off:Nat}(h:dQ w N g T cs xs)(k:dQ w N g T ds us)(hl:off+ds.length<=cs.length) :
  dQ w N g T (splice cs off ds) (AM.splice xs off us):=by
 have hl':off+us.length<=xs.length:=by rw [k.1,h.1];exact hl
 refine⟨by rw [cP hl,cP hl',h.1],fun i c x hc hx=>?_⟩;rw [eB hl] at hc;rw [eB hl',k.1] at hx;split at hc
 ·rename_i h1;simp only [h1,and_self,if_true] at hx;exact k.2 _ c x hc hx
 ·rename_i h1;rw [if_neg h1] at hx;exact h.2 i c x hc hx
theorem yr {N:Nat->Prop}{ρ:Operand->AV}{ev:Operand->Value}(hρ:∀ x,aT w N g T (ρ x) (ev x))(place:Nat->Option (Nat × Nat)) :
  ∀ (parts:List (Nat × Operand)) (ps:List (Nat × Nat × Operand)) (cs cs':List C) (cells:Array Value),
   (parts.map fun p=>(place p.1).map fun q=>(q.1,q.2,p.2))=ps.map some->dQ w N g T cs cells.toList->ic ρ cs ps=some cs' ->
   ∃ cells',Instr.fill place cells (parts.map fun p=>(p.1,ev p.2))=some cells'/\dQ w N g T cs' cells'.toList
 | [],ps,cs,cs',cells,hp,hc,hb=>by
  cases ps with
  | nil=>simp only [ic,zaI] at hb;subst hb;exact⟨cells,rfl,hc⟩
  | cons=>simp at hp
 | (i,x)::rest,ps,cs,cs',cells,hp,hc,hb=>by
  cases ps with
  | nil=>simp at hp
  | cons q ps=>
   obtain⟨off,sz,x'⟩:=q;simp only [List.map_cons,List.cons.injEq] at hp;obtain⟨hp1,hp2⟩:=hp;cases hpl:place i with
   | none=>simp [hpl] at hp1
   | some q=>
    simp only [hpl,Option.map_some,zaI,zbI] at hp1;obtain⟨rfl,rfl,rfl⟩:=hp1;simp only [ic] at hb;split at hb
    ·rename_i xs hx
     split at hb
     ·rename_i hcond
      obtain⟨h1,h2,h3⟩:=hcond;obtain⟨b,hv⟩:=jL (hρ x) hx;obtain⟨k1,k2,_⟩:=hv.cells h3;have hrel:dQ w N g T xs (ev x).cells.toList:=⟨by simpa using k1,fun i c u hc hu=>k2 i c u hc (by simpa using hu)⟩
      have hsz:cells.size=cs.length:=by simpa using hc.1
      have hfold:(((ev x).cells.zipIdx.foldl (fun cs (c,j)=>cs.setIfInBounds (q.1+j) c) cells)).toList=splice cells.toList q.1 (ev x).cells.toList:=by
       rw [<- Array.foldl_toList,Array.toList_zipIdx];have:=GT (ev x).cells.toList 0 q.1 cells (by simp [k1];omega);simpa [splice] using this
      have:=yr hρ place rest ps _ cs' ((ev x).cells.zipIdx.foldl (fun cs (c,j)=>cs.setIfInBounds (q.1+j) c) cells) hp2 (by rw [hfold];exact hc.splice hrel (by omega)) hb;obtain⟨cells',hf,hr⟩:=this;refine⟨cells',?_,hr⟩;simp only [List.map_cons,Instr.fill,hpl];rw [if_neg (by simp [k1,h1,hsz];omega)];exact hf
     ·cases hb
    ·cases hb
theorem OL {fs:List Field}{places:List (Nat × Nat)}(h:i5 P fs=some places)(w:World) :
  (fs.mapM (m:=Sem) fun f=>do pure (f.offset,<- sizeOf f.type)).run P w=.ok places w:=by
 induction fs generalizing places with
 | nil=>simp [i5] at h;subst h;rfl
 | cons f rest ih=>
  simp only [i5,List.mapM_cons,Option.bind_eq_bind] at h;cases hs:bL P f.type with
  | none=>simp [hs] at h
  | some s=>
   simp only [hs,Option.map_some,Option.bind_some] at h;cases hr:i5 P rest with
   | none=>simp only [i5] at hr;simp [hr] at h
   | some ps=>
    have hr':=hr;simp only [i5] at hr;simp [hr] at h;subst h;simp only [List.mapM_cons,Sem.run_bind,bY hs,Result.andThen_ok,Sem.run_pure,ih hr']
theorem oa {α β:Type}(f:α->Option β):∀ (l:List α) (r:List β),l.mapM f=some r->l.map f=r.map some
 | [],r,h=>by simp at h;subst h;rfl
 | x::l,r,h=>by
  simp only [List.mapM_cons,Option.bind_eq_bind] at h;cases hx:f x with
  | none=>simp [hx] at h
  | some y=>
   simp only [hx,Option.bind_some] at h;cases hr:l.mapM f with
   | none=>simp [hr] at h
   | some ys=>
    simp [hr] at h;subst h;simp [hx,oa f l ys hr]
theorem zB (hM:Mem w0 N0 g T w)(hρ:∀ x,aT w (aB N0 g T) g T (ρ x) (a.eval x)){t:TypeId}{parts:Array (Nat × Operand)}{fs:Array Field}{z:List C}{places:List (Nat × Nat)}{ps:List (Nat × Nat × Operand)}
  (ho:o.op=.build t parts) (hu:P.underlying t=some (.struct fs)) (hz:ry P t=some z) (hp:i5 P fs.toList=some places)
  (hps:(parts.toList.mapM fun p=>(places[p.1]?).map fun q=>(q.1,q.2,p.2))=some ps)
  (he:eff P E T ρ dst (.build z ps)=some (y,es)):bj r n P o a w (Res w0 N0 g T w y es):=by
 simp only [eff] at he;cases hb:ic ρ z ps with
 | none=>rw [hb] at he;simp at he
 | some cs=>
  rw [hb] at he;simp only [Option.map_some,zaI,zbI] at he;obtain⟨rfl,rfl⟩:=he;obtain⟨v,h1,h2,h3⟩:=mH hz;have hrel:dQ w (aB N0 g T) g T z v.cells.toList:=⟨by rw [h2];simp,fun i c x hc hx=>BY v i c x (by rw [<- h2];exact hc) (by simpa using hx)⟩
  obtain⟨cells',hf,hr⟩:=yr hρ (fun i=>places[i]?) parts.toList ps z cs v.cells (oa _ _ _ hps) hrel hb;refine bj.value (fun c h=>by rw [ho] at h;cases h) (v:=.agg cells') ?_ (Res.same hM ⟨cells',rfl,by have:=hr.1;simp at this;omega,fun i c x hc hx=>hr.2 i c x hc (by simpa using hx)⟩);have hpl:(fs.mapM (m:=Sem) fun f=>do pure (f.offset,<- sizeOf f.type)).run P w=.ok places.toArray w:=by
   rw [Array.mapM_eq_mapM_toList,Sem.run_map,OL hp w];rfl
  simp only [execOp,ho,Instr.build,Sem.run_bind,eM h1,Result.andThen_ok,run_underlying hu,hpl,Array.toList_map];simp only [List.getElem?_toArray,hf];rfl
theorem Ch (hM:Mem w0 N0 g T w)(hρ:∀ x,aT w (aB N0 g T) g T (ρ x) (a.eval x)){t e:TypeId}{len s:Nat}{parts:Array (Nat × Operand)}{z:List C}
  (ho:o.op=.build t parts) (hu:P.underlying t=some (.array len e)) (hz:ry P t=some z) (hs:bL P e=some s)
  (he:eff P E T ρ dst (.build z (parts.toList.map fun p=>(p.1*s,s,p.2)))=some (y,es)):bj r n P o a w (Res w0 N0 g T w y es):=by
 simp only [eff] at he;cases hb:ic ρ z (parts.toList.map fun p=>(p.1*s,s,p.2)) with
 | none=>rw [hb] at he;simp at he
 | some cs=>
  rw [hb] at he;simp only [Option.map_some,zaI,zbI] at he;obtain⟨rfl,rfl⟩:=he;obtain⟨v,h1,h2,h3⟩:=mH hz;have hrel:dQ w (aB N0 g T) g T z v.cells.toList:=⟨by rw [h2];simp,fun i c x hc hx=>BY v i c x (by rw [<- h2];exact hc) (by simpa using hx)⟩
  obtain⟨cells',hf,hr⟩:=yr hρ (fun i=>some (i*s,s)) parts.toList _ z cs v.cells (by simp) hrel hb;refine bj.value (fun c h=>by rw [ho] at h;cases h) (v:=.agg cells') ?_ (Res.same hM ⟨cells',rfl,by have:=hr.1;simp at this;omega,fun i c x hc hx=>hr.2 i c x hc (by simpa using hx)⟩);simp only [execOp,ho,Instr.build,Sem.run_bind,eM h1,Result.andThen_ok,run_underlying hu,bY hs,Array.toList_map,hf];rfl
theorem dh {es fs:List (Nat × aL)}:∀ {T:Tab},aputs T (es++fs)=aputs (aputs T es) fs:=by
 induction es with
 | nil=>intro T;rfl
 | cons p r ih=>intro T;exact ih
theorem Ph (hM:Mem w0 N0 g T w){c:C}{x:Value}{d:DC}(hc:dr w (aB N0 g T) g T c x)(h:i7 T c=some (d,es)) :
  Mem w0 N0 g (aputs T es) w/\bg N0 g T w g (aputs T es) w/\aX w (aB N0 g (aputs T es)) d x:=by
 unfold i7 at h;split at h
 ·simp only [zaI,zbI] at h
  obtain⟨rfl,rfl⟩:=h;exact⟨hM,bg.refl,hc⟩
 ·simp only [zaI,zbI] at h
  obtain⟨rfl,rfl⟩:=h;rw [show x=_ from hc];exact⟨hM,bg.refl,.nil⟩
 ·rename_i m
  split at h
  ·rename_i s rows hm
   simp only [zaI,zbI] at h;obtain⟨rfl,rfl⟩:=h;obtain⟨h1,h2⟩:=hM.freeze hm;refine⟨h1,h2,?_⟩;obtain⟨_,rfl,_⟩:=hc;exact (h1.ents m _ (bx T m (.imm rows))).1
  ·rename_i rows hm
   simp only [zaI,zbI] at h;obtain⟨rfl,rfl⟩:=h;obtain⟨_,rfl,_⟩:=hc;exact⟨hM,bg.refl,(hM.ents m _ hm).1⟩
  ·cases h
 ·rename_i f
  simp only [zaI,zbI] at h;obtain⟨rfl,rfl⟩:=h;obtain⟨cs,rfl,h2,_⟩:=hc;exact⟨hM,bg.refl,.fn h2 (by simp)⟩
 ·cases h
theorem ip:∀ {cs:List C} {T:Tab} {xs:List Value} {ds:List DC} {es:List (Nat × aL)},Mem w0 N0 g T w->dQ w (aB N0 g T) g T cs xs->cQ T cs=some (ds,es) ->
  Mem w0 N0 g (aputs T es) w/\bg N0 g T w g (aputs T es) w/\ds.length=cs.length/\∀ (i:Nat) (d:DC) (x:Value),ds[i]?=some d->xs[i]?=some x->aX w (aB N0 g (aputs T es)) d x
 | [],T,xs,ds,es,hM,hc,h=>by
  simp only [cQ,zaI,zbI] at h;obtain⟨rfl,rfl⟩:=h;exact⟨hM,bg.refl,rfl,by simp⟩
 | c::rest,T,xs,ds,es,hM,hc,h=>by
  simp only [cQ] at h;split at h
  ·cases h
  ·rename_i d e h1
   split at h
   ·cases h
   ·rename_i ds' es' h2
    simp only [zaI,zbI] at h;obtain⟨rfl,rfl⟩:=h;cases xs with
    | nil=>have:=hc.1;simp at this
    | cons x xs=>
     obtain⟨k1,k2,k3⟩:=Ph hM (hc.2 0 c x rfl rfl) h1;obtain⟨m1,m2,m3,m4⟩:=ip (T:=aputs T e) (xs:=xs) k1 ⟨by have:=hc.1;simpa using this,fun i c x hci hxi=>k2.c (hc.2 (i+1) c x (by simpa using hci) (by simpa using hxi))⟩ h2;rw [dh];refine⟨m1,k2.trans m2,by simp [m3],fun i d' x' hd hx=>?_⟩;cases i with
     | zero=>simp at hd hx;subst hd;subst hx;exact m2.d _ _ k3
     | succ i=>exact m4 i d' x' (by simpa using hd) (by simpa using hx)
def dl (w:World)(N:Nat->Prop)(sz:Nat)(rows:List (List DC))(cells:List Value):Prop:=
 cells.length=rows.length*sz/\(∀ r ∈ rows,r.length=sz)/\∀ (i j:Nat) (r:List DC) (d:DC),rows[i]?=some r->r[j]?=some d->∃ c,cells[i*sz+j]?=some c/\aX w N d c
theorem sk {i j n sz:Nat}(hi:i < n)(hj:j < sz):i*sz+j < n*sz:=by
 have:(i+1)*sz<=n*sz:=Nat.mul_le_mul_right _ hi;rw [Nat.add_mul,Nat.one_mul] at this;omega
theorem ab1 {i k j sz m:Nat}(h:i ≠ k)(hj:j < sz)(hm:m < sz):i*sz+j ≠ k*sz+m:=by
 intro e;apply h;have h1:(i*sz+j) / sz=i:=by rw [Nat.mul_comm,Nat.mul_add_div (by omega),Nat.div_eq_of_lt hj];rfl
 have h2:(k*sz+m) / sz=k:=by rw [Nat.mul_comm,Nat.mul_add_div (by omega),Nat.div_eq_of_lt hm];rfl
 rw [<- h1,e,h2]
theorem dl.set {N:Nat->Prop}{sz:Nat}{rows:List (List DC)}{cells:List Value}(h:dl w N sz rows cells){i:Nat}(hi:i < rows.length){ds:List DC}{xs:List Value}(hl:ds.length=sz)(hx:xs.length=sz)
  (hd:∀ (j:Nat) (d:DC) (x:Value),ds[j]?=some d->xs[j]?=some x->aX w N d x):dl w N sz (rows.set i ds) (splice cells (i*sz) xs):=by
 have hfit:i*sz+xs.length<=cells.length:=by
  rw [hx,h.1];have:(i+1)*sz<=rows.length*sz:=Nat.mul_le_mul_right _ hi;rw [Nat.add_mul,Nat.one_mul] at this;exact this
 refine⟨by rw [cP hfit,h.1];simp,fun r hr=>?_,fun k j r d hr hdd=>?_⟩
 ·rcases List.mem_or_eq_of_mem_set hr with hr | rfl
  ·exact h.2.1 r hr
  ·exact hl
 ·rw [eB hfit,hx]
  rw [List.getElem?_set] at hr;by_cases hk:i=k
  ·subst hk
   simp only [hi,if_true,zaI] at hr;subst hr;have hj:=(List.getElem?_eq_some_iff.1 hdd).1;rw [if_pos (by omega),show i*sz+j - i*sz=j by omega];obtain⟨x,hxj⟩:∃ x,xs[j]?=some x:=⟨xs[j]'(by omega),by simp⟩
   exact⟨x,hxj,hd j d x hdd hxj⟩
  ·simp only [hk,if_false] at hr
   have hj:j < sz:=by rw [<- h.2.1 r (List.mem_of_getElem? hr)];exact (List.getElem?_eq_some_iff.1 hdd).1
   rw [if_neg]
   ·exact h.2.2 k j r d hr hdd
   ·intro ⟨h1,h2⟩
    exact ab1 (Ne.symm hk) hj (m:=k*sz+j - i*sz) (by omega) (by omega)
theorem dl.keeps {sz:Nat}{rows:List (List DC)}{cells:List Value}(h:dl w (aB N0 g T) sz rows cells)(hK:bg N0 g T w g' T' w'):dl w' (aB N0 g' T') sz rows cells:=
 ⟨h.1,h.2.1,fun i j r d hr hd=>by obtain⟨c,hc,hx⟩:=h.2.2 i j r d hr hd;exact⟨c,hc,hK.d _ _ hx⟩⟩
theorem zj {sz:Nat}{ev:Operand->Value}:∀ (parts:List (Nat × Operand)) {T:Tab} {rows rows':List (List DC)} {e0 es:List (Nat × aL)} {cells:Array Value},Mem w0 N0 g T w ->
  (∀ x,aT w (aB N0 g T) g T (ρ x) (ev x))->dl w (aB N0 g T) sz rows cells.toList->fo ρ sz T rows e0 parts=some (rows',es) ->
  ∃ fs cells',es=e0++fs/\rows'.length=rows.length/\Mem w0 N0 g (aputs T fs) w/\bg N0 g T w g (aputs T fs) w /\
   Instr.fill (fun i=>some (i*sz,sz)) cells (parts.map fun p=>(p.1,ev p.2))=some cells'/\dl w (aB N0 g (aputs T fs)) sz rows' cells'.toList
 | [],T,rows,rows',e0,es,cells,hM,hρ,hR,h=>by
  simp only [fo,zaI,zbI] at h;obtain⟨rfl,rfl⟩:=h;exact⟨[],cells,by simp,rfl,hM,bg.refl,rfl,hR⟩
 | (i,x)::rest,T,rows,rows',e0,es,cells,hM,hρ,hR,h=>by
  simp only [fo] at h;split at h
  ·rename_i xs hx
   split at h
   ·rename_i ds e hfz
    split at h
    ·rename_i hcond
     obtain⟨h1,h2⟩:=hcond;obtain⟨b,hv⟩:=jL (hρ x) hx;have hok:nK xs=true:=by
      refine AP fun j c hc=>?_;have:∀ {cs:List C} {T:Tab} {ds:List DC} {es:List (Nat × aL)},cQ T cs=some (ds,es)->∀ (j:Nat) (c:C),cs[j]?=some c->okC c=true:=by
       intro cs
       induction cs with
       | nil=>intro T ds es _ j c hc;simp at hc
       | cons c0 cr ih=>
        intro T ds es hf j c hc;simp only [cQ] at hf;split at hf
        ·cases hf
        ·rename_i d e' h3
         split at hf
         ·cases hf
         ·rename_i ds' es' h4
          cases j with
          | zero=>
           simp at hc;subst hc;cases c0 <;> first | rfl | (simp [i7] at h3)
          | succ j=>exact ih h4 j c (by simpa using hc)
      exact this hfz j c hc
     obtain⟨k1,k2,_⟩:=hv.cells hok;obtain⟨m1,m2,m3,m4⟩:=ip hM (xs:=(ev x).cells.toList) ⟨by simpa using k1,fun j c u hc hu=>k2 j c u hc (by simpa using hu)⟩ hfz;have hlx:(ev x).cells.toList.length=sz:=by simpa [h1] using k1
     have hfit:i*sz+sz<=cells.size:=by
      have h3:=hR.1;have:(i+1)*sz<=rows.length*sz:=Nat.mul_le_mul_right _ h2;rw [Nat.add_mul,Nat.one_mul] at this;simp at h3;omega
     have hfold:(((ev x).cells.zipIdx.foldl (fun cs (c,j)=>cs.setIfInBounds (i*sz+j) c) cells)).toList=splice cells.toList (i*sz) (ev x).cells.toList:=by
      rw [<- Array.foldl_toList,Array.toList_zipIdx];have:=GT (ev x).cells.toList 0 (i*sz) cells (by omega);simpa [splice] using this
     obtain⟨fs,cells',q1,q2,q3,q4,q5,q6⟩:=zj rest (T:=aputs T e) (rows:=rows.set i ds) (e0:=e0++e)
      (cells:=(ev x).cells.zipIdx.foldl (fun cs (c,j)=>cs.setIfInBounds (i*sz+j) c) cells) m1 (fun x=>m2.a (hρ x))
      (by rw [hfold];exact (hR.keeps m2).set h2 (by rw [m3,h1]) hlx (fun j d u hd hu=>m4 j d u hd hu)) h
     refine⟨e++fs,cells',by rw [q1,List.append_assoc],by rw [q2];simp,by rw [dh];exact q3,by rw [dh];exact m2.trans q4,?_,by rw [dh];exact q6⟩;have hz:(ev x).cells.size=sz:=by simpa using hlx
     simp only [List.map_cons,Instr.fill];rw [if_neg (by simp [hz];omega)];exact q5
    ·cases h
   ·cases h
  ·cases h
theorem Oy {N:Nat->Prop}{c:C}{d:DC}{v:Value}(h:Kg c=some d)(hc:dr w N g T c v):aX w N d v:=by
 unfold Kg at h;split at h
 ·simp only [zaI] at h;subst h;exact hc
 ·simp only [zaI] at h;subst h;rw [show v=_ from hc];exact .nil
 ·simp only [zaI] at h;subst h
  obtain⟨cs,rfl,h2,_⟩:=hc;exact .fn h2 (by simp)
 ·cases h
theorem i9 {α β:Type}{f:α->Option β}{l:List α}{r:List β}(h:l.mapM f=some r):r.length=l.length/\∀ (i:Nat) (x:α),l[i]?=some x->∃ y,r[i]?=some y/\f x=some y:=by
 have h1:=oa f l r h;have hl:l.length=r.length:=by have:=congrArg List.length h1;simpa using this
 refine⟨hl.symm,fun i x hx=>?_⟩;have h2:=congrArg (fun l=>l[i]?) h1;simp only [List.getElem?_map,hx,Option.map_some] at h2;cases hr:r[i]? with
 | none=>simp [hr] at h2
 | some y=>simp only [hr,Option.map_some,zaI] at h2;exact⟨y,rfl,h2⟩
theorem EO {t:TypeId}{ds:List DC}(h:H1 P t=some ds):∃ v,wU P t=some v/\v.cells.size=ds.length /\
  ∀ (w:World) (N:Nat->Prop) (i:Nat) (d:DC) (x:Value),ds[i]?=some d->v.cells[i]?=some x->aX w N d x:=by
 unfold H1 at h;cases hz:ry P t with
 | none=>simp [hz] at h
 | some cs=>
  simp only [hz,Option.bind_some] at h;obtain⟨v,h1,h2,h3⟩:=mH hz;obtain⟨h4,h5⟩:=i9 h;refine⟨v,h1,by rw [h4,h2];simp,fun w N i d x hd hx=>?_⟩;have hc:cs[i]?=some (gi x):=by rw [h2];simp [hx]
  obtain⟨d',hd',hf⟩:=h5 i _ hc;rw [hd] at hd';simp only [zaI] at hd';subst hd';exact Oy (g:={ blk:=fun _=>none,sv:=fun _=>undef,st:=fun _=>0 }) (T:=[]) hf (nc x)
theorem Ju (i s j:Nat)(h:j < s):(i*s+j) % s=j:=by
 rw [Nat.mul_comm,Nat.mul_add_mod,Nat.mod_eq_of_lt h]
theorem NP {ds:List DC}(w:World)(N:Nat->Prop){v:Value}(hs:v.cells.size=ds.length)(hd:∀ (i:Nat) (d:DC) (x:Value),ds[i]?=some d->v.cells[i]?=some x->aX w N d x){k m:Nat}(hk:k<=m) :
  ∀ (i j:Nat) (r:List DC) (d:DC),(List.replicate k ds)[i]?=some r->r[j]?=some d->∃ c,((Array.range (m*ds.length)).map (v.cells[· % v.cells.size]!))[i*ds.length+j]?=some c/\aX w N d c:=by
 intro i j r d hr hdd;obtain⟨hi,rfl⟩:i < k/\ds=r:=by
  rw [List.getElem?_replicate] at hr;split at hr
  ·exact⟨by assumption,by simpa using hr⟩
  ·cases hr
 have hj:=(List.getElem?_eq_some_iff.1 hdd).1;have hlt:i*ds.length+j < m*ds.length:=sk (by omega) hj;have hj':j < v.cells.size:=by omega
 refine⟨v.cells[j],?_,hd j d _ hdd (by simp [hj'])⟩;simp only [Array.getElem?_map,Array.getElem?_range,hlt,if_true,Option.map_some,zaI,hs,Ju _ _ _ hj];simp [hj']
theorem gj {t e:TypeId}(h:nw P t=some e):P.underlying t=some (.slice e):=by
 unfold nw at h;split at h
 ·simp only [zaI] at h;subst h;assumption
 ·cases h
theorem Res.newSlice (hM:Mem w0 N0 g T w)(hf:(an T dst).isNone=true){sz len cap:Nat}{rows:List (List DC)}{cells:Array Value}{t:TypeId}(hlen:rows.length=len)(hcap:len<=cap)(hmax:cap<=maxLen)
  (hsize:cap*sz<=cells.size) (h0:0 < sz) (hl:∀ r ∈ rows,r.length=sz)
  (hd:∀ (i j:Nat) (r:List DC) (d:DC),rows[i]?=some r->r[j]?=some d->∃ c,cells[i*sz+j]?=some c/\aX w (aB N0 g T) d c) (hext:Below w.heap.size w w') (hw:w'.heap=w.heap.push (.cells cells t)) :
  Res w0 N0 g T w (.val false [.ref dst]) [(dst,.own sz rows)] (.slice (some ⟨w.heap.size,0,none⟩) len cap) w':=by
 have hn:=cU hf;subst hlen;obtain⟨h1,h2⟩:=hM.create (w':=w') (e:=.own sz rows) (ob:=some w.heap.size) (sv:=.slice (some ⟨w.heap.size,0,none⟩) rows.length cap) (s:=sz) hn hext
  (fun b hb=>by simp at hb;subst hb;rw [hw];simp) (fun hK=>⟨.inr ⟨w.heap.size,0,cap,cells,t,(0,0),by simp [Gh.set],by simp [Gh.set],by rw [hw];simp,hcap,hmax,by simpa using hsize,by simp,hl,h0,
   fun i j r d hr hdd=>by obtain⟨c,hc,hx⟩:=hd i j r d hr hdd;exact⟨c,by simpa using hc,hK.d _ _ hx⟩⟩,by simp [Gh.set]⟩)
 refine⟨_,h1,h2,_,rfl,by rw [show aputs T [(dst,aL.own sz rows)]=aput T dst (.own sz rows) from rfl,bx];rfl,by simp [Gh.set],_,_,_,rfl⟩
theorem Res.trans {fs:List (Nat × aL)}(h2:bg N0 g T w g (aputs T fs) w){v:Value}(h:Res w0 N0 g (aputs T fs) w y es v w'):Res w0 N0 g T w y (fs++es) v w':=by
 obtain⟨g',k1,k2,k3⟩:=h;exact⟨g',by rw [dh];exact k1,by rw [dh];exact h2.trans k2,by rw [dh];exact k3⟩
theorem aaZ (hM:Mem w0 N0 g T w)(hρ:∀ x,aT w (aB N0 g T) g T (ρ x) (a.eval x)){t e:TypeId}{len s:Nat}{parts:Array (Nat × Operand)}{z:List DC}
  (ho:o.op=.buildSlice t len parts) (hu:nw P t=some e) (hs:bL P e=some s) (hz:H1 P e=some z) (hlim:len*s<=16777216) (hzs:z.length=s) (h0:0 < s)
  (he:eff P E T ρ dst (.bslice s len z parts.toList)=some (y,es)):bj r n P o a w (Res w0 N0 g T w y es):=by
 simp only [eff] at he;split at he
 ·rename_i rows fs hb
  split at he
  ·rename_i hf
   simp only [zaI,zbI] at he;obtain⟨rfl,rfl⟩:=he;obtain⟨v,h1,h2,h3⟩:=EO hz;subst hzs;have hR:dl w (aB N0 g T) z.length (List.replicate len z) ((Array.range (len*z.length)).map (v.cells[· % v.cells.size]!)).toList:=by
    refine⟨by simp,fun r hr=>by rw [List.eq_of_mem_replicate hr],fun i j r d hr hd=>?_⟩;have:=NP w (aB N0 g T) h2 (h3 w _) (Nat.le_refl len) i j r d hr hd;simpa only [Array.getElem?_toList] using this
   obtain⟨fs',cells',q1,q2,q3,q4,q5,q6⟩:=zj parts.toList hM hρ hR hb;simp only [List.nil_append] at q1;subst q1;have hq6:=q6.1;rw [q2] at hq6;simp only [List.length_replicate,Array.length_toList] at hq6;refine bj.value (fun c h=>by rw [ho] at h;cases h) (v:=.slice (some ⟨w.heap.size,0,none⟩) len len) (w':=w.alloc (.cells cells' e)) ?_
    (Res.trans q4 (Res.newSlice q3 hf (by rw [q2];simp) (Nat.le_refl _) (by unfold maxLen;have:len<=len*z.length:=Nat.le_mul_of_pos_right _ h0;omega) (by omega) h0 q6.2.1
     (fun i j r d hr hd=>by have:=q6.2.2 i j r d hr hd;simpa only [Array.getElem?_toList] using this) ((Below.refl _ w).alloc (Nat.le_refl _) _) rfl))
   have hlim':¬ len*z.length > 2 ^ 24:=by omega
   by_cases hzero:len*z.length=0
   ·have hr:∀ zz:Array Value,(Array.range (len*z.length)).map (zz[· % zz.size]!)=#[]:=fun zz=>by simp [hzero]
    rw [hr] at q5;simp only [execOp,ho,Instr.buildSlice,Sem.run_bind,run_underlying (gj hu),Result.andThen_ok,bY hs,hlim',if_false,Array.toList_map];rw [if_pos hzero];simp only [Sem.run_bind,Sem.run_pure,Result.andThen_ok,hr,q5];rfl
   ·simp only [execOp,ho,Instr.buildSlice,Sem.run_bind,run_underlying (gj hu),Result.andThen_ok,bY hs,hlim',if_false,Array.toList_map]
    rw [if_neg hzero];simp only [Sem.run_bind,Sem.run_pure,eM h1,Result.andThen_ok,q5];rfl
  ·cases he
 ·cases he
theorem O4 (hM:Mem w0 N0 g T w)(hρ:∀ x,aT w (aB N0 g T) g T (ρ x) (a.eval x)){t e:TypeId}{i:TypeInfo}{z:List DC}{lo co:Operand}
  (ho:o.op=.makeSlice t lo co) (hu:nw P t=some e) (hi:P.info? e=some i) (hz:H1 P e=some z) (hzs:z.length=i.size) (h0:0 < i.size)
  (he:eff P E T ρ dst (.mkslice i.size i.bytes z lo co)=some (y,es)):bj r n P o a w (Res w0 N0 g T w y es):=by
 simp only [eff] at he;split at he
 ·rename_i l c hl hc
  split at he
  ·rename_i hcond
   obtain⟨h1,h2,h3,h4,hf⟩:=hcond;simp only [zaI,zbI] at he;obtain⟨rfl,rfl⟩:=he;obtain⟨k1,hl'⟩:=mf (hρ lo) hl;obtain⟨k2,hc'⟩:=mf (hρ co) hc;obtain⟨v,hv1,hv2,hv3⟩:=EO hz;have wl:IntKind.i64.wrap l=l:=IntWalk.i64_in _ (by omega);have wc:IntKind.i64.wrap c=c:=IntWalk.i64_in _ (by omega);refine bj.value (fun c h=>by rw [ho] at h;cases h) (v:=.slice (some ⟨w.heap.size,0,none⟩) l.toNat c.toNat) (w':=w.alloc (.cells ((Array.range (c.toNat*i.size)).map (v.cells[· % v.cells.size]!)) e)) ?_
    (Res.newSlice hM hf (by simp) (by omega) (by unfold maxLen;omega) (by simp) h0 (fun r hr=>by rw [List.eq_of_mem_replicate hr,hzs])
     (fun p q r d hr hd=>by have:=NP w (aB N0 g T) hv2 (hv3 w _) (k:=l.toNat) (m:=c.toNat) (by omega) p q r d hr hd;rwa [hzs] at this) ((Below.refl _ w).alloc (Nat.le_refl _) _) rfl)
   have hsz:bL P e=some i.size:=by simp [bL,hi]
   have t1:(decide (c < 0) || decide ((i.bytes:Int)*c > 2 ^ 48))=false:=by simp;omega
   have t2:¬ l < 0:=by omega
   have t3:¬ l > c:=by omega
   by_cases hzero:c.toNat*i.size=0
   ·have hr:∀ zz:Array Value,(Array.range (c.toNat*i.size)).map (zz[· % zz.size]!)=#[]:=fun zz=>by simp [hzero]
    simp only [execOp,ho,Instr.makeSlice,Sem.run_bind,run_underlying (gj hu),Result.andThen_ok,hl',hc',asInt,asIntOf,Sem.run_pure,typeInfo,run_program,hi,wl,wc,t1,t2,t3,decide_false,Bool.or_false,Bool.false_eq_true,if_false,run_askRoom,bY hsz];rw [if_pos hzero];simp only [Sem.run_bind,Sem.run_pure,Result.andThen_ok,hr];rfl
   ·simp only [execOp,ho,Instr.makeSlice,Sem.run_bind,run_underlying (gj hu),Result.andThen_ok,hl',hc',asInt,asIntOf,Sem.run_pure,typeInfo,run_program,hi,wl,wc,t1,t2,t3,decide_false,Bool.or_false,Bool.false_eq_true,if_false,run_askRoom,bY hsz]
    rw [if_neg hzero];simp only [Sem.run_bind,Sem.run_pure,eM hv1,Result.andThen_ok];rfl
  ·cases he
 ·cases he
theorem Mem.move (hM:Mem w0 N0 g T w){m s:Nat}{rows rows':List (List DC)}{v:Value}(hm:an T m=some (.own s rows))(hf:an T dst=none)(hg:w.grownBy w' (g.blk m))(hsz:w'.heap.size=w.heap.size)
  (hE:bg N0 g T w (g.set dst (g.blk m) v s) (aput (aput T m .dead) dst (.own s rows')) w'->cv w' (aB N0 (g.set dst (g.blk m) v s) (aput (aput T m .dead) dst (.own s rows'))) s rows' v (g.blk m)) :
  Mem w0 N0 (g.set dst (g.blk m) v s) (aput (aput T m .dead) dst (.own s rows')) w'/\bg N0 g T w (g.set dst (g.blk m) v s) (aput (aput T m .dead) dst (.own s rows')) w':=by
 have hl:live T m:=by unfold live;rw [hm];trivial
 have hne:∀ k,(an T k).isSome->k ≠ dst:=fun k hk h=>by subst h;rw [hf] at hk;cases hk
 have hlive:∀ k,live (aput (aput T m .dead) dst (.own s rows')) k->k=dst\/(k ≠ m/\k ≠ dst/\live T k):=fun k hk=>by
  rw [fv] at hk;by_cases h1:k=dst
  ·exact .inl h1
  ·simp only [h1,if_false] at hk
   rw [fv] at hk;by_cases h2:k=m
   ·simp [h2] at hk
   ·simp only [h2,if_false] at hk
    exact .inr ⟨h2,h1,hk⟩
 have hblk:∀ k b,live (aput (aput T m .dead) dst (.own s rows')) k->(g.set dst (g.blk m) v s).blk k=some b->(k=dst/\g.blk m=some b)\/(k ≠ m/\k ≠ dst/\live T k/\g.blk k=some b):=fun k b hk hb=>by
  rcases hlive k hk with h | ⟨h1,h2,h3⟩
  ·subst h;simp [Gh.set] at hb;exact .inl ⟨rfl,hb⟩
  ·simp [Gh.set,h2] at hb;exact .inr ⟨h1,h2,h3,hb⟩
 have hK:bg N0 g T w (g.set dst (g.blk m) v s) (aput (aput T m .dead) dst (.own s rows')) w':=by
  refine bg.of (by omega) (fun k hk ha=>hg.block k hk (fun h=>ha (.inr ⟨m,hl,h.symm⟩))) (fun k hk ha=>?_) (fun k hk=>gx (gx hk)) (fun k hk=>by simp [Gh.set,hne k hk]);rcases ha with ha | ⟨k',hl',hbm⟩
  ·exact .inl ha
  ·rcases hblk k' k hl' hbm with ⟨_,h⟩ | ⟨_,_,h1,h2⟩
   ·exact .inr ⟨m,hl,h⟩
   ·exact .inr ⟨k',h1,h2⟩
 have hbel:yb w0 w w':=
  ⟨hg.os,hg.tape,hg.output,hg.size,fun k hk ho=>by
   have h1:=hM.below.size;refine hg.block k (by omega) (fun h=>?_);exact (hM.rng m k hl h.symm).1.elim (fun h=>by omega) ho⟩
 refine⟨hM.upd hbel hK (fun k e' he'=>?_) (fun k k' c hk hk' bk bk'=>?_) (fun k c hk hc=>?_),hK⟩
 ·rw [cM] at he'
  by_cases h:k=dst
  ·simp only [h,if_true,zaI] at he'
   subst h;subst he';exact .inr ⟨by simpa [Gh.set] using hE hK,by simp [Gh.set]⟩
  ·simp only [h,if_false] at he'
   rw [cM] at he';by_cases h2:k=m
   ·simp only [h2,if_true,zaI] at he'
    subst he';exact .inr trivial
   ·simp only [h2,if_false] at he'
    refine .inl ⟨he',fun c hlk hc=>hg.block c (hM.rng k c hlk hc).2 (fun hcb=>h2 (hM.inj k m c hlk hl hc hcb.symm))⟩
 ·rcases hblk k c hk bk with ⟨rfl,h1⟩ | ⟨h1,h2,h3,h4⟩ <;> rcases hblk k' c hk' bk' with ⟨rfl,k1⟩ | ⟨k1,k2,k3,k4⟩
  ·rfl
  ·exact absurd (hM.inj k' m c k3 hl k4 h1) k1
  ·exact absurd (hM.inj k m c h3 hl h4 k1) h1
  ·exact hM.inj k k' c h3 k3 h4 k4
 ·rcases hblk k c hk hc with ⟨_,h1⟩ | ⟨_,_,h1,h2⟩
  ·have:=hM.rng m c hl h1;exact⟨this.1,by omega⟩
  ·have:=hM.rng k c h1 h2;exact⟨this.1,by omega⟩
theorem DT {N:Nat->Prop}(hρ:∀ x,aT w N g T (ρ x) (a.eval x)){d z:Int}{x:Option Operand}(h:bF ρ d x=some z) :
  (x=none/\z=d)\/∃ p k,x=some p/\a.eval p=.int k z:=by
 cases x with
 | none=>simp only [bF,zaI] at h;exact .inl ⟨rfl,h.symm⟩
 | some p=>obtain⟨k,hk⟩:=mf (hρ p) h;exact .inr ⟨p,k,rfl,hk⟩
theorem lz {N:Nat->Prop}(hρ:∀ x,aT w N g T (ρ x) (a.eval x)){t e:TypeId}{s:Nat}(hu:P.underlying t=some (.slice e))(hs:bL P e=some s){x:Operand}{lo hi:Option Operand}(ho:o.op=.slice t x lo hi none)
  {ad:Option Addr} {len cap:Nat} (hx:a.eval x=.slice ad len cap) (hlc:len<=cap) {l h:Int} (hl:bF ρ 0 lo=some l) (hh:bF ρ len hi=some h) (h1:0<=l) (h2:l<=h) (h3:h<=len) :
  (execOp a.eval o).run P w=.ok (.value (.slice (if cap=l.toNat then ad else ad.map (·.add (l.toNat*s))) (h.toNat - l.toNat) (cap - l.toNat))) w:=by
 have hb:(Instr.sliceBounds true len cap (lo.map a.eval) (hi.map a.eval) none).run P w=.ok (l.toNat,h.toNat,cap) w:=by
  have hhi:(match hi.map a.eval with | some v=>Instr.sliceBound v cap .sliceAcap | none=>(pure len:Sem Nat)).run P w=.ok h.toNat w:=by
   rcases DT hρ hh with ⟨rfl,rfl⟩ | ⟨p,k,rfl,hp⟩
   ·simp
   ·have c:0<=h/\h<=cap:=by omega
    simp [hp,Instr.sliceBound,asIntOf,c]
  have hlo:(match lo.map a.eval with | some v=>Instr.sliceBound v h.toNat .sliceB | none=>(pure 0:Sem Nat)).run P w=.ok l.toNat w:=by
   rcases DT hρ hl with ⟨rfl,rfl⟩ | ⟨p,k,rfl,hp⟩
   ·simp
   ·have c:0<=l/\l<=h.toNat:=by omega
    simp only [hp,Option.map_some,Instr.sliceBound,asIntOf,Sem.run_bind,Sem.run_pure,Result.andThen_ok];rw [if_pos c];rfl
  unfold Instr.sliceBounds;cases hhm:hi.map a.eval <;> cases hlm:lo.map a.eval <;> simp only [hhm,hlm] at hhi hlo ⊢ <;> simp_all
 simp [execOp,ho,Instr.sliceAt,run_underlying hu,hx,Instr.slice,hb,bY hs]
theorem X3 {α:Type}{rows:List α}{l h i:Nat}{r:α}(hr:((rows.take h).drop l)[i]?=some r):rows[l+i]?=some r/\l+i < h:=by
 rw [List.getElem?_drop,List.getElem?_take] at hr;split at hr
 ·exact⟨hr,by assumption⟩
 ·cases hr
theorem qQ {α:Type}{rows:List α}{l h:Nat}(hl:l<=h)(hh:h<=rows.length):((rows.take h).drop l).length=h - l:=by
 simp;omega
theorem kj {sz:Nat}{rows:List (List DC)}(h:eS sz rows=true):∀ r ∈ rows,r.length=sz:=by
 unfold eS at h;intro r hr;simpa using List.all_eq_true.1 h r hr
theorem aX.sub {N:Nat->Prop}{rows:List (List DC)}{ad:Option Addr}{len cap s l h:Nat}(hd:aX w N (.sl rows) (.slice ad len cap))(hall:∀ r ∈ rows,r.length=s)(h1:l<=h)(h2:h<=rows.length) :
  aX w N (.sl ((rows.take h).drop l)) (.slice (if cap=l then ad else ad.map (·.add (l*s))) (h - l) (cap - l)):=by
 by_cases he:h=l
 ·subst he
  have:(rows.take h).drop h=[]:=List.drop_eq_nil_of_le (by simp;omega);rw [this,Nat.sub_self];exact .nil
 ·cases hd with
  | nil=>simp at h2;omega
  | @sl _ b off cap sz f hne hN hb hsz hl hcap hc hdd=>
   obtain⟨r0,hr0⟩:∃ r0,r0 ∈ rows:=⟨rows[0],by simp⟩
   have hss:s=sz:=by rw [<- hall r0 hr0,hl r0 hr0]
   subst hss;have hcl:¬ cap=l:=by omega
   rw [if_neg hcl,<- qQ h1 h2,Option.map_some,fg];refine .sl (sz:=s) (fun i j=>f (l+i) j) (by rw [qQ h1 h2];omega) hN hb hsz (fun r hr=>hl r (List.mem_of_mem_take (List.mem_of_mem_drop hr))) (by rw [qQ h1 h2];omega) (fun i j hi hj=>?_) (fun i j r d hr hd=>?_)
   ·rw [qQ h1 h2] at hi
    have:=hc (l+i) j (by omega) hj
    rwa [Nat.add_mul,<- Nat.add_assoc] at this
   ·exact hdd (l+i) j r d (X3 hr).1 hd
theorem NG (hM:Mem w0 N0 g T w)(hρ:∀ x,aT w (aB N0 g T) g T (ρ x) (a.eval x)){t e:TypeId}{s:Nat}{mv:Bool}{x:Operand}{lo hi:Option Operand}(ho:o.op=.slice t x lo hi none)
  (hu:P.underlying t=some (.slice e)) (hs:bL P e=some s)
  (he:eff P E T ρ dst (.slice s mv x lo hi)=some (y,es)):bj r n P o a w (Res w0 N0 g T w y es):=by
 have hd:∀ c,o.op ≠ .defer c:=fun c h=>by rw [ho] at h;cases h
 simp only [eff] at he;split at he
 ·rename_i rows hx
  have hc:=bf (hρ x) hx;generalize hv:a.eval x=v at hc;change aX w (aB N0 g T) (.sl rows) v at hc;split at he
  ·rename_i l h hl hh
   split at he
   ·rename_i hcond
    obtain⟨h1,h2,h3,h4⟩:=hcond;simp only [zaI,zbI] at he;obtain⟨rfl,rfl⟩:=he;obtain⟨ad,cap,rfl,hlc⟩:∃ ad cap,v=.slice ad rows.length cap/\rows.length<=cap:=by
     cases hc with
     | nil=>exact⟨_,_,rfl,Nat.zero_le _⟩
     | sl f _ _ _ _ _ hcap=>exact⟨_,_,rfl,hcap⟩
    refine bj.value hd (lz hρ hu hs ho hv hlc hl hh h1 h2 h3) (Res.same hM ⟨_,rfl,?_⟩);exact hc.sub (kj h4) (by omega) (by omega)
   ·cases he
  ·cases he
 ·rename_i hx
  have hv:a.eval x=.slice none 0 0:=bf (hρ x) hx;split at he
  ·rename_i l h hl hh
   split at he
   ·rename_i hcond
    obtain⟨rfl,rfl⟩:=hcond;simp only [zaI,zbI] at he;obtain⟨rfl,rfl⟩:=he;have:=lz (w:=w) hρ hu hs ho hv (Nat.le_refl _) hl hh (by omega) (by omega) (by omega);exact bj.value hd this (Res.same hM ⟨_,rfl,by simp [dr]⟩)
   ·cases he
  ·cases he
 ·rename_i m hx
  obtain⟨hsome,hv,_⟩:=bf (hρ x) hx;split at he
  ·rename_i s' rows hm
   split at he
   ·rename_i l h hl hh
    split at he
    ·rename_i hcond
     obtain⟨h1,h2,h3,rfl⟩:=hcond;obtain⟨hso,hst⟩:=hM.ents m _ hm;obtain⟨ad,cap,hsv,hlc⟩:∃ ad cap,g.sv m=.slice ad rows.length cap/\rows.length<=cap:=by
      rcases hso with ⟨hv,hr,_⟩ | ⟨b,off,cap,cells,t,fz,_,k2,_,k4,_⟩
      ·exact⟨none,0,by rw [hv,hr];rfl,by rw [hr];exact Nat.le_refl _⟩
      ·exact⟨_,cap,k2,k4⟩
     have hrun:=lz (w:=w) hρ hu hs ho (hv.trans hsv) hlc hl hh h1 h2 h3;split at he
     ·split at he
      ·rename_i hf
       simp only [zaI,zbI] at he;obtain⟨rfl,rfl⟩:=he;have hgg:w.grownBy w (g.blk m):=⟨rfl,rfl,rfl,Nat.le_refl _,fun _ _ _=>rfl⟩
       obtain⟨q1,q2⟩:=hM.move (dst:=dst) (rows':=(rows.take h.toNat).drop l.toNat) (v:=.slice (if cap=l.toNat then ad else ad.map (·.add (l.toNat*s'))) (h.toNat - l.toNat) (cap - l.toNat)) hm (cU hf) hgg rfl (fun hK=>by
        rcases hso with ⟨hv,hr,hb⟩ | ⟨b,off,cap',cells,t,fz,k1,k2,k3,k4,k5,k6,k7,k8,k9,k10⟩
        ·subst hr
         rw [hv] at hsv;simp only [Value.slice.injEq,List.length_nil] at hsv;obtain⟨rfl,_,rfl⟩:=hsv;have e1:l.toNat=0:=by simp at h3;omega
         have e2:h.toNat=0:=by simp at h3;omega
         exact .inl ⟨by simp [e1,e2],by simp,hb⟩
        ·rw [k2] at hsv
         simp only [Value.slice.injEq,true_and] at hsv;obtain⟨rfl,rfl⟩:=hsv;have e2:h.toNat<=rows.length:=by omega
         have e1:l.toNat<=h.toNat:=by omega
         by_cases hcl:cap'=l.toNat
         ·rw [if_pos hcl]
          have e0:(rows.take h.toNat).drop l.toNat=[]:=List.drop_eq_nil_of_le (by simp;omega);rw [e0,show h.toNat - l.toNat=0 by omega,show cap' - l.toNat=0 by omega];exact .inr ⟨b,off,0,cells,t,fz,k1,rfl,k3,Nat.le_refl _,by simp [maxLen],by omega,by simp;omega,by simp,k9,by simp⟩
         ·rw [if_neg hcl,Option.map_some,fg,<- qQ e1 e2]
          have hmul:l.toNat*s'+(cap' - l.toNat)*s'=cap'*s':=by rw [<- Nat.add_mul];congr 1;omega
          refine .inr ⟨b,off+l.toNat*s',cap' - l.toNat,cells,t,fz,k1,rfl,k3,by rw [qQ e1 e2];omega,by omega,by omega,fun j hj1 hj2=>k7 j (by omega) (by omega),fun r hr=>k8 r (List.mem_of_mem_take (List.mem_of_mem_drop hr)),k9,fun i j r d hr hdd=>?_⟩;obtain⟨c,hc,hx⟩:=k10 (l.toNat+i) j r d (X3 hr).1 hdd;rw [Nat.add_mul,<- Nat.add_assoc] at hc;exact⟨c,hc,hK.d _ _ hx⟩)
       exact bj.value hd hrun ⟨_,q1,q2,_,rfl,by rw [show aputs T [(m,aL.dead),(dst,.own s' ((rows.take h.toNat).drop l.toNat))]=aput (aput T m .dead) dst (.own s' ((rows.take h.toNat).drop l.toNat)) from rfl,bx];rfl,by simp [Gh.set],_,_,_,rfl⟩
      ·cases he
     ·simp only [zaI,zbI] at he
      obtain⟨rfl,rfl⟩:=he;obtain⟨q1,q2⟩:=hM.freeze hm;have hE:=q1.ents m _ (bx T m (.imm rows));have hdr:aX w (aB N0 g (aput T m (.imm rows))) (.sl rows) (.slice ad rows.length cap):=by rw [<- hsv];exact hE.1
      refine bj.value hd hrun ⟨g,q1,q2,_,rfl,?_⟩;exact hdr.sub (fun r hr=>by rw [hE.2 r hr,hst]) (by omega) (by omega)
    ·cases he
   ·cases he
  ·rename_i rows hm
   split at he
   ·rename_i l h hl hh
    split at he
    ·rename_i hcond
     obtain⟨h1,h2,h3,h4⟩:=hcond;simp only [zaI,zbI] at he;obtain⟨rfl,rfl⟩:=he;have hc:=(hM.ents m _ hm).1;generalize hv':g.sv m=v at hc hv;obtain⟨ad,cap,rfl,hlc⟩:∃ ad cap,v=.slice ad rows.length cap/\rows.length<=cap:=by
      cases hc with
      | nil=>exact⟨_,_,rfl,Nat.zero_le _⟩
      | sl f _ _ _ _ _ hcap=>exact⟨_,_,rfl,hcap⟩
     exact bj.value hd (lz hρ hu hs ho hv hlc hl hh h1 h2 h3) (Res.same hM ⟨_,rfl,hc.sub (kj h4) (by omega) (by omega)⟩)
    ·cases he
   ·cases he
  ·cases he
 ·cases he
theorem ao3 (hM:Mem w0 N0 g T w)(hρ:∀ x,aT w (aB N0 g T) g T (ρ x) (a.eval x)){t e:TypeId}{s:Nat}{x:Operand}{lo hi:Option Operand}(ho:o.op=.slice t x lo hi none)
  (hu:P.underlying t=some (.slice e)) (hs:bL P e=some s)
  (he:eff P E T ρ dst (.view s x lo hi)=some (y,es)):bj r n P o a w (Res w0 N0 g T w y es):=by
 have hd:∀ c,o.op ≠ .defer c:=fun c h=>by rw [ho] at h;cases h
 simp only [eff] at he;split at he
 ·rename_i m hx
  obtain⟨hsome,hv,_⟩:=bf (hρ x) hx;split at he
  ·rename_i s' rows hm
   split at he
   ·rename_i l h hl hh
    split at he
    ·rename_i hcond
     obtain⟨h1,h2,h3,rfl⟩:=hcond;obtain⟨hso,hst⟩:=hM.ents m _ hm;obtain⟨ad,cap,hsv,hlc⟩:∃ ad cap,g.sv m=.slice ad rows.length cap/\rows.length<=cap:=by
      rcases hso with ⟨hv,hr,_⟩ | ⟨b,off,cap,cells,t,fz,_,k2,_,k4,_⟩
      ·exact⟨none,0,by rw [hv,hr];rfl,by rw [hr];exact Nat.le_refl _⟩
      ·exact⟨_,cap,k2,k4⟩
     have hrun:=lz (w:=w) hρ hu hs ho (hv.trans hsv) hlc hl hh h1 h2 h3;split at he
     ·rename_i hlt
      simp only [zaI,zbI] at he;obtain⟨rfl,rfl⟩:=he;rcases hso with ⟨hv',hr,_⟩ | ⟨b,off,cap',cells,t',fz,_,k2,_⟩
      ·subst hr;simp at h3;omega
      ·rw [k2] at hsv
       simp only [Value.slice.injEq,true_and] at hsv;obtain⟨rfl,rfl⟩:=hsv;rw [if_neg (by omega),Option.map_some,fg] at hrun;exact bj.value hd hrun (Res.same hM ⟨_,rfl,hsome,by omega,b,off,rows.length,cap',_,k2,by omega,by rw [hst]⟩)
     ·rename_i hlt
      simp only [zaI,zbI] at he;obtain⟨rfl,rfl⟩:=he;rw [show h.toNat - l.toNat=0 by omega] at hrun;exact bj.value hd hrun (Res.same hM ⟨_,rfl,.nil⟩)
    ·cases he
   ·cases he
  ·cases he
 ·cases he
theorem DY {α:Type}(sz:Nat):∀ (n:Nat) (l:List α),(kG sz n l).length=n
 | 0,_=>rfl
 | n+1,l=>by simp [kG,DY sz n]
theorem r5 {α:Type}{sz:Nat}:∀ {n:Nat} {l:List α} {i:Nat} {r:List α},(kG sz n l)[i]?=some r->r=(l.drop (i*sz)).take sz/\i < n
 | 0,l,i,r,h=>by simp [kG] at h
 | n+1,l,i,r,h=>by
  cases i with
  | zero=>simp only [kG,List.getElem?_cons_zero,zaI] at h;subst h;simp
  | succ i=>
   simp only [kG,List.getElem?_cons_succ] at h;obtain⟨h1,h2⟩:=r5 h;refine⟨?_,by omega⟩;rw [h1,List.drop_drop,Nat.succ_mul,Nat.add_comm]
theorem aaC (hM:Mem w0 N0 g T w)(hρ:∀ x,aT w (aB N0 g T) g T (ρ x) (a.eval x)){t e:TypeId}{s q:Nat}{x:Operand}(ho:o.op=.slice t x none none none)
  (hu:P.underlying t=some (.array q e)) (hs:bL P e=some s)
  (he:eff P E T ρ dst (.aslice s q x)=some (y,es)):bj r n P o a w (Res w0 N0 g T w y es):=by
 have hd:∀ c,o.op ≠ .defer c:=fun c h=>by rw [ho] at h;cases h
 simp only [eff] at he;split at he
 ·rename_i cs off hx
  have hd':=bf (hρ x) hx;generalize hv:a.eval x=v at hd';change aX w (aB N0 g T) (.cref cs off) v at hd';split at he
  ·rename_i hcond
   obtain⟨h1,h2,h3⟩:=hcond;simp only [zaI,zbI] at he;obtain⟨rfl,rfl⟩:=he;cases hd' with
   | @cref _ b o' _ f hN hb hc hdd=>
    have hrun:(execOp a.eval o).run P w=.ok (.value (.slice (some ⟨b,o'+off,none⟩) q q)) w:=by
     simp [execOp,ho,hv,Instr.sliceAt,run_underlying hu,Instr.sureAddr,Instr.sliceBounds,bY hs,fg]
    refine bj.value hd hrun (Res.same hM ⟨_,rfl,?_⟩);have hl:(kG s q (cs.drop off)).length=q:=DY s q _;have key:=aX.sl (w:=w) (N:=aB N0 g T) (rows:=kG s q (cs.drop off)) (b:=b) (off:=o'+off) (cap:=q) (sz:=s) (fun i j=>f (off+i*s+j))
     (by rw [hl];exact h3) hN hb h2 (fun r hr=>by
      obtain⟨i,hi⟩:=List.getElem?_of_mem hr;obtain⟨k1,k2⟩:=r5 hi;subst k1;have:(i+1)*s<=q*s:=Nat.mul_le_mul_right _ (by omega);rw [Nat.succ_mul] at this;simp only [List.length_take,List.length_drop];omega) (by rw [hl];exact Nat.le_refl _)
     (fun i j hi hj=>by
      rw [hl] at hi;have:(i+1)*s<=q*s:=Nat.mul_le_mul_right _ (by omega);rw [Nat.succ_mul] at this;have:=hc (off+i*s+j) (by omega);rw [show o'+off+i*s+j=o'+(off+i*s+j) by omega];exact this)
     (fun i j r d hr hjd=>by
      obtain⟨k1,k2⟩:=r5 hr;subst k1;rw [List.getElem?_take] at hjd;split at hjd
      ·rw [List.getElem?_drop,List.getElem?_drop] at hjd
       exact hdd _ d (by rw [<- hjd];congr 1;omega)
      ·cases hjd)
    rw [hl] at key;exact key
  ·cases he
 ·cases he
end Go.AM
