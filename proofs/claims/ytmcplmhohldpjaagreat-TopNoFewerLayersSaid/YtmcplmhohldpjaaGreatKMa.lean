/- Texts of one kind, put together. -/
import Derived.Test.YtmcplmhohldpjaaGreatKE1
namespace Go.AM
set_option linter.unusedSimpArgs false
inductive Sh where
 | int (k:IntKind)
 | bool
 | str
 | flt (k:FloatKind)
 | cpx (k:FloatKind)
 | sl
def Cur:List Sh->Type->Type
 | [],α=>α
 | .int _::r,α=>Int->Cur r α
 | .bool::r,α=>Bool->Cur r α
 | .str::r,α=>ByteArray->Cur r α
 | .flt _::r,α=>Nat->Cur r α
 | .cpx _::r,α=>Nat->Nat->Cur r α
 | .sl::r,α=>List (List DC)->Cur r α
variable {α β:Type}
def shC:(sh:List Sh)->List DC->Cur sh (Option α)->Option α
 | [],ds,f=>match ds with
  | []=>f
  | _::_=>none
 | .int k::r,ds,f=>match ds with
  | .v (.int k' n)::ds=>if k'=k then shC r ds (f n) else none
  | _=>none
 | .bool::r,ds,f=>match ds with
  | .v (.bool b)::ds=>shC r ds (f b)
  | _=>none
 | .str::r,ds,f=>match ds with
  | .v (.string s)::ds=>shC r ds (f s)
  | _=>none
 | .flt k::r,ds,f=>match ds with
  | .v (.float k' x)::ds=>if k'=k then shC r ds (f x) else none
  | _=>none
 | .cpx k::r,ds,f=>match ds with
  | .v (.complex k' x y)::ds=>if k'=k then shC r ds (f x y) else none
  | _=>none
 | .sl::r,ds,f=>match ds with
  | .sl rows::ds=>shC r ds (f rows)
  | _=>none
def unc:(sh:List Sh)->(List DC->β)->Cur sh β
 | [],k=>k []
 | .int kd::r,k=>fun n=>unc r fun cs=>k (.v (.int kd n)::cs)
 | .bool::r,k=>fun b=>unc r fun cs=>k (.v (.bool b)::cs)
 | .str::r,k=>fun s=>unc r fun cs=>k (.v (.string s)::cs)
 | .flt kd::r,k=>fun x=>unc r fun cs=>k (.v (.float kd x)::cs)
 | .cpx kd::r,k=>fun x y=>unc r fun cs=>k (.v (.complex kd x y)::cs)
 | .sl::r,k=>fun rows=>unc r fun cs=>k (.sl rows::cs)
def zA:(sh:List Sh)->(α->Option β)->Cur sh (Option α)->Cur sh (Option β)
 | [],g,f=>f.bind g
 | .int _::r,g,f=>fun n=>zA r g (f n)
 | .bool::r,g,f=>fun n=>zA r g (f n)
 | .str::r,g,f=>fun n=>zA r g (f n)
 | .flt _::r,g,f=>fun n=>zA r g (f n)
 | .cpx _::r,g,f=>fun n m=>zA r g (f n m)
 | .sl::r,g,f=>fun n=>zA r g (f n)
theorem Gg (g:α->Option β):∀ (sh:List Sh) (ds:List DC) (f:Cur sh (Option α)),(shC sh ds f).bind g=shC sh ds (zA sh g f):=by
 intro sh
 induction sh with
 | nil=>intro ds f;simp only [shC];split <;> rfl
 | cons s r ih=>
  intro ds f
  cases s <;> simp only [shC] <;> split <;> first | exact ih _ _ | (split <;> first | exact ih _ _ | rfl) | rfl
theorem nO (g:α->Option β):∀ (sh:List Sh) (k:List DC->Option α),zA sh g (unc sh k)=unc sh fun cs=>(k cs).bind g:=by
 intro sh
 induction sh with
 | nil=>intro k;rfl
 | cons s r ih=>intro k;cases s <;> (simp only [zA,unc,ih];rfl)
theorem Br {a:α}:∀ {sh:List Sh} {ds:List DC} {k:List DC->Option α},shC sh ds (unc sh k)=some a->ds.length=sh.length/\k ds=some a:=by
 intro sh
 induction sh with
 | nil=>
  intro ds k h
  simp only [shC] at h
  split at h
  ·exact⟨rfl,h⟩
  ·cases h
 | cons s r ih=>
  intro ds k h
  cases s <;> simp only [shC,unc] at h <;> split at h <;> first
   | (cases h;done)
   | (
     split at h
     ·rename_i he;subst he;have h12:=ih h;exact⟨by simp [h12.1],h12.2⟩
     ·cases h)
   | (have h12:=ih h;exact⟨by simp [h12.1],h12.2⟩)
def cK (b:Bool)(x y:Option α):Option α:=match b with | true=>x | false=>y
def gK (b:Bool)(x:Option α):Option α:=match b with | true=>x | false=>none
def gI (rows:List (List DC))(i:Int)(sh:List Sh)(f:Cur sh (Option α)):Option α:=
 match decide (0<=i) with
 | true=>match rows[i.toNat]? with
  | some r=>shC sh r f
  | none=>none
 | false=>none
def ixK (rows:List (List DC))(i:Int)(sz:Nat)(x:Option α):Option α:=
 match decide (0<=i/\i < rows.length/\(cV rows i.toNat).length=sz) with
 | true=>x
 | false=>none
def ldK (rows:List (List DC))(i off:Nat)(sh:List Sh)(f:Cur sh (Option α)):Option α:=
 match decide (i < rows.length) with
 | true=>shC sh (((cV rows i).drop off).take sh.length) f
 | false=>none
def stK (rows:List (List DC))(i off sz:Nat)(x:Option α):Option α:=
 match decide (i < rows.length/\off+sz<=(cV rows i).length) with
 | true=>x
 | false=>none
def BE:Nat->Int->(Nat->Option α)->Option α
 | 0,_,_=>none
 | n+1,z,f=>cK (z == (n:Int)) (f n) (BE n z f)
def l7 (s:ByteArray)(i:Int)(f:UInt8->Option α):Option α:=
 match (if 0<=i then s[i.toNat]? else none) with
 | some b=>f b
 | none=>none
def flK (o:Option Nat)(f:Nat->Option α):Option α:=match o with | some r=>f r | none=>none
def ivK (o:Option Int)(f:Int->Option α):Option α:=match o with | some r=>f r | none=>none
theorem iB {g:α->Option β}{b:Bool}{x y:Option α}:(cK b x y).bind g=cK b (x.bind g) (y.bind g):=by cases b <;> rfl
theorem fe {g:α->Option β}{b:Bool}{x:Option α}:(gK b x).bind g=gK b (x.bind g):=by cases b <;> rfl
theorem Rc {g:α->Option β}{rows:List (List DC)}{i:Int}{sh:List Sh}{f:Cur sh (Option α)}:(gI rows i sh f).bind g=gI rows i sh (zA sh g f):=by
 unfold gI;split
 ·split
  ·exact Gg g _ _ _
  ·rfl
 ·rfl
theorem S5 {g:α->Option β}{rows:List (List DC)}{i:Int}{sz:Nat}{x:Option α}:(ixK rows i sz x).bind g=ixK rows i sz (x.bind g):=by
 unfold ixK;split <;> rfl
theorem rP {g:α->Option β}{rows:List (List DC)}{i off:Nat}{sh:List Sh}{f:Cur sh (Option α)}:(ldK rows i off sh f).bind g=ldK rows i off sh (zA sh g f):=by
 unfold ldK;split
 ·exact Gg g _ _ _
 ·rfl
theorem T5 {g:α->Option β}{rows:List (List DC)}{i off sz:Nat}{x:Option α}:(stK rows i off sz x).bind g=stK rows i off sz (x.bind g):=by
 unfold stK;split <;> rfl
theorem Cv {g:α->Option β}{z:Int}{f:Nat->Option α}:∀ {n:Nat},(BE n z f).bind g=BE n z fun j=>(f j).bind g:=by
 intro n
 induction n with
 | zero=>rfl
 | succ n ih=>simp only [BE,iB,ih]
theorem Rs {g:α->Option β}{s:ByteArray}{i:Int}{f:UInt8->Option α}:(l7 s i f).bind g=l7 s i fun b=>(f b).bind g:=by
 unfold l7;split <;> rfl
theorem ij {g:α->Option β}{o:Option Nat}{f:Nat->Option α}:(flK o f).bind g=flK o fun b=>(f b).bind g:=by cases o <;> rfl
theorem VG {g:α->Option β}{o:Option Int}{f:Int->Option α}:(ivK o f).bind g=ivK o fun b=>(f b).bind g:=by cases o <;> rfl
theorem dS {b:Bool}{x:Option α}{a:α}(h:gK b x=some a):b=true/\x=some a:=by cases b <;> first | exact⟨rfl,h⟩ | cases h
theorem Rv {rows:List (List DC)}{i:Int}{sh:List Sh}{k:List DC->Option α}{a:α}(h:gI rows i sh (unc sh k)=some a) :
  0<=i/\∃ r,rows[i.toNat]?=some r/\r.length=sh.length/\k r=some a:=by
 unfold gI at h
 split at h
 ·rename_i hd
  split at h
  ·rename_i r hr
   exact⟨by simpa using hd,r,hr,Br h⟩
  ·cases h
 ·cases h
theorem G9 {rows:List (List DC)}{i:Int}{sz:Nat}{x:Option α}{a:α}(h:ixK rows i sz x=some a):(0<=i/\i < rows.length/\(cV rows i.toNat).length=sz)/\x=some a:=by
 unfold ixK at h
 split at h
 ·rename_i hd;exact⟨by simpa using hd,h⟩
 ·cases h
theorem Y4 {rows:List (List DC)}{i off sz:Nat}{x:Option α}{a:α}(h:stK rows i off sz x=some a):(i < rows.length/\off+sz<=(cV rows i).length)/\x=some a:=by
 unfold stK at h
 split at h
 ·rename_i hd;exact⟨by simpa using hd,h⟩
 ·cases h
theorem Az {rows:List (List DC)}{i off:Nat}{sh:List Sh}{k:List DC->Option α}{a:α}(h:ldK rows i off sh (unc sh k)=some a) :
  i < rows.length/\off+sh.length<=(cV rows i).length\/sh.length=0/\i < rows.length:=by
 unfold ldK at h
 split at h
 ·rename_i hd
  have:=(Br h).1
  simp only [List.length_take,List.length_drop] at this
  have hd:i < rows.length:=by simpa using hd
  omega
 ·cases h
theorem uQ {rows:List (List DC)}{i off:Nat}{sh:List Sh}{k:List DC->Option α}{a:α}(h:ldK rows i off sh (unc sh k)=some a):k (((cV rows i).drop off).take sh.length)=some a:=by
 unfold ldK at h
 split at h
 ·exact (Br h).2
 ·cases h
theorem pn {z:Int}{f:Nat->Option α}{a:α}:∀ {n:Nat},BE n z f=some a->∃ j,j < n/\z=j/\f j=some a:=by
 intro n
 induction n with
 | zero=>intro h;cases h
 | succ n ih=>
  intro h
  simp only [BE] at h
  cases hb:(z == (n:Int)) with
  | true=>rw [hb] at h;exact⟨n,by omega,by simpa using hb,h⟩
  | false=>rw [hb] at h;obtain⟨j,h1,h2⟩:=ih h;exact⟨j,by omega,h2⟩
theorem RL {s:ByteArray}{i:Int}{f:UInt8->Option α}{a:α}(h:l7 s i f=some a):∃ b,(if 0<=i then s[i.toNat]? else none)=some b/\f b=some a:=by
 unfold l7 at h
 split at h
 ·rename_i b hb;exact⟨b,hb,h⟩
 ·cases h
theorem bV {o:Option Nat}{f:Nat->Option α}{a:α}(h:flK o f=some a):∃ r,o=some r/\f r=some a:=by cases o <;> first | cases h | exact⟨_,rfl,h⟩
theorem aae {o:Option Int}{f:Int->Option α}{a:α}(h:ivK o f=some a):∃ r,o=some r/\f r=some a:=by cases o <;> first | cases h | exact⟨_,rfl,h⟩
end Go.AM

namespace Go.AM
set_option linter.unusedSimpArgs false
variable {α β:Type}
def flN (o:Option Nat)(f:Nat->Option α)(z:Option α):Option α:=match o with | some r=>f r | none=>z
theorem YJ {o:Option Nat}{f:Nat->Option α}{z:Option α}{g:α->Option β}:(flN o f z).bind g=flN o (fun r=>(f r).bind g) (z.bind g):=by cases o <;> rfl
def Ed (op:BinOp)(a b:Value):Option (FloatKind × Nat × Nat):=match a,b with
 | .float k1 m,.float k2 n=>if k1=k2 then (match op with | .add | .sub | .mul | .quo=>some (k1,m,n) | _=>none) else none
 | _,_=>none
theorem uF {x:AV}{k:FloatKind}{n:Nat}(h:ic x=some (.float k n)):Hp x=some (k,some n):=by
 unfold ic at h
 split at h
 ·rename_i c
  unfold qB at h
  split at h
  ·rename_i v;simp only [Option.some.injEq] at h;subst h;rfl
  ·cases h
 ·simp at h
 ·cases h
theorem FX {op:BinOp}{a b:Value}{k:FloatKind}{m n:Nat}(h:Ed op a b=some (k,m,n)):a=.float k m/\b=.float k n/\(op=.add\/op=.sub\/op=.mul\/op=.quo):=by
 unfold Ed at h
 split at h
 ·split at h
  ·rename_i hk;subst hk
   split at h
   all_goals first
    | (simp only [Option.some.injEq,Prod.mk.injEq] at h;obtain⟨rfl,rfl,rfl⟩:=h;simp)
    | cases h
  ·cases h
 ·cases h
theorem IN {P:Program}{op:BinOp}{t:TypeId}{x y:Operand}{k:FloatKind}{m n:Nat}(ho:op=.add\/op=.sub\/op=.mul\/op=.quo):cY P op t x y (.float k m) (.float k n)=(eS op k m n).map fun r=>.float k r:=by
 rcases ho with rfl | rfl | rfl | rfl
 ·cases h:k.format.add m n <;> simp [eS,h,cY,eqGuard,binOp,Op.floatArith,aC,bind,Sem.bind,pure,choose]
 ·cases h:k.format.sub m n <;> simp [eS,h,cY,eqGuard,binOp,Op.floatArith,aC,bind,Sem.bind,pure,choose]
 ·cases h:k.format.mul m n <;> simp [eS,h,cY,eqGuard,binOp,Op.floatArith,aC,bind,Sem.bind,pure,choose]
 ·cases h:k.format.div m n <;> simp [eS,h,cY,eqGuard,binOp,Op.floatArith,aC,bind,Sem.bind,pure,choose]
theorem IW {op:BinOp}{x y:AV}{k:FloatKind}{m n:Nat}(h1:ic x=some (.float k m))(h2:ic y=some (.float k n))(ho:op=.add\/op=.sub\/op=.mul\/op=.quo)(h:eS op k m n=none):nY op x y=some (.d (.nan k)):=by
 simp only [nY,uF h1,uF h2,if_true]
 rcases ho with rfl | rfl | rfl | rfl <;> simp only [arN,h]
structure aE where
 call:(α:Type)->Nat->List DV->(List RV->Option α)->Option α
 seq:Nat->List DC->Option (List (List Value))
 io:Nat->List Nat
 ptrs:Nat->Option (List Nat):=fun _=>none
def aE.env (E:aE):Env:=⟨fun f ds=>E.call _ f ds some,E.seq,E.io,E.ptrs⟩
def aE.Nat' (E:aE):Prop:=∀ (α β:Type) (f:Nat) (ds:List DV) (k:List RV->Option α) (g:α->Option β),(E.call α f ds k).bind g=E.call β f ds fun r=>(k r).bind g
def lu (op:BinOp)(k:FloatKind)(x y:Nat):Option Nat:=
 match op with
 | .add=>k.format.add x y
 | .sub=>k.format.sub x y
 | .mul=>k.format.mul x y
 | .quo=>k.format.div x y
 | _=>none
def dvK (o:Option Value)(k:Value->Option α):Option α:=match o with | some v=>k v | none=>none
def eqK (o:Option Bool)(f:Bool->Option α):Option α:=match o with | some e=>f e | none=>none
def QN (P:Program)(op:BinOp)(t:TypeId)(x y:Operand)(a b:Value)(k:Value->Option α):Option α:=
 match a,b with
 | .int k1 m,.int k2 n=>match op with
  | .quo=>if k1=k2 then gK (n != 0) (k (.int k1 (k1.wrap (m.tdiv n)))) else none
  | .rem=>if k1=k2 then gK (n != 0) (k (.int k1 (m.tmod n))) else none
  | .shl=>gK (decide (0<=n)) (k (.int k1 (k1.wrap (m*2 ^ (min n.toNat k1.bits)))))
  | .shr=>gK (decide (0<=n)) (k (.int k1 (m.fdiv (2 ^ (min n.toNat k1.bits)))))
  | _=>dvK (cY P op t x y a b) k
 | .float k1 m,.float k2 n=>match op with
  | .add | .sub | .mul | .quo=>if k1=k2 then flK (lu op k1 m n) fun r=>k (.float k1 r) else none
  | _=>dvK (cY P op t x y a b) k
 | .complex k1 p q,.complex k2 r s=>match op with
  | .add | .sub=>if k1=k2 then flK (lu op k1 p r) fun c=>flK (lu op k1 q s) fun d=>k (.complex k1 c d) else none
  | .mul=>if k1=.f64/\k2=.f64 then flK (FloatKind.f64.format.mul p r) fun c1=>flK (FloatKind.f64.format.mul q s) fun c2=>flK (FloatKind.f64.format.sub c1 c2) fun c=>
    flK (FloatKind.f64.format.mul p s) fun d1=>flK (FloatKind.f64.format.mul q r) fun d2=>flK (FloatKind.f64.format.add d1 d2) fun d=>k (.complex .f64 c d) else none
  | _=>dvK (cY P op t x y a b) k
 | .string s,.string u=>match op with
  | .add=>gK (!decide (IntKind.i64.max < ((s.size+u.size:Nat):Int))) (k (.string (s++u)))
  | _=>dvK (cY P op t x y a b) k
 | .agg xs,.agg ys=>match op with
  | .eql=>if P.eqGuardType P.depth t then none else eqK (wy P Op.maxDepth t (.agg xs) (.agg ys)) fun e=>k (.bool e)
  | .neq=>if P.eqGuardType P.depth t then none else eqK (wy P Op.maxDepth t (.agg xs) (.agg ys)) fun e=>k (.bool !e)
  | _=>dvK (cY P op t x y a b) k
 | _,_=>dvK (cY P op t x y a b) k
theorem Gx {o:Option Bool}{f:Bool->Option α}{a:α}(h:eqK o f=some a):∃ e,o=some e/\f e=some a:=by cases o <;> first | cases h | exact⟨_,rfl,h⟩
theorem GK {o:Option Bool}{f:Bool->Option α}{g:α->Option β}:(eqK o f).bind g=eqK o fun e=>(f e).bind g:=by cases o <;> rfl
theorem IQ {P:Program}{t:TypeId}{x y:Operand}{xs ys:Array Value}{e:Bool}(hg:¬ P.eqGuardType P.depth t=true)(he:wy P Op.maxDepth t (.agg xs) (.agg ys)=some e) :
  cY P .eql t x y (.agg xs) (.agg ys)=some (.bool e)/\cY P .neq t x y (.agg xs) (.agg ys)=some (.bool !e):=by
 have h:=FN _ he
 have hg':P.eqGuardType P.depth t=false:=by simpa using hg
 constructor
 ·simp only [cY,eqGuard,bind,pure]
  rw [aw (y:=())]
  ·simp only [binOp,Op.equal,bind,pure]
   rw [aw h];rfl
  ·show aC P (Sem.bind program _)=_
   rw [ed]
   show aC P (Sem.bind program _)=_
   rw [ed]
   simp only [hg']
   rfl
 ·simp only [cY,eqGuard,bind,pure]
  rw [aw (y:=())]
  ·simp only [binOp,Op.equal,bind,pure]
   rw [aw h];rfl
  ·show aC P (Sem.bind program _)=_
   rw [ed]
   show aC P (Sem.bind program _)=_
   rw [ed]
   simp only [hg']
   rfl
theorem iK {o:Option Value}{k:Value->Option α}{a:α}(h:dvK o k=some a):∃ v,o=some v/\k v=some a:=by
 cases o with
 | none=>cases h
 | some v=>exact⟨v,rfl,h⟩
theorem kP {o:Option Value}{k:Value->Option α}{g:α->Option β}:(dvK o k).bind g=dvK o fun v=>(k v).bind g:=by cases o <;> rfl
theorem QT {P:Program}{op:BinOp}{t:TypeId}{x y:Operand}{a b:Value}{k:Value->Option α}{r:α}(h:QN P op t x y a b k=some r):∃ v,cY P op t x y a b=some v/\k v=some r:=by
 unfold QN at h
 split at h
 ·rename_i k1 m k2 n
  split at h
  ·split at h
   ·rename_i hk;subst hk
    obtain⟨h1,h2⟩:=dS h
    exact⟨_,Ug (by simpa using h1),h2⟩
   ·cases h
  ·split at h
   ·rename_i hk;subst hk
    obtain⟨h1,h2⟩:=dS h
    exact⟨_,VF (by simpa using h1),h2⟩
   ·cases h
  ·obtain⟨h1,h2⟩:=dS h
   have h1:¬ n < 0:=by have:0<=n:=by simpa using h1
                       omega
   exact⟨_,by simp [cY,eqGuard,binOp,Op.shift,aC,bind,Sem.bind,pure,h1],h2⟩
  ·obtain⟨h1,h2⟩:=dS h
   have h1:¬ n < 0:=by have:0<=n:=by simpa using h1
                       omega
   exact⟨_,by simp [cY,eqGuard,binOp,Op.shift,aC,bind,Sem.bind,pure,h1],h2⟩
  ·exact iK h
 ·rename_i k1 m k2 n
  split at h
  ·split at h
   ·rename_i hk;subst hk
    obtain⟨r',h1,h2⟩:=bV h
    simp only [lu] at h1
    exact⟨_,by simp [cY,eqGuard,binOp,Op.floatArith,aC,bind,Sem.bind,pure,h1],h2⟩
   ·cases h
  ·split at h
   ·rename_i hk;subst hk
    obtain⟨r',h1,h2⟩:=bV h
    simp only [lu] at h1
    exact⟨_,by simp [cY,eqGuard,binOp,Op.floatArith,aC,bind,Sem.bind,pure,h1],h2⟩
   ·cases h
  ·split at h
   ·rename_i hk;subst hk
    obtain⟨r',h1,h2⟩:=bV h
    simp only [lu] at h1
    exact⟨_,by simp [cY,eqGuard,binOp,Op.floatArith,aC,bind,Sem.bind,pure,h1],h2⟩
   ·cases h
  ·split at h
   ·rename_i hk;subst hk
    obtain⟨r',h1,h2⟩:=bV h
    simp only [lu] at h1
    exact⟨_,by simp [cY,eqGuard,binOp,Op.floatArith,aC,bind,Sem.bind,pure,h1],h2⟩
   ·cases h
  ·exact iK h
 ·rename_i k1 p q k2 r' s
  split at h
  ·split at h
   ·rename_i hk;subst hk
    obtain⟨c,h1,h2⟩:=bV h
    obtain⟨d,h3,h4⟩:=bV h2
    simp only [lu] at h1 h3
    exact⟨_,by simp [cY,eqGuard,binOp,Op.complexOp,Op.Complex.arith,Op.floatArith,aC,bind,Sem.bind,pure,h1,h3],h4⟩
   ·cases h
  ·split at h
   ·rename_i hk;subst hk
    obtain⟨c,h1,h2⟩:=bV h
    obtain⟨d,h3,h4⟩:=bV h2
    simp only [lu] at h1 h3
    exact⟨_,by simp [cY,eqGuard,binOp,Op.complexOp,Op.Complex.arith,Op.floatArith,aC,bind,Sem.bind,pure,h1,h3],h4⟩
   ·cases h
  ·split at h
   ·rename_i hk
    obtain⟨rfl,rfl⟩:=hk
    obtain⟨c1,h1,h⟩:=bV h
    obtain⟨c2,h2,h⟩:=bV h
    obtain⟨c,h3,h⟩:=bV h
    obtain⟨d1,h4,h⟩:=bV h
    obtain⟨d2,h5,h⟩:=bV h
    obtain⟨d,h6,h⟩:=bV h
    refine⟨_,?_,h⟩
    simp [cY,eqGuard,binOp,Op.complexOp,Op.Complex.product,Op.Complex.mul,Op.Complex.sub,Op.Complex.add,Op.Complex.conv,Op.Complex.arith,Op.floatArith,aC,bind,Sem.bind,pure,h1,h2,h3,h4,h5,h6]
   ·cases h
  ·exact iK h
 ·rename_i s u
  split at h
  ·obtain⟨h1,h2⟩:=dS h
   have h1:¬ IntKind.i64.max < ((s.size+u.size:Nat):Int):=by simpa using h1
   refine⟨_,?_,h2⟩
   show aC P (if ((s.size+u.size:Nat):Int) > IntKind.i64.max then _ else _)=_
   rw [if_neg (by exact h1)]
   rfl
  ·exact iK h
 ·rename_i xs ys
  split at h
  ·split at h
   ·cases h
   ·rename_i hg
    obtain⟨e,h1,h2⟩:=Gx h
    exact⟨_,(IQ hg h1).1,h2⟩
  ·split at h
   ·cases h
   ·rename_i hg
    obtain⟨e,h1,h2⟩:=Gx h
    exact⟨_,(IQ hg h1).2,h2⟩
  ·exact iK h
 ·exact iK h
theorem kM {g:α->Option β}{c:Prop}[Decidable c]{x y:Option α}:(if c then x else y).bind g=if c then x.bind g else y.bind g:=by split <;> rfl
theorem Si {P:Program}{op:BinOp}{t:TypeId}{x y:Operand}{a b:Value}{k:Value->Option α}{g:α->Option β}:(QN P op t x y a b k).bind g=QN P op t x y a b fun v=>(k v).bind g:=by
 unfold QN
 split
 ·split <;> first | (rw [kM,fe];rfl) | exact fe | exact kP
 ·split <;> first | (rw [kM,ij];rfl) | exact kP
 ·split <;> first | (rw [kM,ij];simp only [ij];rfl) | exact kP
 ·split <;> first | exact fe | exact kP
 ·split
  ·split
   ·rfl
   ·exact GK
  ·split
   ·rfl
   ·exact GK
  ·exact kP
 ·exact kP
end Go.AM

namespace Go.AM
set_option linter.unusedSimpArgs false
variable {α β:Type}{P:Program}
def f2i (s:FloatKind)(b:Nat)(k:IntKind):Option Int:=match (s.decode b).toInt .zero with
 | some n=>if k.min<=n/\n<=k.max then some n else none
 | none=>none
def f2f (s:FloatKind)(b:Nat)(k:FloatKind):Option Nat:=if s=k then some b else match s.decode b with
 | .nan _ _=>none
 | .infinity sg=>some (k.encode (.infinity sg))
 | .number sg m e=>if (k.decode (k.encode (.number sg m e))).isInfinity then none else some (k.encode (.number sg m e))
def vV (s kk:FloatKind)(b:Nat):Bool:=if s=kk then false else bB s b
def ml (b:Nat):Nat:=FloatKind.f64.encode ((FloatKind.f64.decode b).integral .zero)
def vq (ρ:Operand->AV)(s:ByteArray)(lo hi:Option Operand)(k:Nat->Nat->Option α):Option α:=
 match bw ρ 0 lo,bw ρ s.size hi with
 | some l,some h=>gK (decide (0<=l/\l<=h/\h<=s.size)) (k l.toNat h.toNat)
 | _,_=>none
def fy (P:Program)(E:Env)(T:Tab)(ρ:Operand->AV)(dst:Nat)(ao:AOp)(k:AV->List (Nat × aD)->Option α):Option α:=
 match eff P E T ρ dst ao with
 | some p=>k p.1 p.2
 | none=>none
def Px (b:Bool)(k:FloatKind)(x y:Nat):Option Nat:=
 match k.format.order x y with
 | none=>none
 | some .lt=>some (if b then y else x)
 | some .gt=>some (if b then x else y)
 | some .eq=>some (if (k.decode x).neg then (if b then y else x) else (if b then x else y))
def DH (P:Program)(E:Env)(T:Tab)(ρ:Operand->AV)(dst:Nat)(o:Oper)(k:AV->List (Nat × aD)->Option α):Option α:=
 match o.op with
 | .index t x i=>match P.underlying t,ej ρ x,ej ρ i with
  | some .string,some (.string s),some (.int _ z)=>l7 s z fun b=>k (.val false [.d (.v (.int .u8 b.toNat))]) []
  | _,_,_=>fy P E T ρ dst (.pure o) k
 | .slice t x lo hi none=>match P.underlying t,ej ρ x with
  | some .string,some (.string s)=>vq (fun y=>match ej ρ y with | some v=>.val false [.d (.v v)] | none=>.val false [.unk]) s lo hi fun l h=>k (.val false [.d (.v (.string (s.extract l h)))]) []
  | _,_=>fy P E T ρ dst (.pure o) k
 | .convert src d x=>match P.underlying src,P.underlying d,ej ρ x with
  | some _,some (.int kk),some (.float s b)=>ivK (f2i s b kk) fun n=>k (.val false [.d (.v (.int kk n))]) []
  | some _,some (.float kk),some (.float s b)=>cK (vV s kk b) (k (.val false [.d (.nan kk)]) []) (flK (f2f s b kk) fun n=>k (.val false [.d (.v (.float kk n))]) [])
  | some _,some (.complex kk),some (.complex s a b)=>cK (vV s kk a)
    (cK (vV s kk b) (k (.val false [.d (.cx kk none none)]) []) (flK (f2f s b kk) fun n=>k (.val false [.d (.cx kk none (some n))]) []))
    (flK (f2f s a kk) fun m=>cK (vV s kk b) (k (.val false [.d (.cx kk (some m) none)]) []) (flK (f2f s b kk) fun n=>k (.val false [.d (.v (.complex kk m n))]) []))
  | _,_,_=>fy P E T ρ dst (.pure o) k
 | .call c=>match c.callee,c.args.toList with
  | .value (.func f),[x]=>match P.funcs[f]?,ej ρ x with
   | some fn, some (.float .f64 b) => if fn.name = "math.archTrunc" ∧ fn.body.isNone = true ∧ (Extern.findNext fn).isNone = true then
     cK (bB .f64 b) (k (.val false [.d (.nan .f64)]) []) (k (.val false [.d (.v (.float .f64 (ml b)))]) []) else
     if fn.name = "math.sqrt" ∧ fn.body.isNone = true ∧ (Extern.findNext fn).isNone = true then
     flK (FloatKind.f64.format.sqrt b) fun n=>k (.val false [.d (.v (.float .f64 n))]) [] else fy P E T ρ dst (.pure o) k
   | _,_=>fy P E T ρ dst (.pure o) k
  | .builtin .max,[x,y]=>match ej ρ x,ej ρ y with
   | some (.float kk a),some (.float _ b)=>flK (Px true kk a b) fun n=>k (.val false [.d (.v (.float kk n))]) []
   | _,_=>fy P E T ρ dst (.pure o) k
  | .builtin .min,[x,y]=>match ej ρ x,ej ρ y with
   | some (.float kk a),some (.float _ b)=>flK (Px false kk a b) fun n=>k (.val false [.d (.v (.float kk n))]) []
   | _,_=>fy P E T ρ dst (.pure o) k
  | _,_=>fy P E T ρ dst (.pure o) k
 | _=>fy P E T ρ dst (.pure o) k
theorem bI {E:Env}{T:Tab}{ρ:Operand->AV}{dst:Nat}{ao:AOp}{k:AV->List (Nat × aD)->Option α}{a:α}(h:fy P E T ρ dst ao k=some a):∃ y es,eff P E T ρ dst ao=some (y,es)/\k y es=some a:=by
 unfold fy at h
 split at h
 ·rename_i p hp;exact⟨p.1,p.2,hp,h⟩
 ·cases h
theorem bJ {E:Env}{T:Tab}{ρ:Operand->AV}{dst:Nat}{ao:AOp}{k:AV->List (Nat × aD)->Option α}{g:α->Option β}:(fy P E T ρ dst ao k).bind g=fy P E T ρ dst ao fun y es=>(k y es).bind g:=by
 unfold fy;split <;> rfl
theorem nP {ρ:Operand->AV}{x:Operand}{k:FloatKind}{n:Nat}(h:ej ρ x=some (.float k n)):Hp (ρ x)=some (k,some n):=by
 unfold ej at h
 split at h
 ·cases h
 ·exact uF h
theorem tK {b:Bool}{x y:Option α}{a:α}(h:cK b x y=some a):(b=true/\x=some a)\/(b=false/\y=some a):=by
 cases b with
 | true=>exact .inl ⟨rfl,h⟩
 | false=>exact .inr ⟨rfl,h⟩
theorem Sv {b : Nat} (h : bB .f64 b = false) : Extern.MathFloor.toIntegral "math.archTrunc" .zero #[.float .f64 b] = pure (.float .f64 (ml b)) := by
 show (match FloatKind.f64.decode b with
   | .nan s t=>
    if FloatKind.f64.format.quiet t=t then pure (.float .f64 b) else do
     let kept ← choose (.extern "math.Floor,Ceil,Trunc,RoundToEven.signallingNaN kept" 2)
     pure (.float .f64 (if kept == 1 then b else FloatKind.f64.encode (.nan s (FloatKind.f64.format.quiet t))))
   | d=>pure (.float .f64 (FloatKind.f64.encode (d.integral .zero))):Sem Value)=_
 unfold ml
 cases hd:FloatKind.f64.decode b with
 | nan s t=>rw [bZ.2 ⟨s,t,hd⟩] at h;cases h
 | number s m e=>rfl
 | infinity s=>rfl
theorem RM {fn : Func} (h : fn.name = "math.sqrt") : Extern.find fn = some Extern.MathSqrt.sqrt := by
 have e1 : Extern.allGenericRows.lookup "math.sqrt" = none := by kernel_rfl
 have e2 : Extern.allTypedRows.lookup "math.sqrt" = none := by kernel_rfl
 have e3 : Extern.allRows.lookup "math.sqrt" = some Extern.MathSqrt.sqrt := by kernel_rfl
 unfold Extern.find
 simp only [h,e1,e2,e3]
 rfl
theorem Uq {b n:Nat}(h:FloatKind.f64.format.sqrt b=some n):Extern.MathSqrt.sqrt #[.float .f64 b]=pure (.float .f64 n):=by
 show (match FloatKind.f64.format.sqrt b with
  | some r=>pure (.float .f64 r)
  | none=>do pure (.float .f64 (<- choose (.nanBits .f64 b b))):Sem Value)=_
 rw [h]
theorem dD {E:Env}{T:Tab}{ρ:Operand->AV}{dst:Nat}{o:Oper}{v:Value}(hn:cM P o.op ρ=none)(hcx:gl P o.op ρ=none)(hall:(o.op.operands.toList.all fun x=>(ej ρ x).isSome)=true)(h:aC P (execOp (fun x=>(ej ρ x).getD undef) o)=some (.value v)) :
  eff P E T ρ dst (.pure o)=some (Ac v,[]):=by
 simp only [eff,hn,hcx,hall,h]
theorem mX {lo:Option Operand}{ρ:Operand->AV}{dflt:Int}{n m:Nat}{c:BoundsCode}{z:Int}(h:bw (fun y=>match ej ρ y with | some v=>.val false [.d (.v v)] | none=>.val false [.unk]) dflt lo=some z)(hz:0<=z/\z<=n)
  (hd:lo=none->m=z.toNat):aC P (match lo.map (fun x=>(ej ρ x).getD undef) with | some v=>Instr.sliceBound v n c | none=>pure m)=some z.toNat:=by
 cases lo with
 | none=>rw [<- hd rfl];rfl
 | some x=>
  simp only [bw] at h
  cases hv:ej ρ x with
  | none=>simp [hv,l9] at h
  | some v=>
   simp only [hv] at h
   cases v <;> simp [l9] at h
   subst h
   simp only [Option.map,hv,Option.getD,Instr.sliceBound,asIntOf,bind,Sem.bind,pure,aC]
   rw [if_pos hz];rfl
theorem xG {s kk:FloatKind}{a:Nat}(h:vV s kk a=true):cvP s kk (some a)=some none:=by
 unfold vV at h
 split at h
 ·cases h
 ·rename_i hs
  obtain⟨sg,t,hd⟩:=bZ.1 h
  simp only [cvP,if_neg hs,hd]
theorem xC {s kk:FloatKind}{a m:Nat}(h:f2f s a kk=some m):cvP s kk (some a)=some (some m):=by
 unfold f2f at h
 unfold cvP
 split at h
 ·rename_i hs;simp only [if_pos hs,h]
 ·rename_i hs
  simp only [if_neg hs]
  split at h
  ·cases h
  ·rename_i sg hd;rw [hd];exact congrArg some h
  ·rename_i sg mm e hd
   rw [hd]
   split at h
   ·cases h
   ·rename_i hi;simp only [hi];exact congrArg some h
theorem Pl {s kk:FloatKind}{b n:Nat}(hb:f2f s b kk=some n):Conv.floatToFloat s b kk=pure (.float kk n):=by
 unfold f2f at hb
 simp only [Conv.floatToFloat]
 split at hb
 ·rename_i hs
  simp only [Option.some.injEq] at hb;subst hb
  rw [if_pos hs]
 ·rename_i hs
  rw [if_neg hs]
  split at hb
  ·cases hb
  ·rename_i sg hd
   simp only [Option.some.injEq] at hb;subst hb
   rw [hd]
  ·rename_i sg m e hd
   split at hb
   ·cases hb
   ·rename_i hi
    simp only [Option.some.injEq] at hb;subst hb
    rw [hd];simp only [hi];rfl
theorem Q9 {x:AV}{k:FloatKind}{m n:Nat}(h:ic x=some (.complex k m n)):Q8 x=some (k,some m,some n):=by
 unfold ic at h
 split at h
 ·rename_i c
  unfold qB at h
  split at h
  ·rename_i v;simp only [Option.some.injEq] at h;subst h;rfl
  ·cases h
 ·simp at h
 ·cases h
theorem UI {ρ:Operand->AV}{x:Operand}{k:FloatKind}{m n:Nat}(h:ej ρ x=some (.complex k m n)):Q8 (ρ x)=some (k,some m,some n):=by
 unfold ej at h
 split at h
 ·cases h
 ·exact Q9 h
theorem J4 {E:Env}{T:Tab}{ρ:Operand->AV}{dst:Nat}{o:Oper}{k:AV->List (Nat × aD)->Option α}{a:α}(h:DH P E T ρ dst o k=some a):∃ y es,eff P E T ρ dst (.pure o)=some (y,es)/\k y es=some a:=by
 unfold DH at h
 split at h
 ·rename_i t x i ho
  split at h
  ·rename_i s kk z h1 h2 h3
   obtain⟨b,hb,hk⟩:=RL h
   refine⟨_,_,dD (v:=.int .u8 b.toNat) (by simp only [cM,ho]) (by simp only [gl,ho]) ?_ ?_,hk⟩
   ·simp [ho,Op.operands,h2,h3]
   ·simp only [execOp,ho,h2,h3,Option.getD,bind,Sem.bind,pure,Instr.index,asIntOf]
    rw [aw (y:=(Value.int .u8 b.toNat))]
    ·rfl
    ·rw [aw (aO h1)]
     simp only [hb]
     rfl
  ·exact bI h
 ·rename_i t x lo hi ho
  split at h
  ·rename_i s h1 h2
   unfold vq at h
   split at h
   ·rename_i l hh hl hhi
    obtain⟨h3,hk⟩:=dS h
    have h3:=of_decide_eq_true h3
    have hall:∀ (y:Option Operand) (d z:Int),bw (fun y=>match ej ρ y with | some v=>.val false [.d (.v v)] | none=>.val false [.unk]) d y=some z->∀ x ∈ y,(ej ρ x).isSome=true:=by
     intro y d z hb x hx
     cases y with
     | none=>cases hx
     | some y=>
      simp only [Option.mem_def,Option.some.injEq] at hx
      subst hx
      simp only [bw] at hb
      cases hv:ej ρ y with
      | none=>simp [hv,l9] at hb
      | some v=>rfl
    refine⟨_,_,dD (v:=.string (s.extract l.toNat hh.toNat)) (by simp only [cM,ho]) (by simp only [gl,ho]) ?_ ?_,hk⟩
    ·have e1:=hall lo _ _ hl
     have e2:=hall hi _ _ hhi
     cases lo <;> cases hi <;> simp_all [ho,Op.operands]
    ·have hb1:aC P (match (hi.map fun x=>(ej ρ x).getD undef),(none:Option Value) with
       | some v,some _=>Instr.sliceBound v s.size .slice3B
       | some v,none=>Instr.sliceBound v s.size .sliceAlen
       | none,none=>pure s.size
       | none, some _ => stuck "Slice: max without high") = some hh.toNat := by
      have:=mX (n:=s.size) (m:=s.size) (c:=.sliceAlen) (P:=P) hhi ⟨by omega,h3.2.2⟩ (by rintro rfl;simp only [bw,Option.some.injEq] at hhi;omega)
      cases hi <;> exact this
     have hb2:aC P (match (lo.map fun x=>(ej ρ x).getD undef) with | some v=>Instr.sliceBound v hh.toNat .sliceB | none=>pure 0)=some l.toNat:=
      mX hl ⟨h3.1,by omega⟩ (by rintro rfl;simp only [bw,Option.some.injEq] at hl;omega)
     have hsb:aC P (Instr.sliceBounds false s.size s.size (lo.map fun x=>(ej ρ x).getD undef) (hi.map fun x=>(ej ρ x).getD undef) none)=some (l.toNat,hh.toNat,s.size):=by
      unfold Instr.sliceBounds
      simp only [bind,pure]
      cases hi <;> cases lo <;> simp only [Option.map,pure,Option.isSome_none,Bool.false_eq_true,if_false] at hb1 hb2 ⊢ <;> rw [aw (y:=s.size) rfl,aw hb1,aw hb2] <;> rfl
     simp only [execOp,ho,h2,Option.getD,bind,pure,Instr.sliceAt,Option.map_none]
     rw [aw (y:=Value.string (s.extract l.toNat hh.toNat))]
     ·rfl
     ·rw [aw (aO h1)]
      simp only [Instr.slice,bind,pure]
      rw [aw (aO h1)]
      simp only [Option.isSome_none,Bool.false_eq_true,if_false]
      simp only [Option.getD] at hsb
      rw [aw hsb];rfl
   ·cases h
  ·exact bI h
 ·rename_i src d x ho
  split at h
  ·rename_i u kk s b h1 h2 h3
   obtain⟨n,hb,hk⟩:=aae h
   refine⟨_,_,dD (v:=.int kk n) (by simp only [cM,ho,h1,h2]) (by simp only [gl,ho,h1,h2]) ?_ ?_,hk⟩
   ·simp [ho,Op.operands,h3]
   ·simp only [execOp,ho,h3,Option.getD,bind,Sem.bind,pure,convert]
    rw [aw (y:=(Value.int kk n))]
    ·rfl
    ·rw [aw (aO h1),aw (aO h2)]
     unfold f2i at hb
     simp only [Conv.floatToInt]
     split at hb
     ·rename_i m hm
      split at hb
      ·rename_i hr
       simp only [Option.some.injEq] at hb;subst hb
       simp only [hm,if_pos hr]
       rfl
      ·cases hb
     ·cases hb
  ·rename_i u kk s b h1 h2 h3
   rcases tK h with ⟨hc,h⟩ | ⟨hc,h⟩
   ·refine⟨_,_,?_,h⟩
    unfold vV at hc
    split at hc
    ·cases hc
    ·rename_i hs
     simp only [eff,cM,ho,h1,h2,nP h3,if_neg hs,if_pos hc]
   obtain⟨n,hb,hk⟩:=bV h
   refine⟨_,_,dD (v:=.float kk n) (by
    unfold vV at hc
    simp only [cM,ho,h1,h2,nP h3]
    split
    ·rfl
    ·rename_i hs
     rw [if_neg hs] at hc
     rw [if_neg (by rw [hc];exact Bool.false_ne_true)]) (by simp only [gl,ho,h1,h2]) ?_ ?_,hk⟩
   ·simp [ho,Op.operands,h3]
   ·simp only [execOp,ho,h3,Option.getD,bind,Sem.bind,pure,convert]
    rw [aw (y:=(Value.float kk n))]
    ·rfl
    ·rw [aw (aO h1),aw (aO h2)]
     unfold f2f at hb
     simp only [Conv.floatToFloat]
     split at hb
     ·rename_i hs
      simp only [Option.some.injEq] at hb;subst hb
      rw [if_pos hs];rfl
     ·rename_i hs
      rw [if_neg hs]
      split at hb
      ·cases hb
      ·rename_i sg hd
       simp only [Option.some.injEq] at hb;subst hb
       rw [hd];rfl
      ·rename_i sg m e hd
       split at hb
       ·cases hb
       ·rename_i hi
        simp only [Option.some.injEq] at hb;subst hb
        rw [hd];simp only [hi];rfl
  ·rename_i u kk s p q h1 h2 h3
   have hcp:=UI h3
   have cx:∀ p' q' d,cvP s kk (some p)=some p'->cvP s kk (some q)=some q'->(p'=none\/q'=none)->d=DC.cx kk p' q'->eff P E T ρ dst (.pure o)=some (.val false [.d d],[]):=fun p' q' d hp hq hno hd=>by
    have hn:cM P o.op ρ=none:=by
     simp only [cM,ho,h1,h2]
    have hc:gl P o.op ρ=some d:=by
     simp only [gl,ho,h1,h2,hcp,hp,hq,hd]
     rcases hno with rfl | rfl
     ·rfl
     ·cases p' <;> rfl
    simp only [eff,hn,hc]
   rcases tK h with ⟨hc,h⟩ | ⟨hc,h⟩
   ·rcases tK h with ⟨hc2,h⟩ | ⟨hc2,h⟩
    ·exact⟨_,_,cx _ _ _ (xG hc) (xG hc2) (.inl rfl) rfl,h⟩
    ·obtain⟨n,hb,hk⟩:=bV h
     exact⟨_,_,cx _ _ _ (xG hc) (xC hb) (.inl rfl) rfl,hk⟩
   ·obtain⟨m,ha,h⟩:=bV h
    rcases tK h with ⟨hc2,h⟩ | ⟨hc2,h⟩
    ·exact⟨_,_,cx _ _ _ (xC ha) (xG hc2) (.inr rfl) rfl,h⟩
    ·obtain⟨n,hb,hk⟩:=bV h
     refine⟨_,_,dD (v:=.complex kk m n) (by simp only [cM,ho,h1,h2]) (by simp only [gl,ho,h1,h2,hcp,xC ha,xC hb]) ?_ ?_,hk⟩
     ·simp [ho,Op.operands,h3]
     ·simp only [execOp,ho,h3,Option.getD,bind,Sem.bind,pure,convert]
      rw [aw (y:=(Value.complex kk m n))]
      ·rfl
      ·rw [aw (aO h1),aw (aO h2)]
       simp only [Conv.complexToComplex,Pl ha,Pl hb]
       rfl
  ·exact bI h
 ·rename_i c ho
  split at h
  ·rename_i f x hc ha
   split at h
   ·rename_i fn b hf h3
    split at h
    ·rename_i hcond
     obtain⟨hn,hb,hx⟩:=hcond
     have ha':c.args=#[x]:=by rw [<- Array.toArray_toList (xs:=c.args),ha]
     rcases tK h with ⟨hc2,h⟩ | ⟨hc2,h⟩
     ·refine⟨_,_,?_,h⟩
      simp only [eff,cM,ho,hc,ha,hf,nP h3,hn,hb,hx,and_self,if_true,if_pos hc2]
     ·refine⟨_,_,dD (v:=.float .f64 (ml b)) (by
       simp only [cM,ho,hc,ha,hf,nP h3,hn,hb,hx,and_self,if_true]
       rw [if_neg (by rw [hc2];exact Bool.false_ne_true)]) (by simp only [gl,ho,hc]) ?_ ?_,h⟩
      ·have hv:ej ρ (.func f)=some (.func (.func f) #[] #[]):=rfl
       simp [ho,Op.operands,Call.operands,hc,ha',h3,hv]
      ·have hx':Extern.findNext fn=none:=by cases hq:Extern.findNext fn <;> simp_all
       have hb':fn.body=none:=by cases hq:fn.body <;> simp_all
       have hr : ¬ fn.name = "runtime.NumGoroutine" := by rw [hn]; decide
       have hv:ej ρ (.func f)=some (.func (.func f) #[] #[]):=rfl
       simp [execOp,ho,resolve,hc,hv,h3,Deferred.ofValue,invoke,ha',callFunc,program,hf,hr,hb',hx',zT hn,Sv hc2,aC,bind,Sem.bind,pure,mark]
    ·rename_i hno
     split at h
     ·rename_i hcond
      obtain⟨hn,hb,hx⟩:=hcond
      have ha':c.args=#[x]:=by rw [<- Array.toArray_toList (xs:=c.args),ha]
      obtain⟨n,hq,hk⟩:=bV h
      refine⟨_,_,dD (v:=.float .f64 n) (by
       simp only [cM,ho,hc,ha,hf,nP h3]
       rw [if_neg hno]) (by simp only [gl,ho,hc]) ?_ ?_,hk⟩
      ·have hv:ej ρ (.func f)=some (.func (.func f) #[] #[]):=rfl
       simp [ho,Op.operands,Call.operands,hc,ha',h3,hv]
      ·have hx':Extern.findNext fn=none:=by cases hq:Extern.findNext fn <;> simp_all
       have hb':fn.body=none:=by cases hq:fn.body <;> simp_all
       have hr : ¬ fn.name = "runtime.NumGoroutine" := by rw [hn]; decide
       have hv:ej ρ (.func f)=some (.func (.func f) #[] #[]):=rfl
       simp [execOp,ho,resolve,hc,hv,h3,Deferred.ofValue,invoke,ha',callFunc,program,hf,hr,hb',hx',RM hn,Uq hq,aC,bind,Sem.bind,pure,mark]
     ·exact bI h
   ·exact bI h
  ·rename_i x y hc ha
   split at h
   ·rename_i kk a kk' b h1 h2
    obtain⟨n,hq,hk⟩:=bV h
    have ha':c.args=#[x,y]:=by rw [<- Array.toArray_toList (xs:=c.args),ha]
    refine⟨_,_,dD (v:=.float kk n) (by simp only [cM,ho,hc]) (by simp only [gl,ho,hc]) ?_ ?_,hk⟩
    ·simp [ho,Op.operands,Call.operands,hc,ha',h1,h2]
    ·have hm:aC P (Builtin.max2 (.float kk a) (.float kk' b))=some (.float kk n):=by
      unfold Px at hq
      simp only [Builtin.max2]
      cases hoo:kk.format.order a b with
      | none=>rw [hoo] at hq;cases hq
      | some cc=>
       rw [hoo] at hq
       cases cc <;> (simp only [Option.some.injEq,Bool.false_eq_true,if_false,if_true] at hq;subst hq;rfl)
     simp [execOp,ho,resolve,hc,h1,h2,Deferred.ofValue,invoke,ha',builtin,Builtin.max_,bind,Sem.bind,pure]
     rw [aw (y:=Value.float kk n)]
     ·rfl
     ·rw [aw hm];rfl
   ·exact bI h
  ·rename_i x y hc ha
   split at h
   ·rename_i kk a kk' b h1 h2
    obtain⟨n,hq,hk⟩:=bV h
    have ha':c.args=#[x,y]:=by rw [<- Array.toArray_toList (xs:=c.args),ha]
    refine⟨_,_,dD (v:=.float kk n) (by simp only [cM,ho,hc]) (by simp only [gl,ho,hc]) ?_ ?_,hk⟩
    ·simp [ho,Op.operands,Call.operands,hc,ha',h1,h2]
    ·have hm:aC P (Builtin.min2 (.float kk a) (.float kk' b))=some (.float kk n):=by
      unfold Px at hq
      simp only [Builtin.min2]
      cases hoo:kk.format.order a b with
      | none=>rw [hoo] at hq;cases hq
      | some cc=>
       rw [hoo] at hq
       cases cc <;> (simp only [Option.some.injEq,Bool.false_eq_true,if_false,if_true] at hq;subst hq;rfl)
     simp [execOp,ho,resolve,hc,h1,h2,Deferred.ofValue,invoke,ha',builtin,Builtin.min_,bind,Sem.bind,pure]
     rw [aw (y:=Value.float kk n)]
     ·rfl
     ·rw [aw hm];rfl
   ·exact bI h
  ·exact bI h
 ·exact bI h
theorem J8 {E:Env}{T:Tab}{ρ:Operand->AV}{dst:Nat}{o:Oper}{k:AV->List (Nat × aD)->Option α}{g:α->Option β}:(DH P E T ρ dst o k).bind g=DH P E T ρ dst o fun y es=>(k y es).bind g:=by
 unfold DH
 split
 ·split
  ·exact Rs
  ·exact bJ
 ·split
  ·unfold vq;split
   ·exact fe
   ·rfl
  ·exact bJ
 ·split
  ·exact VG
  ·rw [iB,ij]
  ·simp only [iB,ij]
  ·exact bJ
 ·split
  ·split
   ·split
    ·exact iB
    ·split
     ·exact ij
     ·exact bJ
   ·exact bJ
  ·split
   ·exact ij
   ·exact bJ
  ·split
   ·exact ij
   ·exact bJ
  ·exact bJ
 ·exact bJ
end Go.AM

namespace Go.AM
set_option linter.unusedSimpArgs false
variable {α β:Type}{P:Program}
def jb:RC->Bool
 | .d x=>kZ x
 | .own _ _=>false
 | .obj cs _=>cs.any kZ
def v4:List RC->List (List (List DC))
 | []=>[]
 | .d _::r=>v4 r
 | .own _ rows::r=>rows::v4 r
 | .obj _ _::r=>v4 r
def Gt:List RV->List (List (List DC))
 | []=>[]
 | x::r=>v4 x.2++Gt r
def tA (l:List (List (List DC)))(x:Option α):Option α:=match l with
 | []=>x
 | rows::r=>match ju rows && r.all ju with
  | true=>x
  | false=>none
def vy (dst:Nat)(T:Tab)(frz:List (Nat × aD))(res:List RV)(k:AV->List (Nat × aD)->Option α):Option α:=
 let es:=(bf dst 0 res).2
 match cO (aputs T frz) es with
 | true=>k (IS (bf dst 0 res).1) (frz++es)
 | false=>none
def g6 (dst:Nat)(T:Tab)(names:List Nat)(res:List RV)(k:AV->List (Nat × aD)->Option α):Option α:=
 match names with
 | []=>vy dst T [] res k
 | _::_=>match res.any fun r=>r.2.any jb with
  | true=>vy dst T (aU T names) res k
  | false=>tA (Gt res) (vy dst T [] res k)
theorem qi {dst:Nat}{T:Tab}{frz:List (Nat × aD)}{res:List RV}{k:AV->List (Nat × aD)->Option α}{a:α}(h:vy dst T frz res k=some a) :
  cO (aputs T frz) (bf dst 0 res).2=true/\k (IS (bf dst 0 res).1) (frz++(bf dst 0 res).2)=some a:=by
 unfold vy at h
 simp only at h
 split at h
 ·rename_i hf;exact⟨hf,h⟩
 ·cases h
theorem Al {l:List (List (List DC))}{x:Option α}{a:α}(h:tA l x=some a):l.all ju=true/\x=some a:=by
 unfold tA at h
 split at h
 ·exact⟨rfl,h⟩
 ·split at h
  ·rename_i hf;exact⟨by simpa using hf,h⟩
  ·cases h
theorem jF:∀ (cs:List RC),cs.any jb=false->(v4 cs).all ju=true->cs.any eo=false
 | [],_,_=>rfl
 | .d x::r,h1,h2=>by
  simp only [List.any_cons,jb,Bool.or_eq_false_iff] at h1
  simp only [List.any_cons,eo,h1.1,Bool.false_or]
  exact jF r h1.2 (by simpa [v4] using h2)
 | .own s rows::r,h1,h2=>by
  simp only [List.any_cons,jb,Bool.false_or] at h1
  simp only [v4,List.all_cons,Bool.and_eq_true] at h2
  simp only [List.any_cons,eo,h2.1,Bool.not_true,Bool.false_or]
  exact jF r h1 h2.2
 | .obj cs off::r,h1,h2=>by
  simp only [List.any_cons,jb,Bool.or_eq_false_iff] at h1
  simp only [List.any_cons,eo,h1.1,Bool.false_or]
  exact jF r h1.2 (by simpa [v4] using h2)
theorem lK:∀ (res:List RV),(res.any fun r=>r.2.any jb)=false->(Gt res).all ju=true->(res.any fun r=>r.2.any eo)=false
 | [],_,_=>rfl
 | x::r,h1,h2=>by
  simp only [List.any_cons,Bool.or_eq_false_iff] at h1 ⊢
  simp only [Gt,List.all_append,Bool.and_eq_true] at h2
  exact⟨jF _ h1.1 h2.1,lK r h1.2 h2.2⟩
theorem jd:∀ (cs:List RC),cs.any jb=true->cs.any eo=true
 | [],h=>by cases h
 | .d x::r,h=>by
  simp only [List.any_cons,jb,eo,Bool.or_eq_true] at h ⊢
  exact h.imp id (jd r)
 | .own s rows::r,h=>by
  simp only [List.any_cons,jb,Bool.false_or] at h
  simp only [List.any_cons,jd r h,Bool.or_true]
 | .obj cs off::r,h=>by
  simp only [List.any_cons,jb,eo,Bool.or_eq_true] at h ⊢
  exact h.imp id (jd r)
theorem j8 {dst:Nat}{T:Tab}{names:List Nat}{res:List RV}{k:AV->List (Nat × aD)->Option α}{a:α}(h:g6 dst T names res k=some a):∃ y es,dN dst T names res=some (y,es)/\k y es=some a:=by
 unfold g6 at h
 split at h
 ·obtain⟨h1,h2⟩:=qi h
  exact⟨_,_,by simp only [dN,List.isEmpty,if_true];rw [if_pos h1],h2⟩
 ·rename_i n ns
  split at h
  ·rename_i hv
   obtain⟨h1,h2⟩:=qi h
   have hv':(res.any fun r=>r.2.any eo)=true:=by
    obtain⟨x,hx,hh⟩:=List.any_eq_true.1 hv
    exact List.any_eq_true.2 ⟨x,hx,jd _ hh⟩
   exact⟨_,_,by simp only [dN,List.isEmpty,hv',if_true,Bool.false_eq_true,if_false];rw [if_pos h1],h2⟩
  ·rename_i hv
   obtain⟨h3,h4⟩:=Al h
   obtain⟨h1,h2⟩:=qi h4
   have hv':=lK res hv h3
   exact⟨_,_,by simp only [dN,List.isEmpty,hv',Bool.false_eq_true,if_false];rw [if_pos h1],h2⟩
theorem qr {dst:Nat}{T:Tab}{frz:List (Nat × aD)}{res:List RV}{k:AV->List (Nat × aD)->Option α}{g:α->Option β}:(vy dst T frz res k).bind g=vy dst T frz res fun y es=>(k y es).bind g:=by
 unfold vy;simp only;split <;> rfl
theorem Bk {l:List (List (List DC))}{x:Option α}{g:α->Option β}:(tA l x).bind g=tA l (x.bind g):=by
 unfold tA;split
 ·rfl
 ·split <;> rfl
theorem kv {dst:Nat}{T:Tab}{names:List Nat}{res:List RV}{k:AV->List (Nat × aD)->Option α}{g:α->Option β}:(g6 dst T names res k).bind g=g6 dst T names res fun y es=>(k y es).bind g:=by
 unfold g6
 split
 ·exact qr
 ·split
  ·exact qr
  ·rw [Bk,qr]
def mp (dst:Nat)(T:Tab)(frz:List (Nat × aD))(ns is:List Nat)(res:List RV)(k:AV->List (Nat × aD)->Option α):Option α:=
 match RX T frz (bf dst 0 res).2 (bf dst 0 res).1 ns is with
 | some p=>k p.1 p.2
 | none=>none
def gH (dst:Nat)(T:Tab)(names ns is:List Nat)(res:List RV)(k:AV->List (Nat × aD)->Option α):Option α:=
 match names with
 | []=>mp dst T [] ns is res k
 | _::_=>match res.any fun r=>r.2.any jb with
  | true=>mp dst T (aU T names) ns is res k
  | false=>tA (Gt res) (mp dst T [] ns is res k)
theorem mQ {dst:Nat}{T:Tab}{frz:List (Nat × aD)}{ns is:List Nat}{res:List RV}{k:AV->List (Nat × aD)->Option α}{a:α}(h:mp dst T frz ns is res k=some a) :
  ∃ p,RX T frz (bf dst 0 res).2 (bf dst 0 res).1 ns is=some p/\k p.1 p.2=some a:=by
 unfold mp at h
 split at h
 ·rename_i p hp;exact⟨p,hp,h⟩
 ·cases h
theorem nA {dst:Nat}{T:Tab}{names ns is:List Nat}{res:List RV}{k:AV->List (Nat × aD)->Option α}{a:α}(h:gH dst T names ns is res k=some a):∃ y es,dA dst T names ns is res=some (y,es)/\k y es=some a:=by
 unfold gH at h
 split at h
 ·obtain⟨p,h1,h2⟩:=mQ h
  exact⟨p.1,p.2,by simp only [dA,List.isEmpty,if_true];exact h1,h2⟩
 ·rename_i n l
  split at h
  ·rename_i hv
   obtain⟨p,h1,h2⟩:=mQ h
   have hv':(res.any fun r=>r.2.any eo)=true:=by
    obtain⟨x,hx,hh⟩:=List.any_eq_true.1 hv
    exact List.any_eq_true.2 ⟨x,hx,jd _ hh⟩
   exact⟨p.1,p.2,by simp only [dA,List.isEmpty,hv',if_true,Bool.false_eq_true,if_false];exact h1,h2⟩
  ·rename_i hv
   obtain⟨h3,h4⟩:=Al h
   obtain⟨p,h1,h2⟩:=mQ h4
   have hv':=lK res hv h3
   exact⟨p.1,p.2,by simp only [dA,List.isEmpty,hv',Bool.false_eq_true,if_false];exact h1,h2⟩
theorem nQ {dst:Nat}{T:Tab}{frz:List (Nat × aD)}{ns is:List Nat}{res:List RV}{k:AV->List (Nat × aD)->Option α}{g:α->Option β}:(mp dst T frz ns is res k).bind g=mp dst T frz ns is res fun y es=>(k y es).bind g:=by
 unfold mp;split <;> rfl
theorem nf {dst:Nat}{T:Tab}{names ns is:List Nat}{res:List RV}{k:AV->List (Nat × aD)->Option α}{g:α->Option β}:(gH dst T names ns is res k).bind g=gH dst T names ns is res fun y es=>(k y es).bind g:=by
 unfold gH
 split
 ·exact nQ
 ·split
  ·exact nQ
  ·rw [Bk,nQ]
def RU (E:aE)(T:Tab)(ρ:Operand->AV)(dst:Nat)(g:Nat)(args:List Operand)(k:AV->List (Nat × aD)->Option α):Option α:=
 match args with
 | [x,n,c]=>match fwC ρ g x n c with
  | some caps=>match gW T (HT (ρ x) caps) (E.io g) 0 (Kg caps.length) with
   | some (ds,ns,is,ms)=>match I0 (ns++is) ms with
    | true=>E.call α g ds fun res=>gH dst T ms ns is res k
    | false=>none
   | none=>none
  | none=>none
 | _=>none
def JN (P:Program)(E:aE)(T:Tab)(ρ:Operand->AV)(dst:Nat)(sh:List Sh)(ao:AOp)(k:AV->List (Nat × aD)->Option α):Option α:=
 match ao with
 | .pick c a b=>match wi (ρ c) with
  | some t=>cK t (k (ρ a) []) (k (ρ b) [])
  | none=>none
 | .iaddr sz none x i=>match l9 (ρ i),cE (ρ x) with
  | some z,some (.d (.sl rows))=>if sh.length=sz then gI rows z sh (unc sh fun cs=>k (.val false [.d (.cref cs 0)]) []) else none
  | some z,some (.ref n)=>match aj T n with
   | some (.own _ rows) | some (.imm rows)=>ixK rows z sz (k (.val false [.eptr n z.toNat 0]) [])
   | _=>none
  | some _,some (.psl _)=>fy P E.env T ρ dst ao k
  | _,_=>none
 | .iaddr sz (some len) x i=>match l9 (ρ i),cE (ρ x) with
  | some z,some (.ptr n o)=>BE len z fun j=>k (.val false [.ptr n (o+j*sz)]) []
  | some z,some (.eptr n m o)=>BE len z fun j=>k (.val false [.eptr n m (o+j*sz)]) []
  | some z,some (.d (.cref cs o))=>BE len z fun j=>k (.val false [.d (.cref cs (o+j*sz))]) []
  | _,_=>none
 | .load agg sz x=>match cE (ρ x) with
  | some (.eptr n i off)=>match aj T n with
   | some (.own _ rows) | some (.imm rows)=>if sh.length=sz/\0 < sz then ldK rows i off sh (unc sh fun cs=>match jz agg (cs.map .d) with | some y=>k y [] | none=>none) else none
   | _=>none
  | _=>fy P E.env T ρ dst ao k
 | .store sz x y=>match gA (ρ y),cE (ρ x) with
  | some ys,some (.eptr n i off)=>match cF T ys with
   | some (ds,es)=>match aj (aputs T es) n with
    | some (.own s rows)=>if ys.length=sz then stK rows i off sz (k (.val false [.und]) (es++[(n,.own s (rows.set i (splice (cV rows i) off ds)))])) else none
    | _=>none
   | none=>none
  | _,_=>fy P E.env T ρ dst ao k
 | .index agg len sz x i=>match H3 (ρ x),l9 (ρ i) with
  | some cs,some z=>BE len z fun j=>if j*sz+sz<=cs.length then match jz agg ((cs.drop (j*sz)).take sz) with | some y=>k y [] | none=>none else none
  | _,_=>none
 | .slice sz move x lo hi=>match cE (ρ x) with
  | some (.d (.sl rows))=>match bw ρ 0 lo,bw ρ rows.length hi with
   | some l,some h=>gK (decide (0<=l/\l<=h/\h<=rows.length/\cG sz rows=true)) (k (.val false [.d (.sl ((rows.take h.toNat).drop l.toNat))]) [])
   | _,_=>none
  | some (.ref n)=>match aj T n with
   | some (.own s rows)=>match bw ρ 0 lo,bw ρ rows.length hi with
    | some l,some h=>if s=sz then gK (decide (0<=l/\l<=h/\h<=rows.length))
      (match move with
      | true=>(if (aj T dst).isNone then k (.val false [.ref dst]) [(n,.dead),(dst,.own s ((rows.take h.toNat).drop l.toNat))] else none)
      | false=>k (.val false [.d (.sl ((rows.take h.toNat).drop l.toNat))]) [(n,.imm rows)]) else none
    | _,_=>none
   | some (.imm rows)=>match bw ρ 0 lo,bw ρ rows.length hi with
    | some l,some h=>gK (decide (0<=l/\l<=h/\h<=rows.length/\cG sz rows=true)) (k (.val false [.d (.sl ((rows.take h.toNat).drop l.toNat))]) [])
    | _,_=>none
   | _=>none
  | _=>fy P E.env T ρ dst ao k
 | .view sz x lo hi=>match cE (ρ x) with
  | some (.ref n)=>match aj T n with
   | some (.own s rows)=>match bw ρ 0 lo,bw ρ rows.length hi with
    | some l,some h=>if s=sz then gK (decide (0<=l/\l<=h/\h<=rows.length)) (cK (decide (l < h)) (k (.val false [.sub n l.toNat h.toNat]) []) (k (.val false [.d (.sl [])]) [])) else none
    | _,_=>none
   | _=>none
  | _=>none
 | .mkslice sz bytes zero len cap=>match l9 (ρ len),l9 (ρ cap) with
  | some l,some c=>if (aj T dst).isNone then gK (decide (0<=l/\l<=c/\bytes*c<=140737488355328/\c<=9223372036854775807)) (k (.val false [.ref dst]) [(dst,.own sz (List.replicate l.toNat zero))]) else none
  | _,_=>none
 | .append sz bytes x y=>match aed (ρ x) (ρ y) with
  | some _=>fy P E.env T ρ dst ao k
  | none=>match kE T (ρ y) with
  | some rows2=>match cE (ρ x) with
   | some .nils=>if (aj T dst).isNone then gK (decide (cG sz rows2=true/\rows2.length*bytes<=140737488355328/\rows2.length<=9223372036854775807)) (k (.val false [.ref dst]) [(dst,.own sz rows2)]) else none
   | some (.ref n)=>match aj T n with
    | some (.own s rows)=>if s=sz/\(aj T dst).isNone then
      gK (decide (cG sz rows2=true/\(rows.length+rows2.length)*bytes<=140737488355328/\rows.length+rows2.length<=9223372036854775807)) (k (.val false [.ref dst]) [(n,.dead),(dst,.own sz (rows++rows2))]) else none
    | _=>none
   | some (.psl _)=>fy P E.env T ρ dst ao k
   | some (.d (.csl rows))=>if (aj T dst).isNone then gK (decide (cG sz rows=true/\cG sz rows2=true/\0 < rows2.length/\(rows.length+rows2.length)*bytes<=140737488355328/\rows.length+rows2.length<=9223372036854775807)) (k (.val false [.ref dst]) [(dst,.own sz (rows++rows2))]) else none
   | _=>none
  | none=>none
 | .copy sz x y=>match kE T (ρ y),(cE (ρ x)).bind (vH T) with
  | some rows2,some (n,lo,hi)=>match aj T n with
   | some (.own s rows)=>if s=sz then gK (decide (cG sz rows2=true/\lo < hi/\hi<=rows.length))
     (k (.val false [.d (.v (.int .i64 (min rows2.length (hi - lo):Nat)))]) [(n,.own s (splice rows lo (rows2.take (hi - lo))))]) else none
   | _=>none
  | _,_=>none
 | .bytes x=>match ic (ρ x) with
  | some (.string s)=>if (aj T dst).isNone then gK (decide (s.size<=9223372036854775807)) (k (.val false [.ref dst]) [(dst,.own 1 (s.data.toList.map fun b=>[.v (.int .u8 b.toNat)]))]) else none
  | _=>none
 | .call f args=>match E.ptrs f with
  | some offs=>match QM offs with
   | some g=>RU E T ρ dst g args k
   | none=>match An offs T ρ dst args with
    | some p=>k p.1 p.2
    | none=>none
  | none=>match E.io f with
  | []=>match iv T ρ args with
   | some ds=>E.call α f ds fun res=>g6 dst T (args.flatMap fun x=>bp T (ρ x)) res k
   | none=>none
  | i::io=>match gW T ρ (i::io) 0 args with
   | some (ds,ns,is,ms)=>match I0 (ns++is) ms with
    | true=>E.call α f ds fun res=>gH dst T ms ns is res k
    | false=>none
   | none=>none
 | .calld x args=>match cE (ρ x),iv T ρ args with
  | some c,some ds=>match dh T 4 c with
   | some (.fn f caps)=>E.call α f (ds++caps.map fun d=>(false,[d])) fun res=>g6 dst T (aX T 4 c++args.flatMap fun x=>bp T (ρ x)) res k
   | _=>none
  | _,_=>none
 | .inv m x args=>match cE (ρ x),iv T ρ args with
  | some (.d (.ifc t b cs)),some ds=>match ahn P t m with
   | some f=>E.call α f ((b,cs)::ds) fun res=>g6 dst T (args.flatMap fun x=>bp T (ρ x)) res k
   | none=>none
  | _,_=>none
 | .bin op t x y=>match ic (ρ x),ic (ρ y) with
  | some a,some b=>match Ed op a b with
   | some p=>flN (eS op p.1 p.2.1 p.2.2) (fun r=>k (.val false [.d (.v (.float p.1 r))]) []) (k (.val false [.d (.nan p.1)]) [])
   | none=>QN P op t x y a b fun v=>k (Ac v) []
  | _,_=>fy P E.env T ρ dst ao k
 | .pure o=>DH P E.env T ρ dst o k
 | ao=>fy P E.env T ρ dst ao k
theorem Ir {o:Option (AV × List (Nat × aD))}{k:AV->List (Nat × aD)->Option α}{a:α}(h:(match o with | some p=>k p.1 p.2 | none=>none)=some a):∃ y es,o=some (y,es)/\k y es=some a:=by
 cases o with
 | none=>cases h
 | some p=>exact⟨p.1,p.2,rfl,h⟩
theorem m7 {o:Option AV}{k:AV->Option α}{a:α}(h:(match o with | some y=>k y | none=>none)=some a):∃ y,o=some y/\k y=some a:=by
 cases o with
 | none=>cases h
 | some p=>exact⟨p,rfl,h⟩
theorem aE.Nat'.split {E:aE}(hE:E.Nat'){f:Nat}{ds:List DV}{k:List RV->Option α}{a:α}(h:E.call α f ds k=some a):∃ res,E.env f ds=some res/\k res=some a:=by
 have:=hE _ _ f ds some k
 simp only [Option.bind_some] at this
 rw [show (fun r=>k r)=k from rfl] at this
 rw [<- this] at h
 obtain⟨res,h1,h2⟩:=Option.bind_eq_some_iff.1 h
 exact⟨res,h1,h2⟩
theorem Rn {E:aE}(hE:E.Nat'){T:Tab}{ρ:Operand->AV}{dst g:Nat}{args:List Operand}{k:AV->List (Nat × aD)->Option α}{a:α}(h:RU E T ρ dst g args k=some a):∃ y es,AN E.env T ρ dst g args=some (y,es)/\k y es=some a:=by
 unfold RU at h
 split at h
 ·rename_i x n c
  split at h
  ·rename_i caps hc
   split at h
   ·rename_i ds ns is ms h1
    split at h
    ·rename_i hns
     obtain⟨res,h2,h3⟩:=hE.split h
     obtain⟨y,es,h4,h5⟩:=nA h3
     refine⟨y,es,?_,h5⟩
     simp only [AN,hc]
     unfold Lb
     rw [show E.env.io g=E.io g from rfl,h1]
     simp only [hns,h2,h4]
    ·cases h
   ·cases h
  ·cases h
 ·cases h
theorem Cj {E:aE}(hE:E.Nat'){T:Tab}{ρ:Operand->AV}{dst:Nat}{sh:List Sh}{ao:AOp}{k:AV->List (Nat × aD)->Option α}{a:α}(h:JN P E T ρ dst sh ao k=some a) :
  ∃ y es,eff P E.env T ρ dst ao=some (y,es)/\k y es=some a:=by
 unfold JN at h
 split at h
 ·rename_i c x y
  split at h
  ·rename_i t h1
   cases t with
   | true=>exact⟨_,_,by simp only [eff,h1];rfl,h⟩
   | false=>exact⟨_,_,by simp only [eff,h1];rfl,h⟩
  ·cases h
 ·rename_i sz x i
  split at h
  ·rename_i z rows h1 h2
   split at h
   ·rename_i hl
    obtain⟨h3,r,h4,h5,h6⟩:=Rv h
    have h7:z.toNat < rows.length:=(List.getElem?_eq_some_iff.1 h4).1
    have h8:cV rows z.toNat=r:=by simp [cV,h4]
    refine⟨_,_,?_,h6⟩
    simp only [eff,h1,h2,h8]
    rw [if_pos ⟨h3,by omega,by omega⟩]
   ·cases h
  ·rename_i z n h1 h2
   split at h
   ·rename_i s rows hT
    obtain⟨h3,h4⟩:=G9 h
    exact⟨_,_,by simp only [eff,h1,h2,hT];rw [if_pos h3],h4⟩
   ·rename_i rows hT
    obtain⟨h3,h4⟩:=G9 h
    exact⟨_,_,by simp only [eff,h1,h2,hT];rw [if_pos h3],h4⟩
   ·cases h
  ·exact bI h
  ·cases h
 ·rename_i sz len x i
  split at h
  ·rename_i z n o h1 h2
   obtain⟨j,h3,h4,h5⟩:=pn h
   subst h4
   exact⟨_,_,by simp only [eff,h1,h2];rw [if_pos ⟨by omega,by omega⟩];rfl,h5⟩
  ·rename_i z n m o h1 h2
   obtain⟨j,h3,h4,h5⟩:=pn h
   subst h4
   exact⟨_,_,by simp only [eff,h1,h2];rw [if_pos ⟨by omega,by omega⟩];rfl,h5⟩
  ·rename_i z cs o h1 h2
   obtain⟨j,h3,h4,h5⟩:=pn h
   subst h4
   exact⟨_,_,by simp only [eff,h1,h2];rw [if_pos ⟨by omega,by omega⟩];rfl,h5⟩
  ·cases h
 ·rename_i agg sz x
  split at h
  ·rename_i n i off h1
   split at h
   ·rename_i s rows hT
    split at h
    ·rename_i hl
     have h2:=Az h
     obtain⟨y,h3,h4⟩:=m7 (uQ h)
     rw [hl.1] at h3 h2
     refine⟨y,[],?_,h4⟩
     simp only [eff,h1,hT]
     rw [if_pos (by omega),h3];rfl
    ·cases h
   ·rename_i rows hT
    split at h
    ·rename_i hl
     have h2:=Az h
     obtain⟨y,h3,h4⟩:=m7 (uQ h)
     rw [hl.1] at h3 h2
     refine⟨y,[],?_,h4⟩
     simp only [eff,h1,hT]
     rw [if_pos (by omega),h3];rfl
    ·cases h
   ·cases h
  ·exact bI h
 ·rename_i sz x y
  split at h
  ·rename_i ys n i off h1 h2
   split at h
   ·rename_i ds es h3
    split at h
    ·rename_i s rows hT
     split at h
     ·rename_i hl
      obtain⟨h4,h5⟩:=Y4 h
      exact⟨_,_,by simp only [eff,h1,h2,h3,hT];rw [if_pos ⟨hl,h4⟩],h5⟩
     ·cases h
    ·cases h
   ·cases h
  ·exact bI h
 ·rename_i agg len sz x i
  split at h
  ·rename_i cs z h1 h2
   obtain⟨j,h3,h4,h5⟩:=pn h
   subst h4
   split at h5
   ·rename_i hj
    obtain⟨y,h6,h7⟩:=m7 h5
    refine⟨y,[],?_,h7⟩
    simp only [eff,h1,h2]
    rw [if_pos ⟨by omega,by omega,hj⟩]
    show Option.map _ (jz agg (List.take sz (List.drop (j*sz) cs)))=_
    rw [h6];rfl
   ·cases h5
  ·cases h
 ·rename_i sz move x lo hi
  split at h
  ·rename_i rows h1
   split at h
   ·rename_i l hh h2 h3
    obtain⟨h4,h5⟩:=dS h
    exact⟨_,_,by simp only [eff,h1,h2,h3];rw [if_pos (by simpa using h4)],h5⟩
   ·cases h
  ·rename_i n h1
   split at h
   ·rename_i s rows hT
    split at h
    ·rename_i l hh h2 h3
     split at h
     ·rename_i hs
      obtain⟨h4,h5⟩:=dS h
      have h4:=of_decide_eq_true h4
      split at h5
      ·split at h5
       ·rename_i hd
        refine⟨_,_,?_,h5⟩
        simp only [eff,h1,h2,h3,hT]
        rw [if_pos ⟨h4.1,h4.2.1,h4.2.2,hs⟩,if_pos trivial,if_pos hd]
       ·cases h5
      ·refine⟨_,_,?_,h5⟩
       simp only [eff,h1,h2,h3,hT]
       rw [if_pos ⟨h4.1,h4.2.1,h4.2.2,hs⟩]
       rfl
     ·cases h
    ·cases h
   ·rename_i rows hT
    split at h
    ·rename_i l hh h2 h3
     obtain⟨h4,h5⟩:=dS h
     exact⟨_,_,by simp only [eff,h1,h2,h3,hT];rw [if_pos (by simpa using h4)],h5⟩
    ·cases h
   ·cases h
  ·exact bI h
 ·rename_i sz x lo hi
  split at h
  ·rename_i n h1
   split at h
   ·rename_i s rows hT
    split at h
    ·rename_i l hh h2 h3
     split at h
     ·rename_i hs
      obtain⟨h4,h5⟩:=dS h
      have h4:=of_decide_eq_true h4
      by_cases hlt:l < hh
      ·simp only [hlt,decide_true,cK] at h5
       refine⟨_,_,?_,h5⟩
       simp only [eff,h1,h2,h3,hT]
       rw [if_pos ⟨h4.1,h4.2.1,h4.2.2,hs⟩,if_pos hlt]
      ·simp only [hlt,decide_false,cK] at h5
       refine⟨_,_,?_,h5⟩
       simp only [eff,h1,h2,h3,hT]
       rw [if_pos ⟨h4.1,h4.2.1,h4.2.2,hs⟩,if_neg hlt]
     ·cases h
    ·cases h
   ·cases h
  ·cases h
 ·rename_i sz bytes zero len cap
  split at h
  ·rename_i l c h1 h2
   split at h
   ·rename_i hd
    obtain⟨h4,h5⟩:=dS h
    have h4:=of_decide_eq_true h4
    exact⟨_,_,by simp only [eff,h1,h2];rw [if_pos ⟨h4.1,h4.2.1,h4.2.2.1,h4.2.2.2,hd⟩],h5⟩
   ·cases h
  ·cases h
 ·rename_i sz bytes x y
  split at h
  ·exact bI h
  rename_i hpp
  split at h
  ·rename_i rows2 h1
   split at h
   ·rename_i h2
    split at h
    ·rename_i hd
     obtain⟨h4,h5⟩:=dS h
     have h4:=of_decide_eq_true h4
     exact⟨_,_,by simp only [eff,hpp,h1,h2];rw [if_pos ⟨h4.1,h4.2.1,h4.2.2,hd⟩],h5⟩
    ·cases h
   ·rename_i n h2
    split at h
    ·rename_i s rows hT
     split at h
     ·rename_i hd
      obtain⟨h4,h5⟩:=dS h
      have h4:=of_decide_eq_true h4
      exact⟨_,_,by simp only [eff,hpp,h1,h2,hT];rw [if_pos ⟨hd.1,h4.1,h4.2.1,h4.2.2,hd.2⟩],h5⟩
     ·cases h
    ·cases h
   ·exact bI h
   ·rename_i rows h2
    split at h
    ·rename_i hd
     obtain⟨h4,h5⟩:=dS h
     have h4:=of_decide_eq_true h4
     exact⟨_,_,by simp only [eff,hpp,h1,h2];rw [if_pos ⟨h4.1,h4.2.1,h4.2.2.1,h4.2.2.2.1,h4.2.2.2.2,hd⟩],h5⟩
    ·cases h
   ·cases h
  ·cases h
 ·rename_i sz x y
  split at h
  ·rename_i rows2 n lo hi h1 h2
   split at h
   ·rename_i s rows hT
    split at h
    ·rename_i hs
     obtain⟨h4,h5⟩:=dS h
     have h4:=of_decide_eq_true h4
     exact⟨_,_,by simp only [eff,h1,h2,hT];rw [if_pos ⟨hs,h4⟩],h5⟩
    ·cases h
   ·cases h
  ·cases h
 ·rename_i x
  split at h
  ·rename_i s h1
   split at h
   ·rename_i hd
    obtain⟨h4,h5⟩:=dS h
    exact⟨_,_,by simp only [eff,h1];rw [if_pos ⟨by simpa using h4,hd⟩],h5⟩
   ·cases h
  ·cases h
 ·rename_i f args
  split at h
  ·rename_i y hpt
   have hpt':E.env.ptrs f=some y:=hpt
   split at h
   ·rename_i gf hfw
    obtain⟨r,es,h1,h2⟩:=Rn hE h
    exact⟨r,es,by simp only [eff,hpt',hfw,h1],h2⟩
   ·rename_i hfw
    obtain⟨r,es,h1,h2⟩:=Ir h
    exact⟨r,es,by simp only [eff,hpt',hfw,h1],h2⟩
  rename_i hpt0
  have hpt:E.env.ptrs f=none:=hpt0
  split at h
  ·rename_i hio
   split at h
   ·rename_i ds h1
    obtain⟨res,h2,h3⟩:=hE.split h
    obtain⟨y,es,h4,h5⟩:=j8 h3
    exact⟨y,es,by simp only [eff,hpt];simp only [aE.env,hio,h1];simp only [aE.env] at h2;simp only [h2,h4],h5⟩
   ·cases h
  ·rename_i i io hio
   split at h
   ·rename_i ds ns ms h1
    split at h
    ·rename_i hns
     obtain⟨res,h2,h3⟩:=hE.split h
     obtain⟨y,es,h4,h5⟩:=nA h3
     exact⟨y,es,by simp only [eff,hpt];simp only [aE.env,hio,h1,hns];simp only [aE.env] at h2;simp only [h2,h4],h5⟩
    ·cases h
   ·cases h
 ·rename_i x args
  split at h
  ·rename_i c ds h1 h2
   split at h
   ·rename_i f caps h3
    obtain⟨res,h4,h5⟩:=hE.split h
    obtain⟨y,es,h6,h7⟩:=j8 h5
    exact⟨y,es,by simp only [eff,h1,h2,h3,h4,h6],h7⟩
   ·cases h
  ·cases h
 ·rename_i m x args
  split at h
  ·rename_i t b cs ds h1 h2
   split at h
   ·rename_i f h3
    obtain⟨res,h4,h5⟩:=hE.split h
    obtain⟨y,es,h6,h7⟩:=j8 h5
    exact⟨y,es,by simp only [eff,h1,h2,h3,h4,h6],h7⟩
   ·cases h
  ·cases h
 ·rename_i op t x y
  split at h
  ·rename_i u v h1 h2
   split at h
   ·rename_i p hp
    obtain⟨kk,m,n⟩:=p
    obtain⟨rfl,rfl,ho⟩:=FX hp
    simp only at h
    cases ha:eS op kk m n with
    | some r=>
     rw [ha] at h
     refine⟨_,_,?_,h⟩
     simp only [eff,h1,h2,IN ho,ha,Option.map_some]
     rfl
    | none=>
     rw [ha] at h
     refine⟨_,_,?_,h⟩
     simp only [eff,h1,h2,IN ho,ha,Option.map_none,IW h1 h2 ho ha,Option.map_some]
   ·obtain⟨r,h3,h4⟩:=QT h
    exact⟨_,_,by simp only [eff,h1,h2,h3],h4⟩
  ·exact bI h
 ·exact J4 h
 ·exact bI h
theorem Ia {o:Option (AV × List (Nat × aD))}{k:AV->List (Nat × aD)->Option α}{g:α->Option β}:(match o with | some p=>k p.1 p.2 | none=>none).bind g=match o with | some p=>(k p.1 p.2).bind g | none=>none:=by cases o <;> rfl
theorem mY {o:Option AV}{k:AV->Option α}{g:α->Option β}:(match o with | some p=>k p | none=>none).bind g=match o with | some p=>(k p).bind g | none=>none:=by cases o <;> rfl
theorem Rq {E:aE}(hE:E.Nat'){T:Tab}{ρ:Operand->AV}{dst g':Nat}{args:List Operand}{k:AV->List (Nat × aD)->Option α}{g:α->Option β} :
  (RU E T ρ dst g' args k).bind g=RU E T ρ dst g' args fun y es=>(k y es).bind g:=by
 unfold RU
 split
 ·split
  ·split
   ·split
    ·rw [hE];congr 1;funext res;exact nf
    ·rfl
   ·rfl
  ·rfl
 ·rfl
theorem DK {E:aE}(hE:E.Nat'){T:Tab}{ρ:Operand->AV}{dst:Nat}{sh:List Sh}{ao:AOp}{k:AV->List (Nat × aD)->Option α}{g:α->Option β} :
  (JN P E T ρ dst sh ao k).bind g=JN P E T ρ dst sh ao fun y es=>(k y es).bind g:=by
 unfold JN
 split
 ·split
  ·exact iB
  ·rfl
 ·split
  ·split
   ·rw [Rc,nO]
   ·rfl
  ·split <;> first | exact S5 | rfl
  ·exact bJ
  ·rfl
 ·split <;> first | exact Cv | rfl
 ·split
  ·split
   ·split
    ·rw [rP,nO];congr 2;funext cs;exact mY
    ·rfl
   ·split
    ·rw [rP,nO];congr 2;funext cs;exact mY
    ·rfl
   ·rfl
  ·exact bJ
 ·split
  ·split
   ·split
    ·split
     ·exact T5
     ·rfl
    ·rfl
   ·rfl
  ·exact bJ
 ·split
  ·rw [Cv];congr 1;funext j;split
   ·exact mY
   ·rfl
  ·rfl
 ·split
  ·split <;> first | exact fe | rfl
  ·split
   ·split
    ·split
     ·rw [fe];congr 1;split
      ·split <;> rfl
      ·rfl
     ·rfl
    ·rfl
   ·split <;> first | exact fe | rfl
   ·rfl
  ·exact bJ
 ·split
  ·split
   ·split
    ·split
     ·rw [fe,iB]
     ·rfl
    ·rfl
   ·rfl
  ·rfl
 ·split
  ·split <;> first | exact fe | rfl
  ·rfl
 ·split
  ·exact bJ
  split
  ·split
   ·split <;> first | exact fe | rfl
   ·split
    ·split <;> first | exact fe | rfl
    ·rfl
   ·exact bJ
   ·split <;> first | exact fe | rfl
   ·rfl
  ·rfl
 ·split
  ·split
   ·split <;> first | exact fe | rfl
   ·rfl
  ·rfl
 ·split
  ·split <;> first | exact fe | rfl
  ·rfl
 ·split
  ·split
   ·exact Rq hE
   ·exact Ia
  split
  ·split
   ·rw [hE];congr 1;funext res;exact kv
   ·rfl
  ·split
   ·split
    ·rw [hE];congr 1;funext res;exact nf
    ·rfl
   ·rfl
 ·split
  ·split
   ·rw [hE];congr 1;funext res;exact kv
   ·rfl
  ·rfl
 ·split
  ·split
   ·rw [hE];congr 1;funext res;exact kv
   ·rfl
  ·rfl
 ·split
  ·split
   ·exact YJ
   ·exact Si
  ·exact bJ
 ·exact J8
 ·exact bJ
end Go.AM

namespace Go.AM
set_option linter.unusedSimpArgs false
variable {α β:Type}{P:Program}
noncomputable def aN:Nat:=Classical.choose (⟨18446744073709551616,Nat.le_refl _⟩:∃ n:Nat,18446744073709551616<=n)
theorem cB:18446744073709551616<=aN:=Classical.choose_spec (⟨18446744073709551616,Nat.le_refl _⟩:∃ n:Nat,18446744073709551616<=n)
def abt (σ:St)(t:Nat)(b:Bool):St:=⟨aput σ.tmps t (.val false [.d (.v (.bool b))]),σ.tab,σ.sv⟩
def gsK (σ:St)(g:Option (Nat × Bool))(A B:St->Option α):Option α:=
 match g with
 | none=>A σ
 | some (t,b)=>match aj σ.tmps t with
  | some (.val false [.d (.v (.bool x))])=>cK x ((match b with | true=>A | false=>B) (abt σ t true)) ((match b with | true=>B | false=>A) (abt σ t false))
  | some (.val false [.und])=>B σ
  | _=>none
def vW (P:Program)(E:aE)(sh:List (Nat × List Sh)):List bz->(St->Option α)->St->Option α
 | [],K,σ=>K σ
 | ao::l,K,σ=>gsK σ ao.guard
   (fun σ=>JN P E σ.tab (evO σ.tmps) (ao.dst.getD 9999) ((aj sh (ao.dst.getD 9999)).getD []) ao.op fun y es=>vW P E sh l K (eI σ ao.dst y es))
   (fun σ=>vW P E sh l K (eI σ ao.dst (.val false [.und]) []))
def vO (P:Program)(E:aE)(sh:List (Nat × List Sh)):List bz->(List df->St->Option α)->List df->St->Option α
 | [],K,acc,σ=>K acc.reverse σ
 | ao::l,K,acc,σ=>gsK σ ao.guard
   (fun σ=>JN P E σ.tab (evO σ.tmps) (ao.dst.getD 9999) ((aj sh (ao.dst.getD 9999)).getD []) ao.op fun y es=>vO P E sh l K (⟨ao.dst,y,es,lkA σ ao es⟩::acc) (eI σ ao.dst y es))
   (fun σ=>vO P E sh l K (⟨ao.dst,.val false [.und],[],lkA σ ao []⟩::acc) (eI σ ao.dst (.val false [.und]) []))
theorem B9 {β:Type}:∀ {l:List (Nat × β)} {n:Nat} {x:β},aj l n=some x->aput l n x=l
 | [],n,x,h=>by cases h
 | (k,y)::r,n,x,h=>by
  simp only [aj] at h
  simp only [aput]
  split at h
  ·rename_i hk;simp only [Option.some.injEq] at h;subst h;subst hk;rw [if_pos rfl]
  ·rename_i hk;rw [if_neg hk,B9 h]
theorem GG {σ:St}{g:Option (Nat × Bool)}{A B:St->Option α}{a:α}(h:gsK σ g A B=some a):(gX σ.tmps g=some true/\A σ=some a)\/(gX σ.tmps g=some false/\B σ=some a):=by
 unfold gsK at h
 split at h
 ·exact .inl ⟨rfl,h⟩
 ·rename_i t b
  split at h
  ·rename_i x hx
   have hs:∀ b',x=b'->abt σ t b'=σ:=fun b' hb=>by subst hb;simp only [abt,B9 hx]
   cases x with
   | true=>
    simp only [cK,hs true rfl] at h
    cases b with
    | true=>exact .inl ⟨by simp [gX,hx],h⟩
    | false=>exact .inr ⟨by simp [gX,hx],h⟩
   | false=>
    simp only [cK,hs false rfl] at h
    cases b with
    | true=>exact .inr ⟨by simp [gX,hx],h⟩
    | false=>exact .inl ⟨by simp [gX,hx],h⟩
  ·rename_i hx;exact .inr ⟨by simp [gX,hx],h⟩
  ·cases h
theorem H0 {σ:St}{g:Option (Nat × Bool)}{A B:St->Option α}{gg:α->Option β}:(gsK σ g A B).bind gg=gsK σ g (fun σ=>(A σ).bind gg) (fun σ=>(B σ).bind gg):=by
 unfold gsK
 split
 ·rfl
 ·split
  ·rename_i t b _ x hx
   rw [iB]
   cases b <;> rfl
  ·rfl
  ·rfl
def lP (P:Program)(E:aE)(sh:List (Nat × List Sh))(ops:List bz)(prs:List (Nat × Nat))(K:St->Option α)(σ:St):Option α:=
 match prs with
 | []=>vW P E sh ops K σ
 | _::_=>vO P E sh ops (fun os σ'=>if prs.all (qz os) then K σ' else none) [] σ
def cX (K:St->Option α)(Q:Exit->St->Option α):Exit->St->Option α
 | .normal,σ=>K σ
 | .exit id,σ=>Q (.exit id) σ
 | .ret,σ=>Q .ret σ
 | _,_=>none
def uK (id:Nat)(Q:Exit->St->Option α):Exit->St->Option α
 | .normal,σ=>Q .normal σ
 | .exit id',σ=>if id'=id then Q .normal σ else Q (.exit id') σ
 | .ret,σ=>Q .ret σ
 | _,_=>none
def bW (td:Option cH)(σ:St)(K:St->Option α):Option α:=match ip td σ with | some σ'=>K σ' | none=>none
def g5 (f:(Exit->St->Option α)->St->Option α)(td:Option cH)(Q:Exit->St->Option α):Nat->St->Option α
 | 0,_=>none
 | k+1,σ=>bW td σ (f (cX (g5 f td Q k) Q))
def uj (td:Option cH)(K:St->Option α)(Q:Exit->St->Option α):Exit->St->Option α
 | .normal,σ=>bW td ⟨σ.sv,σ.tab,[]⟩ K
 | .ret,σ=>Q .ret ⟨σ.sv,σ.tab,[]⟩
 | .exit id,σ=>Q (.exit id) ⟨σ.sv,σ.tab,[]⟩
 | _,_=>none
def vp (sh:List (Nat × List Sh))(lv:Bool)(g:Operand)(ps:List Nat)(x:List Value)(σ:St)(K:St->Option α):Option α:=match lv with
 | false=>if x.length=ps.length then K ⟨vN ps x σ.tmps,σ.tab,σ.tmps⟩ else none
 | true=>match ql σ g,x,ps with
  | some (_,rows),[.int .i64 t],[p,q]=>match decide (((aj sh q).getD []).length=2) with
   | true=>ldK rows t.toNat 0 ((aj sh q).getD []) (unc ((aj sh q).getD []) fun cs=>K ⟨(q,.val true (cs.map .d))::(p,.val false [.d (.v (.int .i64 t))])::σ.tmps,σ.tab,σ.tmps⟩)
   | false=>none
  | _,_,_=>none
theorem Rp {sh:List (Nat × List Sh)}{lv:Bool}{g:Operand}{ps:List Nat}{x:List Value}{σ:St}{K:St->Option α}{a:α}(h:vp sh lv g ps x σ K=some a):DN lv g ps x σ fun σ=>K σ=some a:=by
 cases lv with
 | false=>
  simp only [vp] at h
  split at h
  ·rename_i hl;exact⟨hl,h⟩
  ·cases h
 | true=>
  simp only [vp] at h
  simp only [DN]
  split at h
  ·rename_i hlr
   rw [hlr]
   split at h
   ·rename_i hsh
    have hsh:=of_decide_eq_true hsh
    have h1:=Az h
    have h2:=uQ h
    rw [hsh] at h2
    have hlt:=h1.elim (·.1) (·.2)
    simp only [List.getElem?_eq_getElem hlt]
    simp only [List.drop_zero,cV,List.getD_eq_getElem?_getD,List.getElem?_eq_getElem hlt,Option.getD_some] at h2
    exact h2
   ·cases h
  ·cases h
theorem To {rows:List (List DC)}{i off:Nat}{sh:List Sh}{k k':List DC->Option α}{a:α}(hk:∀ cs,k cs=some a->k' cs=some a)(h:ldK rows i off sh (unc sh k)=some a):ldK rows i off sh (unc sh k')=some a:=by
 have e:∀ k:List DC->Option α,ldK rows i off sh (unc sh k)=(ldK rows i off sh (unc sh (some:List DC->Option (List DC)))).bind k:=fun k=>by rw [rP,nO];rfl
 rw [e k] at h
 rw [e k']
 obtain⟨p,hp,hk'⟩:=Option.bind_eq_some_iff.1 h
 rw [hp]
 exact hk _ hk'
theorem Rr {sh:List (Nat × List Sh)}{lv:Bool}{g:Operand}{ps:List Nat}{x:List Value}{σ:St}{K K':St->Option α}{a:α}(hK:∀ σ,K σ=some a->K' σ=some a)(h:vp sh lv g ps x σ K=some a):vp sh lv g ps x σ K'=some a:=by
 cases lv with
 | false=>
  simp only [vp] at h ⊢
  split at h
  ·rename_i hl;rw [if_pos hl];exact hK _ h
  ·cases h
 | true=>
  simp only [vp] at h ⊢
  split at h
  ·split at h
   ·exact To (fun cs h=>hK _ h) h
   ·cases h
  ·cases h
theorem BL {sh:List (Nat × List Sh)}{lv:Bool}{gg:Operand}{ps:List Nat}{x:List Value}{σ:St}{K:St->Option α}{g:α->Option β}:(vp sh lv gg ps x σ K).bind g=vp sh lv gg ps x σ fun σ=>(K σ).bind g:=by
 cases lv with
 | false=>simp only [vp];exact kM
 | true=>
  simp only [vp]
  split
  ·split
   ·rw [rP,nO]
   ·rfl
  ·rfl
def cn (sh:List (Nat × List Sh))(lv:Bool)(g:Operand)(fa fb:(Exit->St->Option α)->St->Option α)(ps:List Nat)(td:Option cH)(Q:Exit->St->Option α):List (List Value)->St->Option α
 | [],σ=>Q .normal σ
 | x::xs,σ=>vp sh lv g ps x σ (fa (cX (fb (uj td (cn sh lv g fa fb ps td Q xs) Q)) (fun _ _=>none)))
def ze (o:Option (List (List Value)))(K:List (List Value)->Option α):Option α:=match o with | some xs=>K xs | none=>none
def zq (o:Option Bool)(x y:Option α):Option α:=match o with | some b=>cK b x y | none=>none
noncomputable def dJ (P:Program)(E:aE)(sh:List (Nat × List Sh)):au->(Exit->St->Option α)->St->Option α
 | .skip,K,σ=>K .normal σ
 | .ret,K,σ=>K .ret σ
 | .exit id,K,σ=>K (.exit id) σ
 | .region ops prs td,K,σ=>lP P E sh ops prs (fun σ'=>bW td σ' (K .normal)) σ
 | .seq a b,K,σ=>dJ P E sh a (cX (dJ P E sh b K) K) σ
 | .cond c a b,K,σ=>zq (wi (evO σ.tmps c)) (dJ P E sh a K σ) (dJ P E sh b K σ)
 | .block id b,K,σ=>dJ P E sh b (uK id K) σ
 | .loop td b,K,σ=>g5 (dJ P E sh b) td K aN σ
 | .rangeF g ps td a b,K,σ=>match zU E.env σ g with
  | some rows=>cn sh true g (dJ P E sh a) (dJ P E sh b) ps td K (uX rows.length) (eK σ (evO σ.tmps g))
  | none=>ze (zW E.env σ.tab (evO σ.tmps g) σ.sv) fun xs=>cn sh false g (dJ P E sh a) (dJ P E sh b) ps td K xs (eK σ (evO σ.tmps g))
variable {E:aE}{sh:List (Nat × List Sh)}
theorem qh (hE:E.Nat'){K:St->Option α}{a:α}:∀ (l:List bz) (σ:St),vW P E sh l K σ=some a->lZ P E.env l (fun σ'=>K σ'=some a) σ
 | [],σ,h=>h
 | ao::l,σ,h=>by
  simp only [vW] at h
  rcases GG h with ⟨hb,h⟩ | ⟨hb,h⟩
  ·obtain⟨y,es,h1,h2⟩:=Cj hE h
   simp only [lZ,hb,fc,h1,Be]
   exact⟨fun _=>qh hE l _ h2,nofun⟩
  ·simp only [lZ,hb,fc]
   exact⟨nofun,fun _=>qh hE l _ h⟩
theorem p7 (hE:E.Nat'){K:List df->St->Option α}{a:α}:∀ (l:List bz) (acc:List df) (σ:St),vO P E sh l K acc σ=some a->gr P E.env l (fun os σ'=>K os σ'=some a) acc σ
 | [],acc,σ,h=>h
 | ao::l,acc,σ,h=>by
  simp only [vO] at h
  rcases GG h with ⟨hb,h⟩ | ⟨hb,h⟩
  ·obtain⟨y,es,h1,h2⟩:=Cj hE h
   simp only [gr,hb,fc,h1,Be]
   exact⟨fun _=>p7 hE l _ _ h2,nofun⟩
  ·simp only [gr,hb,fc]
   exact⟨nofun,fun _=>p7 hE l _ _ h⟩
theorem A3 {P:Program}{E:Env}:∀ (l:List bz) {K K':List df->St->Prop} {acc:List df} {σ:St},(∀ os σ,K os σ->K' os σ)->gr P E l K acc σ->gr P E l K' acc σ:=by
 intro l
 induction l with
 | nil=>intro K K' acc σ h hk;exact h _ σ hk
 | cons ao l ih=>
  intro K K' acc σ h hk
  rcases fk hk with ⟨h1,h2⟩ | ⟨h1,h2⟩
  ·obtain⟨y,es,h3,h4⟩:=iO h2
   simp only [gr,h1,h3,fc,Be]
   exact⟨fun _=>ih h h4,nofun⟩
  ·simp only [gr,h1,fc]
   exact⟨nofun,fun _=>ih h h2⟩
theorem RY {P:Program}{E:Env}:∀ (l:List bz) {K K':St->Prop} {σ:St},(∀ σ,K σ->K' σ)->lZ P E l K σ->lZ P E l K' σ:=by
 intro l
 induction l with
 | nil=>intro K K' σ h hk;exact h σ hk
 | cons ao l ih=>
  intro K K' σ h hk
  rcases fk hk with ⟨h1,h2⟩ | ⟨h1,h2⟩
  ·obtain⟨y,es,h3,h4⟩:=iO h2
   simp only [lZ,h1,h3,fc,Be]
   exact⟨fun _=>ih h h4,nofun⟩
  ·simp only [lZ,h1,fc]
   exact⟨nofun,fun _=>ih h h2⟩
theorem z5 {td:Option cH}{σ:St}{K:St->Option α}{a:α}(h:bW td σ K=some a):jL (ip td σ) fun σ'=>K σ'=some a:=by
 unfold bW at h
 split at h
 ·rename_i σ' hs;rw [hs];exact h
 ·cases h
theorem DT (hE:E.Nat'){ops:List bz}{prs:List (Nat × Nat)}{K:St->Option α}{σ:St}{a:α}(h:lP P E sh ops prs K σ=some a):jS P E.env ops prs (fun σ'=>K σ'=some a) σ:=by
 unfold lP at h
 unfold jS
 cases prs with
 | nil=>exact qh hE ops σ h
 | cons p r=>
  refine A3 ops (fun os σ' h=>?_) (p7 hE ops [] σ h)
  split at h
  ·rename_i hp;exact⟨hp,h⟩
  ·cases h
theorem pZ {K:St->Option α}{Q:Exit->St->Option α}{a:α}{e:Exit}{σ:St}(h:cX K Q e σ=some a):vz (fun σ=>K σ=some a) (fun e σ=>Q e σ=some a) e σ:=by
 cases e <;> first | exact h | cases h
theorem RW (hE:E.Nat'):∀ (c:au) {K:Exit->St->Option α} {σ:St} {a:α},dJ P E sh c K σ=some a->wpA P E.env c (fun e σ'=>K e σ'=some a) σ:=by
 intro c
 induction c with
 | skip=>intro K σ a h;exact h
 | ret=>intro K σ a h;exact h
 | exit id=>intro K σ a h;exact h
 | region ops prs td=>
  intro K σ a h
  have:=DT hE h
  simp only [wpA]
  unfold jS at this ⊢
  cases prs with
  | nil=>exact RY ops (fun σ hs=>z5 hs) this
  | cons p r=>exact A3 ops (fun os σ hs=>⟨hs.1,z5 hs.2⟩) this
 | seq x y ihx ihy=>
  intro K σ a h
  refine fK x (fun e σ hs=>?_) (ihx h)
  have:=pZ hs
  cases e with
  | normal=>exact ihy this
  | ret=>exact this
  | exit id=>exact this
  | _=>exact this
 | cond c x y ihx ihy=>
  intro K σ a h
  simp only [dJ,zq] at h
  simp only [wpA]
  split at h
  ·rename_i b hb
   rw [hb]
   cases b with
   | true=>exact⟨fun _=>ihx h,nofun⟩
   | false=>exact⟨nofun,fun _=>ihy h⟩
  ·cases h
 | block id b ih=>
  intro K σ a h
  refine fK b (fun e σ hs=>?_) (ih h)
  cases e with
  | normal=>exact hs
  | ret=>exact hs
  | exit id'=>
   simp only [uK] at hs
   simp only [uC]
   split at hs
   ·rename_i he;rw [if_pos he];exact hs
   ·rename_i he;rw [if_neg he];exact hs
  | _=>cases hs
 | loop td b ih=>
  intro K σ a h
  refine⟨aN,?_⟩
  have key:∀ n σ,g5 (dJ P E sh b) td K n σ=some a->pL (wpA P E.env b) td (fun e σ'=>K e σ'=some a) n σ:=by
   intro n
   induction n with
   | zero=>intro σ h;cases h
   | succ n ihn=>
    intro σ h
    simp only [g5] at h
    simp only [pL]
    unfold bW at h
    split at h
    ·rename_i σ' hs
     rw [hs]
     refine fK b (fun e σ hs=>?_) (ih h)
     have:=pZ hs
     cases e with
     | normal=>exact ihn _ this
     | ret=>exact this
     | exit id=>exact this
     | _=>exact this
    ·cases h
  exact key aN σ h
 | rangeF g ps td x y ihx ihy=>
  intro K σ a h
  have key:∀ lv xs σ,cn sh lv g (dJ P E sh x) (dJ P E sh y) ps td K xs σ=some a->cQ lv g (wpA P E.env x) (wpA P E.env y) ps td (fun e σ'=>K e σ'=some a) xs σ:=by
   intro lv xs
   induction xs with
   | nil=>intro σ h;exact h
   | cons v xs ihn=>
    intro σ h
    simp only [cn] at h
    refine DJ (fun σ h=>?_) (Rp h)
    refine fK x (fun e σ hs=>?_) (ihx h)
    have:=pZ hs
    cases e with
    | normal=>
     refine fK y (fun e σ hs=>?_) (ihy this)
     cases e with
     | normal=>
      simp only [uj,bW] at hs
      simp only [p8]
      split at hs
      ·rename_i σ' h1;rw [h1];exact ihn _ hs
      ·cases hs
     | ret=>exact hs
     | exit id=>exact hs
     | _=>cases hs
    | ret=>cases this
    | exit id=>cases this
    | _=>exact this
  simp only [dJ] at h
  simp only [wpA]
  split at h
  ·rename_i rows hlw
   rw [hlw];exact key _ _ _ h
  ·rename_i hlw
   rw [hlw]
   simp only [ze] at h
   split at h
   ·rename_i xs hxs
    rw [hxs];exact key _ _ _ h
   ·cases h
theorem qb (hE:E.Nat'){g:α->Option β}{K:St->Option α}:∀ (l:List bz) (σ:St),(vW P E sh l K σ).bind g=vW P E sh l (fun σ=>(K σ).bind g) σ
 | [],σ=>rfl
 | ao::l,σ=>by
  simp only [vW]
  rw [H0]
  congr 1
  ·funext σ
   rw [DK hE]
   congr 1
   funext y es
   exact qb hE l _
  ·funext σ
   exact qb hE l _
theorem qA (hE:E.Nat'){g:α->Option β}{K:List df->St->Option α}:∀ (l:List bz) (acc:List df) (σ:St),(vO P E sh l K acc σ).bind g=vO P E sh l (fun os σ=>(K os σ).bind g) acc σ
 | [],acc,σ=>rfl
 | ao::l,acc,σ=>by
  simp only [vO]
  rw [H0]
  congr 1
  ·funext σ
   rw [DK hE]
   congr 1
   funext y es
   exact qA hE l _ _
  ·funext σ
   exact qA hE l _ _
theorem tq (hE:E.Nat'){g:α->Option β}{ops:List bz}{prs:List (Nat × Nat)}{K:St->Option α}{σ:St}:(lP P E sh ops prs K σ).bind g=lP P E sh ops prs (fun σ=>(K σ).bind g) σ:=by
 unfold lP
 cases prs with
 | nil=>exact qb hE ops σ
 | cons p r=>simp only;rw [qA hE];congr 1;funext os σ;exact kM
theorem ft {g:α->Option β}{td:Option cH}{σ:St}{K:St->Option α}:(bW td σ K).bind g=bW td σ fun σ=>(K σ).bind g:=by
 unfold bW;split <;> rfl
theorem fY {g:α->Option β}{K:St->Option α}{Q:Exit->St->Option α}:(fun e σ=>(cX K Q e σ).bind g)=cX (fun σ=>(K σ).bind g) (fun e σ=>(Q e σ).bind g):=by
 funext e σ;cases e <;> rfl
theorem we {g:α->Option β}{id:Nat}{Q:Exit->St->Option α}:(fun e σ=>(uK id Q e σ).bind g)=uK id (fun e σ=>(Q e σ).bind g):=by
 funext e σ;cases e <;> first | rfl | (simp only [uK];exact kM)
theorem oY (hE:E.Nat'){g:α->Option β}:∀ (c:au) {K:Exit->St->Option α} {σ:St},(dJ P E sh c K σ).bind g=dJ P E sh c (fun e σ=>(K e σ).bind g) σ:=by
 intro c
 induction c with
 | skip=>intro K σ;rfl
 | ret=>intro K σ;rfl
 | exit id=>intro K σ;rfl
 | region ops prs td=>intro K σ;simp only [dJ];rw [tq hE];congr 1;funext σ;exact ft
 | seq x y ihx ihy=>intro K σ;simp only [dJ];rw [ihx,fY];congr 2;funext σ;exact ihy
 | cond c x y ihx ihy=>
  intro K σ
  simp only [dJ,zq]
  split
  ·rw [iB,ihx,ihy]
  ·rfl
 | block id b ih=>intro K σ;simp only [dJ];rw [ih,we]
 | loop td b ih=>
  intro K σ
  simp only [dJ]
  have key:∀ n σ,(g5 (dJ P E sh b) td K n σ).bind g=g5 (dJ P E sh b) td (fun e σ=>(K e σ).bind g) n σ:=by
   intro n
   induction n with
   | zero=>intro σ;rfl
   | succ n ihn=>
    intro σ
    simp only [g5]
    rw [ft]
    congr 1
    funext σ
    rw [ih,fY]
    congr 2
    funext σ
    exact ihn σ
  exact key aN σ
 | rangeF gg ps td x y ihx ihy=>
  intro K σ
  have key:∀ lv xs σ,(cn sh lv gg (dJ P E sh x) (dJ P E sh y) ps td K xs σ).bind g=cn sh lv gg (dJ P E sh x) (dJ P E sh y) ps td (fun e σ=>(K e σ).bind g) xs σ:=by
   intro lv xs
   induction xs with
   | nil=>intro σ;rfl
   | cons v xs ihn=>
    intro σ
    simp only [cn]
    rw [BL]
    congr 1
    funext σ
    rw [ihx,fY]
    congr 2
    funext σ
    rw [ihy]
    congr 1
    funext e σ
    cases e with
    | normal=>simp only [uj];rw [ft];congr 1;funext σ;exact ihn σ
    | _=>rfl
  simp only [dJ]
  split
  ·exact key _ _ _
  ·simp only [ze]
   split
   ·exact key _ _ _
   ·rfl
def Ii (rs:List dV)(k:List RV->Option α)(e:Exit)(σ:St):Option α:=
 match e with
 | .ret | .normal=>match At rs σ with
  | some r=>k r
  | none=>none
 | _=>none
theorem Du {g:α->Option β}{rs:List dV}{k:List RV->Option α}:(fun e σ=>(Ii rs k e σ).bind g)=Ii rs fun r=>(k r).bind g:=by
 funext e σ
 cases e <;> first | rfl | (simp only [Ii];split <;> rfl)
theorem R1 {rs:List dV}{res:List RV}{e:Exit}{σ:St}(h:Ii rs some e σ=some res):abU rs res e σ:=by
 cases e with
 | ret=>
  simp only [Ii] at h;split at h
  ·rename_i r hr;simp only [Option.some.injEq] at h;subst h;exact⟨.inl rfl,hr⟩
  ·cases h
 | normal=>
  simp only [Ii] at h;split at h
  ·rename_i r hr;simp only [Option.some.injEq] at h;subst h;exact⟨.inr rfl,hr⟩
  ·cases h
 | _=>cases h
structure aE.Ok (P:Program)(E:aE):Prop where
 nat:E.Nat'
 ok:eZ P E.env
noncomputable def fnK (P:Program)(E:aE)(sh:List (Nat × List Sh))(ac:au)(rs:List dV)(ds:List DV)(k:List RV->Option α):Option α:=match Xx ds ac with
 | true=>dJ P E sh ac (Ii (rs++gx 0 ds) k) (zX ds)
 | false=>none
theorem Zj (hE:E.Nat'){g:α->Option β}{ac:au}{rs:List dV}{ds:List DV}{k:List RV->Option α}:(fnK P E sh ac rs ds k).bind g=fnK P E sh ac rs ds fun r=>(k r).bind g:=by
 unfold fnK
 split
 ·rw [oY hE,Du]
 ·rfl
theorem rS (hE:E.Ok P)(hm:P.follows .mixedOrders=true){f:FuncId}{nt:Nat}{tr tl:List (Nat × cH)}{ac:au}{rs:List dV}(hf:vn P f nt tr tl ac rs){ds:List DV}{res:List RV}(hn:ds.length<=nt)
  (h:fnK P E sh ac rs ds some=some res):dc P f ds res/\de P f:=by
 unfold fnK at h
 split at h
 ·rename_i hio
  exact hf.contract hm hE.ok hn hio (fK ac (fun _ _ hs=>R1 hs) (RW hE.nat ac h))
 ·cases h
def aE.add (E:aE)(f:Nat)(s:(α:Type)->List DV->(List RV->Option α)->Option α):aE:=⟨fun α g ds k=>if g=f then s α ds k else E.call α g ds k,E.seq,E.io,E.ptrs⟩
theorem aE.Ok.add (hE:E.Ok P)(hm:P.follows .mixedOrders=true){f:FuncId}{nt:Nat}{tr tl:List (Nat × cH)}{ac:au}{rs:List dV}(hf:vn P f nt tr tl ac rs){s:(α:Type)->List DV->(List RV->Option α)->Option α}
  (hs:∀ ds,(∃ sh',∀ α k,s α ds k=fnK P E sh' ac rs ds k)\/∀ α k,s α ds k=none) (hn:∀ ds,nt < ds.length->s _ ds some=none):(E.add f s).Ok P:=by
 refine⟨fun α β g ds k gg=>?_,fun g ds res hg=>?_,hE.ok.seq,hE.ok.ptrs⟩
 ·simp only [aE.add]
  split
  ·rcases hs ds with ⟨sh',h⟩ | h
   ·rw [h,h,Zj hE.nat]
   ·rw [h,h];rfl
  ·exact hE.nat ..
 ·simp only [aE.env,aE.add] at hg
  split at hg
  ·rename_i he
   subst he
   rcases hs ds with ⟨sh',h⟩ | h
   ·refine rS (sh:=sh') hE hm hf ?_ (by rw [<- h];exact hg)
    rcases Nat.lt_or_ge nt ds.length with hl | hl
    ·rw [hn ds hl] at hg;cases hg
    ·exact hl
   ·rw [h] at hg;cases hg
  ·exact hE.ok.call g ds res hg
def aE.nil:aE:=⟨fun _ _ _ _=>none,fun _ _=>none,fun _=>[],fun _=>none⟩
theorem aE.Ok.nil:aE.nil.Ok P:=⟨fun _ _ _ _ _ _=>rfl,fun _ _ _ h=>(nomatch h),fun _ _ _ h=>(nomatch h),fun _ _ h=>(nomatch h)⟩
end Go.AM

namespace Go.AM
set_option linter.unusedSimpArgs false
structure PT (X:Type) where
 Cur:Type->Type
 unc:{β:Type}->(X->β)->Cur β
 dec:{β:Type}->X->Cur β->Option β
 law:∀ x,(∀ (β:Type) (g:X->β),dec x (unc g)=some (g x))\/(∀ (β:Type) (f:Cur β),dec x f=none)
namespace PT
variable {X Y:Type}
def EA:PT X:=⟨fun β=>X->β,fun g=>g,fun x f=>some (f x),fun _=>.inl fun _ _=>rfl⟩
def lift (p:PT X)(mk:X->Y)(un:Y->Option X)(h:∀ y x,un y=some x->mk x=y):PT Y:=
 ⟨p.Cur,fun g=>p.unc fun x=>g (mk x),fun y f=>match un y with | some x=>p.dec x f | none=>none,fun y=>by
  cases hu:un y with
  | none=>exact .inr fun _ _=>rfl
  | some x=>
   rcases p.law x with hl | hr
   ·exact .inl fun β g=>by simp only [hl];rw [h y x hu]
   ·exact .inr fun β f=>by simp only [hr]⟩
def const (x:X)(is:X->Bool)(h:∀ y,is y=true->y=x):PT X:=
 ⟨fun β=>β,fun g=>g x,fun y f=>match is y with | true=>some f | false=>none,fun y=>by
  cases hi:is y with
  | true=>have:=h y hi;subst this;exact .inl fun _ _=>rfl
  | false=>exact .inr fun _ _=>rfl⟩
def agq (p:PT X)(q:PT Y):PT (X × Y):=
 ⟨fun β=>p.Cur (q.Cur β),fun g=>p.unc fun x=>q.unc fun y=>g (x,y),fun z f=>match p.dec z.1 f with | some f'=>q.dec z.2 f' | none=>none,fun z=>by
  rcases p.law z.1 with hl | hr
  ·rcases q.law z.2 with hl' | hr'
   ·exact .inl fun β g=>by simp only [hl,hl']
   ·refine .inr fun β f=>?_
    split
    ·exact hr' _ _
    ·rfl
  ·exact .inr fun β f=>by simp only [hr]⟩
def nil:PT (List X):=const [] (fun l=>match l with | []=>true | _::_=>false) (fun l h=>by cases l with | nil=>rfl | cons a r=>cases h)
def cons (p:PT X)(q:PT (List X)):PT (List X):=
 (agq p q).lift (fun z=>z.1::z.2) (fun l=>match l with | []=>none | a::r=>some (a,r)) (fun l z h=>by cases l with | nil=>cases h | cons a r=>simp only [Option.some.injEq] at h;subst h;rfl)
def ofL:List (PT X)->PT (List X)
 | []=>nil
 | p::r=>cons p (ofL r)
def eqN (n:Nat)(p:PT Y):PT (Nat × Y):=p.lift (fun y=>(n,y)) (fun z=>if z.1=n then some z.2 else none) (fun z y h=>by
 split at h
 ·rename_i hn;simp only [Option.some.injEq] at h;subst h;subst hn;rfl
 ·cases h)
def eqB (b:Bool)(p:PT Y):PT (Bool × Y):=p.lift (fun y=>(b,y)) (fun z=>if z.1=b then some z.2 else none) (fun z y h=>by
 split at h
 ·rename_i hn;simp only [Option.some.injEq] at h;subst h;subst hn;rfl
 ·cases h)
end PT
open PT
def dI (k:IntKind):PT DC:=EA.lift (fun n=>.v (.int k n)) (fun d=>match d with | .v (.int k' n)=>if k'=k then some n else none | _=>none) (fun d n h=>by
 split at h
 ·split at h
  ·rename_i hk;simp only [Option.some.injEq] at h;subst h;subst hk;rfl
  ·cases h
 ·cases h)
def dB:PT DC:=EA.lift (fun n=>.v (.bool n)) (fun d=>match d with | .v (.bool n)=>some n | _=>none) (fun d n h=>by
 split at h
 ·simp only [Option.some.injEq] at h;subst h;rfl
 ·cases h)
def dF (k:FloatKind):PT DC:=EA.lift (fun n=>.v (.float k n)) (fun d=>match d with | .v (.float k' n)=>if k'=k then some n else none | _=>none) (fun d n h=>by
 split at h
 ·split at h
  ·rename_i hk;simp only [Option.some.injEq] at h;subst h;subst hk;rfl
  ·cases h
 ·cases h)
def dX (k:FloatKind):PT DC:=(agq EA EA).lift (fun (n:Nat × Nat)=>.v (.complex k n.1 n.2)) (fun d=>match d with | .v (.complex k' n m)=>if k'=k then some (n,m) else none | _=>none) (fun d n h=>by
 split at h
 ·split at h
  ·rename_i hk;simp only [Option.some.injEq] at h;subst h;subst hk;rfl
  ·cases h
 ·cases h)
def dL:PT DC:=EA.lift (fun n=>.sl n) (fun d=>match d with | .sl n=>some n | _=>none) (fun d n h=>by
 split at h
 ·simp only [Option.some.injEq] at h;subst h;rfl
 ·cases h)
def dFn (f:Nat)(caps:List (PT DC)):PT DC:=(ofL caps).lift (fun cs=>.fn f cs) (fun d=>match d with | .fn f' cs=>if f'=f then some cs else none | _=>none) (fun d n h=>by
 split at h
 ·split at h
  ·rename_i hk;simp only [Option.some.injEq] at h;subst h;subst hk;rfl
  ·cases h
 ·cases h)
def dP (cs:List (PT DC))(off:Nat):PT DC:=(ofL cs).lift (fun cs=>.cref cs off) (fun d=>match d with | .cref cs o=>if o=off then some cs else none | _=>none) (fun d n h=>by
 split at h
 ·split at h
  ·rename_i hk;simp only [Option.some.injEq] at h;subst h;subst hk;rfl
  ·cases h
 ·cases h)
def dMr (cs:List (PT DC))(off:Nat):PT DC:=(ofL cs).lift (fun cs=>.mref cs off) (fun d=>match d with | .mref cs o=>if o=off then some cs else none | _=>none) (fun d n h=>by
 split at h
 ·split at h
  ·rename_i hk;simp only [Option.some.injEq] at h;subst h;subst hk;rfl
  ·cases h
 ·cases h)
def dOs (sz:Nat):PT DC:=EA.lift (fun rows=>.osl sz rows) (fun d=>match d with | .osl s rows=>if s=sz then some rows else none | _=>none) (fun d n h=>by
 split at h
 ·split at h
  ·rename_i hk;simp only [Option.some.injEq] at h;subst h;subst hk;rfl
  ·cases h
 ·cases h)
def dON:PT DC:=const (.osl 0 []) (fun d=>match d with | .osl 0 []=>true | _=>false) (fun d h=>by split at h <;> first | rfl | cases h)
def aui (k:FloatKind):PT DC:=const (.nan k) (fun d=>match d with | .nan k'=>decide (k'=k) | _=>false) (fun d h=>by
 split at h
 ·have:=of_decide_eq_true h;subst this;rfl
 ·cases h)
def dNP:PT DC:=const (.v (.pointer none)) (fun d=>match d with | .v (.pointer none)=>true | _=>false) (fun d h=>by split at h <;> first | rfl | cases h)
def cD (p:PT DC):PT C:=p.lift .d (fun c=>match c with | .d x=>some x | _=>none) (fun d n h=>by
 split at h
 ·simp only [Option.some.injEq] at h;subst h;rfl
 ·cases h)
def alA:PT C:=const .nils (fun c=>match c with | .nils=>true | _=>false) (fun d h=>by split at h <;> first | rfl | cases h)
def bL (n:Nat):PT C:=const (.ref n) (fun c=>match c with | .ref m=>m == n | _=>false) (fun d h=>by
 split at h
 ·rename_i m;have:m=n:=by simpa using h
  rw [this]
 ·cases h)
def gi (n off:Nat):PT C:=const (.ptr n off) (fun c=>match c with | .ptr m o=>m == n && o == off | _=>false) (fun d h=>by
 split at h
 ·rename_i m o;have:m=n/\o=off:=by simpa using h
  rw [this.1,this.2]
 ·cases h)
def aV (b:Bool)(cs:List (PT C)):PT AV:=(ofL cs).lift (fun cs=>.val b cs) (fun a=>match a with | .val b' cs=>if b'=b then some cs else none | _=>none) (fun d n h=>by
 split at h
 ·split at h
  ·rename_i hk;simp only [Option.some.injEq] at h;subst h;subst hk;rfl
  ·cases h
 ·cases h)
def sl (n:Nat)(p:PT AV):PT (Nat × AV):=eqN n p
def s1 (n:Nat)(p:PT DC):PT (Nat × AV):=eqN n (aV false [cD p])
def az (n:Nat)(cs:List (PT C)):PT (Nat × aD):=eqN n ((ofL cs).lift (fun cs=>.box cs) (fun a=>match a with | .box cs=>some cs | _=>none) (fun d n h=>by
 split at h
 ·simp only [Option.some.injEq] at h;subst h;rfl
 ·cases h))
def bM (n sz:Nat):PT (Nat × aD):=eqN n (EA.lift (fun rows=>.own sz rows) (fun a=>match a with | .own s rows=>if s=sz then some rows else none | _=>none) (fun d n h=>by
 split at h
 ·split at h
  ·rename_i hk;simp only [Option.some.injEq] at h;subst h;subst hk;rfl
  ·cases h
 ·cases h))
def pS (ts:List (PT (Nat × AV)))(tb:List (PT (Nat × aD))):PT St:=
 (agq (ofL ts) (ofL tb)).lift (fun z=>⟨z.1,z.2,[]⟩) (fun σ=>match σ with | ⟨a,b,[]⟩=>some (a,b) | _=>none) (fun d n h=>by
 split at h
 ·simp only [Option.some.injEq] at h;subst h;rfl
 ·cases h)
def svC (n o:Nat):C:=if 1000000<=o then .psl [(n,o - 1000000)] else .ptr n o
def anB (l:List (Nat × Nat × Nat)):List (Nat × AV):=l.map fun p=>(p.1,.val false [svC p.2.1 p.2.2])
def svB:List (Nat × Nat × Nat)->List (Nat × AV)->Bool
 | [],[]=>true
 | p::r,(k,.val false [.ptr n o])::r'=>p.1 == k && p.2.1 == n && p.2.2 == o && decide (o < 1000000) && svB r r'
 | p::r,(k,.val false [.psl [(n,o)]])::r'=>p.1 == k && p.2.1 == n && p.2.2 == o+1000000 && svB r r'
 | _,_=>false
theorem JR:∀ {l:List (Nat × Nat × Nat)} {s:List (Nat × AV)},svB l s=true->s=anB l
 | [],[],_=>rfl
 | [],_::_,h=>by simp [svB] at h
 | p::r,[],h=>by simp [svB] at h
 | p::r,x::r',h=>by
  unfold svB at h
  split at h
  ·rename_i h1 h2;cases h1
  ·rename_i a b k n o d h1 h2
   simp only [List.cons.injEq] at h1 h2
   obtain⟨rfl,rfl⟩:=h1
   obtain⟨rfl,rfl⟩:=h2
   simp only [Bool.and_eq_true,beq_iff_eq,decide_eq_true_eq] at h
   obtain⟨⟨⟨⟨e1,e2⟩,e3⟩,e4⟩,h⟩:=h
   have e5:svC n o=.ptr n o:=by unfold svC;rw [if_neg (by omega)]
   rw [JR h,<- e1,<- e5,<- e2,<- e3];rfl
  ·rename_i a b k n o d h1 h2
   simp only [List.cons.injEq] at h1 h2
   obtain⟨rfl,rfl⟩:=h1
   obtain⟨rfl,rfl⟩:=h2
   simp only [Bool.and_eq_true,beq_iff_eq] at h
   obtain⟨⟨⟨e1,e2⟩,e3⟩,h⟩:=h
   have e5:svC n (o+1000000)=.psl [(n,o)]:=by unfold svC;rw [if_pos (by omega),Nat.add_sub_cancel]
   rw [JR h,<- e1,<- e5,<- e2,<- e3];rfl
  ·cases h
def pSv (l:List (Nat × Nat × Nat))(ts:List (PT (Nat × AV)))(tb:List (PT (Nat × aD))):PT St:=
 (agq (ofL ts) (ofL tb)).lift (fun z=>⟨z.1,z.2,anB l⟩) (fun σ=>if svB l σ.sv then some (σ.tmps,σ.tab) else none) (fun d n h=>by
 split at h
 ·rename_i hk;simp only [Option.some.injEq] at h;subst h;have:=JR hk;cases d;simp_all
 ·cases h)
def pV (b:Bool)(cs:List (PT DC)):PT DV:=eqB b (ofL cs)
def pA (l:List (PT DV)):PT (List DV):=ofL l
def rD (p:PT DC):PT RC:=p.lift .d (fun c=>match c with | .d x=>some x | _=>none) (fun d n h=>by
 split at h
 ·simp only [Option.some.injEq] at h;subst h;rfl
 ·cases h)
def rO (sz:Nat):PT RC:=EA.lift (fun rows=>.own sz rows) (fun a=>match a with | .own s rows=>if s=sz then some rows else none | _=>none) (fun d n h=>by
 split at h
 ·split at h
  ·rename_i hk;simp only [Option.some.injEq] at h;subst h;subst hk;rfl
  ·cases h
 ·cases h)
def rJ (cs:List (PT DC))(off:Nat):PT RC:=(ofL cs).lift (fun cs=>.obj cs off) (fun a=>match a with | .obj cs o=>if o=off then some cs else none | _=>none) (fun d n h=>by
 split at h
 ·split at h
  ·rename_i hk;simp only [Option.some.injEq] at h;subst h;subst hk;rfl
  ·cases h
 ·cases h)
def pR (b:Bool)(cs:List (PT RC)):PT RV:=eqB b (ofL cs)
def pRs (l:List (PT RV)):PT (List RV):=ofL l
variable {α β:Type}{P:Program}{E:aE}{sh:List (Nat × List Sh)}
structure rc:Type 1 where
 p:PT St
 F:(α:Type)->(Exit->St->Option α)->p.Cur (Option α)
structure XT:Type 1 where
 X:Type
 dx:List Value->Option X
 ex:X->List Value
 hx:∀ v x,dx v=some x->v=ex x
def JA (x:XT):List (List Value)->Option (List x.X)
 | []=>some []
 | v::r=>match x.dx v with
  | some a=>match JA x r with
   | some b=>some (a::b)
   | none=>none
  | none=>none
theorem Ft {x:XT}:∀ {xs:List (List Value)} {ys:List x.X},JA x xs=some ys->xs=ys.map x.ex
 | [],ys,h=>by simp only [JA,Option.some.injEq] at h;subst h;rfl
 | v::r,ys,h=>by
  simp only [JA] at h
  split at h
  ·rename_i a ha
   split at h
   ·rename_i b hb
    simp only [Option.some.injEq] at h;subst h
    rw [x.hx v a ha,Ft hb];rfl
   ·cases h
  ·cases h
def xK (x:XT)(xs:List (List Value))(f:List x.X->Option α):Option α:=match JA x xs with | some ys=>f ys | none=>none
def qK (o:Option (List (List Value)))(x:XT)(f:List x.X->Option α):Option α:=ze o fun xs=>xK x xs f
structure BT:Type 1 where
 lv:Bool
 x:XT
 p:PT St
 F:(α:Type)->(Exit->St->Option α)->List x.X->p.Cur (Option α)
def ajB (sh:List (Nat × List Sh))(lv:Bool)(g:Operand)(fa fb:(Exit->St->Option α)->St->Option α)(ps:List Nat)(td:Option cH)(Kn:St->Option α)(Q:Exit->St->Option α)(x:List Value)(σ:St):Option α:=
 vp sh lv g ps x σ (fa (cX (fb (uj td Kn Q)) (fun _ _=>none)))
inductive ah:Type 1 where
 | skip
 | ret
 | exit (id:Nat)
 | region (ops:List bz) (prs:List (Nat × Nat)) (td:Option cH)
 | seq (a b:ah)
 | cond (c:Operand) (a b:ah)
 | block (id:Nat) (b:ah)
 | loop (td:Option cH) (l:List rc) (b:ah)
 | mark (l:List rc) (c:ah)
 | rangeF (g:Operand) (ps:List Nat) (td:Option cH) (l:List BT) (a b:ah)
 | loopU (n:Nat) (td:Option cH) (b:ah)
def ah.erase:ah->au
 | .skip=>.skip
 | .ret=>.ret
 | .exit id=>.exit id
 | .region ops prs td=>.region ops prs td
 | .seq a b=>.seq a.erase b.erase
 | .cond c a b=>.cond c a.erase b.erase
 | .block id b=>.block id b.erase
 | .loop td _ b=>.loop td b.erase
 | .mark _ c=>c.erase
 | .rangeF g ps td _ a b=>.rangeF g ps td a.erase b.erase
 | .loopU _ td b=>.loop td b.erase
def Ry (p:PT St)(f:p.Cur (Option α))(σ:St)(r:Option α):Option α:=match p.dec σ f with | some o=>o | none=>r
def Gz (K:Exit->St->Option α)(σ:St)(r:Option α):List rc->Option α
 | []=>r
 | m::l=>Ry m.p (m.F α K) σ (Gz K σ r l)
def Fv (lv:Bool)(K:Exit->St->Option α)(xs:List (List Value))(σ:St)(r:Option α):List BT->Option α
 | []=>r
 | m::l=>match m.lv == lv with
  | true=>match m.p.dec σ (m.p.unc fun _=>()) with
   | some _=>xK m.x xs fun ys=>Ry m.p (m.F α K ys) σ none
   | none=>Fv lv K xs σ r l
  | false=>Fv lv K xs σ r l
def aS (f:(Exit->St->Option α)->St->Option α)(td:Option cH)(Q:Exit->St->Option α):Nat->St->Option α
 | 0,_=>none
 | k+1,σ=>f (cX (fun σ=>bW td σ (aS f td Q k)) Q) σ
def aF (P:Program)(E:aE)(sh:List (Nat × List Sh)):ah->(Exit->St->Option α)->St->Option α
 | .skip,K,σ=>K .normal σ
 | .ret,K,σ=>K .ret σ
 | .exit id,K,σ=>K (.exit id) σ
 | .region ops prs td,K,σ=>lP P E sh ops prs (fun σ'=>bW td σ' (K .normal)) σ
 | .seq a b,K,σ=>aF P E sh a (cX (aF P E sh b K) K) σ
 | .cond c a b,K,σ=>zq (wi (evO σ.tmps c)) (aF P E sh a K σ) (aF P E sh b K σ)
 | .block id b,K,σ=>aF P E sh b (uK id K) σ
 | .loop td l _,K,σ=>bW td σ fun σ=>Gz K σ none l
 | .mark l c,K,σ=>Gz K σ (aF P E sh c K σ) l
 | .rangeF g _ _ l _ _,K,σ=>match zU E.env σ g with
  | some rows=>Fv true K (uX rows.length) (eK σ (evO σ.tmps g)) none l
  | none=>ze (zW E.env σ.tab (evO σ.tmps g) σ.sv) fun xs=>Fv false K xs (eK σ (evO σ.tmps g)) none l
 | .loopU n td b,K,σ=>g5 (aF P E sh b) td K n σ
def bF {X:Type 1}:List X->(X->Prop)->Prop
 | [],_=>True
 | x::r,p=>p x/\bF r p
def ah.Good (P:Program)(E:aE)(sh:List (Nat × List Sh)):ah->Prop
 | .seq a b=>a.Good P E sh/\b.Good P E sh
 | .cond _ a b=>a.Good P E sh/\b.Good P E sh
 | .block _ b=>b.Good P E sh
 | .loop td l b=>b.Good P E sh/\bF l fun m=>∀ (α:Type) (K:Exit->St->Option α),m.F α K=m.p.unc fun σ=>aS (aF P E sh b) td K aN σ
 | .mark l c=>c.Good P E sh/\bF l fun m=>∀ (α:Type) (K:Exit->St->Option α),m.F α K=m.p.unc fun σ=>aF P E sh c K σ
 | .rangeF g ps td l a b=>(a.Good P E sh/\b.Good P E sh)/\bF l fun m=>∀ (α:Type) (K:Exit->St->Option α) (ys:List m.x.X),m.F α K ys=m.p.unc fun σ=>cn sh m.lv g (aF P E sh a) (aF P E sh b) ps td K (ys.map m.x.ex) σ
 | .loopU n _ b=>b.Good P E sh/\n<=1000000
 | _=>True
theorem uM {g:(α:Type)->(Exit->St->Option α)->St->Option α}{K:Exit->St->Option α}{σ:St}{r:Option α}{a:α}:∀ {l:List rc},bF l (fun m=>∀ (α:Type) (K:Exit->St->Option α),m.F α K=m.p.unc (g α K))->Gz K σ r l=some a->g α K σ=some a\/r=some a
 | [],_,h=>.inr h
 | m::l,hl,h=>by
  simp only [Gz,Ry] at h
  rw [hl.1 α K] at h
  rcases m.p.law σ with hL | hR
  ·rw [hL] at h;exact .inl h
  ·rw [hR] at h;exact uM hl.2 h
theorem pi {lv:Bool}{g:Bool->(α:Type)->(Exit->St->Option α)->List (List Value)->St->Option α}{K:Exit->St->Option α}{xs:List (List Value)}{σ:St}{r:Option α}{a:α}:∀ {l:List BT},bF l (fun m=>∀ (α:Type) (K:Exit->St->Option α) (ys:List m.x.X),m.F α K ys=m.p.unc (g m.lv α K (ys.map m.x.ex)))->Fv lv K xs σ r l=some a->g lv α K xs σ=some a\/r=some a
 | [],_,h=>.inr h
 | m::l,hl,h=>by
  simp only [Fv] at h
  split at h
  ·rename_i hlv
   have hlv:m.lv=lv:=by simpa using hlv
   rcases m.p.law σ with hL | hR
   ·rw [hL] at h
    simp only [xK] at h
    split at h
    ·rename_i ys hy
     have hxs:=Ft hy
     simp only [Ry] at h
     rw [hl.1 α K ys,<- hxs,hL,hlv] at h
     exact .inl h
    ·cases h
   ·rw [hR] at h;exact pi hl.2 h
  ·exact pi hl.2 h
theorem ve {g:(α:Type)->(Exit->St->Option α)->St->Option α}{K:Exit->St->Option α}{gg:α->Option β}{σ:St}{r:Option α}(hg:∀ σ,(g α K σ).bind gg=g β (fun e σ=>(K e σ).bind gg) σ) :
  ∀ {l:List rc},bF l (fun m=>∀ (α:Type) (K:Exit->St->Option α),m.F α K=m.p.unc (g α K))->(Gz K σ r l).bind gg=Gz (fun e σ=>(K e σ).bind gg) σ (r.bind gg) l
 | [],_=>rfl
 | m::l,hl=>by
  simp only [Gz,Ry]
  rw [hl.1 α K,hl.1 β]
  rcases m.p.law σ with hL | hR
  ·rw [hL,hL];exact hg σ
  ·rw [hR,hR];exact ve hg hl.2
theorem o7 {lv:Bool}{g:Bool->(α:Type)->(Exit->St->Option α)->List (List Value)->St->Option α}{K:Exit->St->Option α}{xs:List (List Value)}{gg:α->Option β}{σ:St}{r:Option α}(hg:∀ σ,(g lv α K xs σ).bind gg=g lv β (fun e σ=>(K e σ).bind gg) xs σ) :
  ∀ {l:List BT},bF l (fun m=>∀ (α:Type) (K:Exit->St->Option α) (ys:List m.x.X),m.F α K ys=m.p.unc (g m.lv α K (ys.map m.x.ex)))->(Fv lv K xs σ r l).bind gg=Fv lv (fun e σ=>(K e σ).bind gg) xs σ (r.bind gg) l
 | [],_=>rfl
 | m::l,hl=>by
  simp only [Fv]
  split
  ·rename_i hlv
   have hlv:m.lv=lv:=by simpa using hlv
   rcases m.p.law σ with hL | hR
   ·rw [hL]
    simp only [xK]
    split
    ·rename_i ys hy
     have hxs:=Ft hy
     simp only [Ry]
     rw [hl.1 α K,hl.1 β,<- hxs,hL,hL,hlv]
     exact hg σ
    ·rfl
   ·rw [hR];exact o7 hg hl.2
  ·exact o7 hg hl.2
theorem M8 {f:(Exit->St->Option α)->St->Option α}{td:Option cH}{Q:Exit->St->Option α}:∀ n σ,g5 f td Q n σ=bW td σ (aS f td Q n)
 | 0,σ=>by unfold bW;split <;> rfl
 | n+1,σ=>by
  have:g5 f td Q n=fun σ=>bW td σ (aS f td Q n):=funext (M8 n)
  simp only [g5,this]
  rfl
theorem agh (hE:E.Nat'):∀ (c:ah),c.Good P E sh->∀ {α:Type} {K:Exit->St->Option α} {σ:St} {a:α},aF P E sh c K σ=some a->dJ P E sh c.erase K σ=some a:=by
 have mono:∀ (c:au) {α:Type} {K K':Exit->St->Option α} {σ:St} {a:α},(∀ e σ,K e σ=some a->K' e σ=some a)->dJ P E sh c K σ=some a->dJ P E sh c K' σ=some a:=by
  intro c α K K' σ a hK h
  have h1:=oY (g:=(some:Exit × St->Option (Exit × St))) hE c (K:=fun e σ=>some (e,σ)) (σ:=σ) (P:=P) (sh:=sh)
  have h2:=oY (g:=fun p:Exit × St=>K p.1 p.2) hE c (K:=fun e σ=>some (e,σ)) (σ:=σ) (P:=P) (sh:=sh)
  have h3:=oY (g:=fun p:Exit × St=>K' p.1 p.2) hE c (K:=fun e σ=>some (e,σ)) (σ:=σ) (P:=P) (sh:=sh)
  simp only [Option.bind_some] at h2 h3
  rw [<- h2] at h
  rw [<- h3]
  obtain⟨p,hp,hk⟩:=Option.bind_eq_some_iff.1 h
  rw [hp]
  exact hK _ _ hk
 intro c
 induction c with
 | skip=>intro _ α K σ a h;exact h
 | ret=>intro _ α K σ a h;exact h
 | exit id=>intro _ α K σ a h;exact h
 | region ops prs td=>intro _ α K σ a h;exact h
 | seq x y ihx ihy=>
  intro hg α K σ a h
  simp only [aF] at h
  have h1:=ihx hg.1 h
  simp only [ah.erase,dJ]
  refine mono x.erase (fun e σ hs=>?_) h1
  cases e with
  | normal=>exact ihy hg.2 hs
  | ret=>exact hs
  | exit id=>exact hs
  | _=>cases hs
 | cond c x y ihx ihy=>
  intro hg α K σ a h
  simp only [aF,zq] at h
  simp only [ah.erase,dJ,zq]
  split at h
  ·rename_i b hb
   cases b with
   | true=>exact ihx hg.1 h
   | false=>exact ihy hg.2 h
  ·cases h
 | block id b ih=>intro hg α K σ a h;exact ih hg h
 | mark l c ih=>
  intro hg α K σ a h
  simp only [aF] at h
  rcases uM (g:=fun α K=>aF P E sh c K) hg.2 h with h | h <;> exact ih hg.1 h
 | loop td l b ih=>
  intro hg α K σ a h
  simp only [aF,bW] at h
  simp only [ah.erase,dJ]
  rw [M8]
  unfold bW
  split at h
  ·rename_i σ1 h1
   have h2:=(uM (g:=fun α K=>aS (aF P E sh b) td K aN) hg.2 h).resolve_right nofun
   have key:∀ n σ,aS (aF P E sh b) td K n σ=some a->aS (dJ P E sh b.erase) td K n σ=some a:=by
    intro n
    induction n with
    | zero=>intro σ h;cases h
    | succ n ihn=>
     intro σ h
     refine mono _ (fun e σ hs=>?_) (ih hg.1 h)
     cases e with
     | normal=>
      simp only [cX,bW] at hs ⊢
      split at hs
      ·rename_i σ' h';exact ihn _ hs
      ·cases hs
     | ret=>exact hs
     | exit id=>exact hs
     | _=>cases hs
   exact key _ _ h2
  ·cases h
 | rangeF g ps td l x y ihx ihy=>
  intro hg α K σ a h
  have key:∀ lv xs σ,cn sh lv g (aF P E sh x) (aF P E sh y) ps td K xs σ=some a->cn sh lv g (dJ P E sh x.erase) (dJ P E sh y.erase) ps td K xs σ=some a:=by
   intro lv xs
   induction xs with
   | nil=>intro σ h;exact h
   | cons v xs ihn=>
    intro σ h
    simp only [cn] at h ⊢
    refine Rr (fun σ h=>?_) h
    refine mono _ (fun e σ hs=>?_) (ihx hg.1.1 h)
    cases e with
    | normal=>
     refine mono _ (fun e σ hs=>?_) (ihy hg.1.2 hs)
     cases e with
     | normal=>
      simp only [uj,bW] at hs ⊢
      split at hs
      ·exact ihn _ hs
      ·cases hs
     | ret=>exact hs
     | exit id=>exact hs
     | _=>cases hs
    | ret=>exact hs
    | exit id=>exact hs
    | _=>cases hs
  simp only [aF] at h
  simp only [ah.erase,dJ]
  split at h
  ·rename_i rows hlw
   try rw [hlw]
   exact key _ _ _ ((pi (g:=fun lv α K xs=>cn sh lv g (aF P E sh x) (aF P E sh y) ps td K xs) hg.2 h).resolve_right nofun)
  ·rename_i hlw
   try rw [hlw]
   simp only [ze] at h ⊢
   split at h
   ·rename_i xs hxs
    exact key _ _ _ ((pi (g:=fun lv α K xs=>cn sh lv g (aF P E sh x) (aF P E sh y) ps td K xs) hg.2 h).resolve_right nofun)
   ·cases h
 | loopU n td b ih=>
  intro hg α K σ a h
  simp only [aF] at h
  simp only [ah.erase,dJ]
  have key:∀ n m σ,n<=m->g5 (aF P E sh b) td K n σ=some a->g5 (dJ P E sh b.erase) td K m σ=some a:=by
   intro n
   induction n with
   | zero=>intro m σ _ h;cases h
   | succ n ihn=>
    intro m σ hm h
    obtain⟨m,rfl⟩:∃ z,m=z+1:=⟨m - 1,by omega⟩
    simp only [g5,bW] at h ⊢
    split at h
    ·rename_i σ1 h1
     refine mono _ (fun e σ hs=>?_) (ih hg.1 h)
     cases e with
     | normal=>exact ihn _ _ (by omega) hs
     | ret=>exact hs
     | exit id=>exact hs
     | _=>cases hs
    ·cases h
  exact key n aN σ (by have:=hg.2;have:=cB;omega) h
theorem RS (hE:E.Nat'):∀ (c:ah),c.Good P E sh->∀ {α β:Type} {g:α->Option β} {K:Exit->St->Option α} {σ:St},(aF P E sh c K σ).bind g=aF P E sh c (fun e σ=>(K e σ).bind g) σ:=by
 intro c
 induction c with
 | skip=>intro _ α β g K σ;rfl
 | ret=>intro _ α β g K σ;rfl
 | exit id=>intro _ α β g K σ;rfl
 | region ops prs td=>intro _ α β g K σ;simp only [aF];rw [tq hE];congr 1;funext σ;exact ft
 | seq x y ihx ihy=>intro hg α β g K σ;simp only [aF];rw [ihx hg.1,fY];congr 2;funext σ;exact ihy hg.2
 | cond c x y ihx ihy=>
  intro hg α β g K σ
  simp only [aF,zq]
  split
  ·rw [iB,ihx hg.1,ihy hg.2]
  ·rfl
 | block id b ih=>intro hg α β g K σ;simp only [aF];rw [ih hg,we]
 | mark l c ih=>
  intro hg α β g K σ
  simp only [aF]
  rw [ve (g:=fun α K=>aF P E sh c K) (fun σ=>ih hg.1) hg.2,ih hg.1]
 | loop td l b ih=>
  intro hg α β g K σ
  simp only [aF]
  rw [ft]
  congr 1
  funext σ
  refine (ve (r:=none) (g:=fun α K=>aS (aF P E sh b) td K aN) (fun σ=>?_) hg.2).trans rfl
  have key:∀ n σ,(aS (aF P E sh b) td K n σ).bind g=aS (aF P E sh b) td (fun e σ=>(K e σ).bind g) n σ:=by
   intro n
   induction n with
   | zero=>intro σ;rfl
   | succ n ihn=>
    intro σ
    simp only [aS]
    rw [ih hg.1,fY]
    congr 2
    funext σ
    rw [ft]
    congr 1
    funext σ
    exact ihn σ
  exact key aN σ
 | rangeF gg ps td l x y ihx ihy=>
  intro hg α β g K σ
  have key:∀ lv xs σ,(cn sh lv gg (aF P E sh x) (aF P E sh y) ps td K xs σ).bind g=cn sh lv gg (aF P E sh x) (aF P E sh y) ps td (fun e σ=>(K e σ).bind g) xs σ:=by
   intro lv xs
   induction xs with
   | nil=>intro σ;rfl
   | cons v xs ihn=>
    intro σ
    simp only [cn]
    rw [BL]
    congr 1
    funext σ
    rw [ihx hg.1.1,fY]
    congr 2
    funext σ
    rw [ihy hg.1.2]
    congr 1
    funext e σ
    cases e with
    | normal=>simp only [uj];rw [ft];congr 1;funext σ;exact ihn σ
    | _=>rfl
  simp only [aF]
  split
  ·exact (o7 (r:=none) (g:=fun lv α K xs=>cn sh lv gg (aF P E sh x) (aF P E sh y) ps td K xs) (fun σ=>key _ _ σ) hg.2).trans rfl
  ·simp only [ze]
   split
   ·exact (o7 (r:=none) (g:=fun lv α K xs=>cn sh lv gg (aF P E sh x) (aF P E sh y) ps td K xs) (fun σ=>key _ _ σ) hg.2).trans rfl
   ·rfl
 | loopU n td b ih=>
  intro hg α β g K σ
  simp only [aF]
  have key:∀ n σ,(g5 (aF P E sh b) td K n σ).bind g=g5 (aF P E sh b) td (fun e σ=>(K e σ).bind g) n σ:=by
   intro n
   induction n with
   | zero=>intro σ;rfl
   | succ n ihn=>
    intro σ
    simp only [g5]
    rw [ft]
    congr 1
    funext σ
    rw [ih hg.1,fY]
    congr 2
    funext σ
    exact ihn σ
  exact key n σ
def fnM (P:Program)(E:aE)(sh:List (Nat × List Sh))(c:ah)(rs:List dV)(k:List RV->Option α)(ds:List DV):Option α:=match Xx ds c.erase with
 | true=>aF P E sh c (Ii (rs++gx 0 ds) k) (zX ds)
 | false=>none
def Ti (p:PT (List DV))(f:p.Cur (Option α))(ds:List DV)(r:Option α):Option α:=match p.dec ds f with | some o=>o | none=>r
def qG (k:List RV->Option α)(ds:List DV):List (Sigma fun p:PT (List DV)=>(α:Type)->(List RV->Option α)->p.Cur (Option α))->Option α
 | []=>none
 | x::r=>Ti x.1 (x.2 α k) ds (qG k ds r)
structure akJ (P:Program)(E:aE)(rs:List dV)(ac:au)(x:Sigma fun p:PT (List DV)=>(α:Type)->(List RV->Option α)->p.Cur (Option α)):Prop where
 ex:∃ (sh:List (Nat × List Sh)) (c:ah),c.erase=ac/\c.Good P E sh/\∀ (α:Type) (k:List RV->Option α),x.2 α k=x.1.unc fun ds=>fnM P E sh c rs k ds
abbrev Ji:Type 1:=Sigma fun p:PT (List DV)=>(α:Type)->(List RV->Option α)->p.Cur (Option α)
structure al (P:Program)(f nt:Nat)(x:Ji):Prop where
 nat:∀ (α β:Type) (k:List RV->Option α) (g:α->Option β) (ds:List DV),(∃ r,x.1.dec ds (x.2 α k)=some r/\x.1.dec ds (x.2 β fun r=>(k r).bind g)=some (r.bind g))\/(x.1.dec ds (x.2 α k)=none/\x.1.dec ds (x.2 β fun r=>(k r).bind g)=none)
 ok:∀ (ds:List DV) (res:List RV),ds.length<=nt->x.1.dec ds (x.2 _ some)=some (some res)->dc P f ds res/\de P f
theorem aeF (hE:E.Ok P)(hm:P.follows .mixedOrders=true){f:FuncId}{nt:Nat}{tr tl:List (Nat × cH)}{ac:au}{rs:List dV}(hf:vn P f nt tr tl ac rs){x:Ji}(hx:akJ P E rs ac x):al P f nt x:=by
 obtain⟨sh,c,h1,h2,h3⟩:=hx.ex
 refine⟨fun α β k g ds=>?_,fun ds res hn h=>?_⟩
 ·rcases x.1.law ds with hL | hR
  ·refine .inl ⟨fnM P E sh c rs k ds,?_,?_⟩
   ·rw [h3,hL]
   ·rw [h3,hL]
    simp only [fnM]
    split
    ·rw [RS hE.nat c h2,Du]
    ·rfl
  ·exact .inr ⟨hR _ _,hR _ _⟩
 ·rw [h3] at h
  rcases x.1.law ds with hL | hR
  ·rw [hL] at h
   simp only [Option.some.injEq,fnM] at h
   split at h
   ·rename_i hio
    have:=agh hE.nat c h2 h
    rw [h1] at this hio
    exact rS (sh:=sh) hE hm hf hn (by unfold fnK;rw [hio];exact this)
   ·cases h
  ·rw [hR] at h;cases h
theorem ack {f nt:Nat}{x:Ji}{r:List DV->Option (List RV)}(h:∀ (α:Type) (k:List RV->Option α),x.2 α k=x.1.unc fun ds=>(r ds).bind k)(hc:∀ ds res,r ds=some res->dc P f ds res/\de P f):al P f nt x:=by
 refine⟨fun α β k g ds=>?_,fun ds res _ hr=>?_⟩
 ·rw [h,h]
  rcases x.1.law ds with hL | hR
  ·refine .inl ⟨(r ds).bind k,hL _ _,?_⟩
   rw [hL]
   cases r ds <;> rfl
  ·exact .inr ⟨hR _ _,hR _ _⟩
 ·rw [h] at hr
  rcases x.1.law ds with hL | hR
  ·rw [hL] at hr
   simp only [Option.some.injEq] at hr
   refine hc ds res ?_
   cases hq:r ds with
   | none=>rw [hq] at hr;cases hr
   | some y=>rw [hq] at hr;exact hr
  ·rw [hR] at hr;cases hr
structure bC:Type 1 where
 f:Nat
 nt:Nat
 l:List Ji
def G6 (k:List RV->Option α)(f:Nat)(ds:List DV):List bC->Option α
 | []=>none
 | c::r=>if c.f=f then (if ds.length<=c.nt then qG k ds c.l else none) else G6 k f ds r
def aE.of (l:List bC)(sq:Nat->List DC->Option (List (List Value))):aE:=⟨fun _ f ds k=>G6 k f ds l,sq,fun _=>[],fun _=>none⟩
theorem aE.of_ok {sq:Nat->List DC->Option (List (List Value))}(hs:∀ f caps xs,sq f caps=some xs->fB P f caps xs/\de P f){l:List bC}(h:bF l fun c=>bF c.l (al P c.f c.nt)):(aE.of l sq).Ok P:=by
 have hN:∀ {f nt:Nat} (l:List Ji),bF l (al P f nt)->∀ (α β:Type) (ds:List DV) (k:List RV->Option α) (g:α->Option β),(qG k ds l).bind g=qG (fun r=>(k r).bind g) ds l:=by
  intro f nt l
  induction l with
  | nil=>intro _ α β ds k g;rfl
  | cons x r ih=>
   intro hl α β ds k g
   simp only [qG,Ti]
   rcases hl.1.nat α β k g ds with ⟨r',h1,h2⟩ | ⟨h1,h2⟩
   ·rw [h1,h2]
   ·rw [h1,h2];exact ih hl.2 α β ds k g
 have hC:∀ {f nt:Nat} (l:List Ji),bF l (al P f nt)->∀ (ds:List DV) (res:List RV),ds.length<=nt->qG some ds l=some res->dc P f ds res/\de P f:=by
  intro f nt l
  induction l with
  | nil=>intro _ ds res hn h;cases h
  | cons x r ih=>
   intro hl ds res hn h
   simp only [qG,Ti] at h
   split at h
   ·rename_i o ho;subst h;exact hl.1.ok ds res hn ho
   ·exact ih hl.2 ds res hn h
 refine⟨fun α β f ds k g=>?_,fun f ds res hg=>?_,hs,fun _ _ h=>(nomatch h)⟩
 ·simp only [aE.of]
  induction l with
  | nil=>rfl
  | cons c r ih=>
   simp only [G6]
   split
   ·split
    ·exact hN _ h.1 α β ds k g
    ·rfl
   ·exact ih h.2
 ·simp only [aE.env,aE.of] at hg
  induction l with
  | nil=>cases hg
  | cons c r ih=>
   simp only [G6] at hg
   split at hg
   ·rename_i he
    subst he
    split at hg
    ·rename_i hn;exact hC _ h.1 ds res hn hg
    ·cases hg
   ·exact ih h.2 hg
def aE.ofIO (l:List bC)(sq:Nat->List DC->Option (List (List Value)))(io:List (Nat × List Nat)):aE:=⟨fun _ f ds k=>G6 k f ds l,sq,fun f=>match aj io f with | some x=>x | none=>[],fun _=>none⟩
theorem aE.ofIO_ok {sq:Nat->List DC->Option (List (List Value))}{io:List (Nat × List Nat)}(hs:∀ f caps xs,sq f caps=some xs->fB P f caps xs/\de P f){l:List bC}(h:bF l fun c=>bF c.l (al P c.f c.nt)):(aE.ofIO l sq io).Ok P:=
 have:=aE.of_ok hs h
 ⟨this.nat,this.ok.call,this.ok.seq,fun _ _ h=>(nomatch h)⟩
def wQ (P:Program):List (Nat × List Nat)->Prop
 | []=>True
 | p::r=>lA P p.1 p.2/\wQ P r
theorem wQ.get:∀ {pt:List (Nat × List Nat)},wQ P pt->∀ {f:Nat} {offs:List Nat},aj pt f=some offs->lA P f offs
 | [],_,_,_,h=>by cases h
 | (g,x)::r,hp,f,offs,h=>by
  simp only [aj] at h
  split at h
  ·rename_i hg;subst hg;simp only [Option.some.injEq] at h;subst h;exact hp.1
  ·exact wQ.get hp.2 h
structure JQ:Type 1 where
 f:Nat
 p:PT (List DC)
 F:p.Cur (Option (List (List Value)))
def aga:List JQ->Nat->List DC->Option (List (List Value))
 | [],_,_=>none
 | c::r,f,caps=>if c.f=f then (match c.p.dec caps c.F with | some o=>o | none=>none) else aga r f caps
def ahJ (P:Program)(c:JQ):Prop:=∀ caps xs,c.p.dec caps c.F=some (some xs)->fB P c.f caps xs/\de P c.f
theorem P3:∀ {l:List JQ},bF l (ahJ P)->∀ f caps xs,aga l f caps=some xs->fB P f caps xs/\de P f
 | [],_,f,caps,xs,h=>by cases h
 | c::r,hl,f,caps,xs,h=>by
  simp only [aga] at h
  split at h
  ·rename_i hf
   subst hf
   split at h
   ·rename_i o ho;subst h;exact hl.1 caps xs ho
   ·cases h
  ·exact P3 hl.2 f caps xs h
def bG:Nat->List DC->Option (List (List Value)):=fun _ _=>none
theorem aP:∀ f caps xs,bG f caps=some xs->fB P f caps xs/\de P f:=fun _ _ _ h=>nomatch h
end Go.AM

namespace Go.AM
set_option linter.unusedSimpArgs false
abbrev ae:=List (List DC)
def lI (k:IntKind)(a b:Int):Int:=k.wrap ((BitVec.ofInt k.bits a &&& BitVec.ofInt k.bits b).toNat)
def iOr (k:IntKind)(a b:Int):Int:=k.wrap ((BitVec.ofInt k.bits a ||| BitVec.ofInt k.bits b).toNat)
def xp (k:IntKind)(a b:Int):Int:=k.wrap ((BitVec.ofInt k.bits a &&& ~~~(BitVec.ofInt k.bits b)).toNat)
abbrev w64 (n:Int):Int:=IntKind.wrap .i64 n
abbrev vi (n:Int):DC:=.v (.int .i64 n)
abbrev vs (b:ByteArray):DC:=.v (.string b)
def dv (sz bytes:Nat)(rows rows2:ae):Bool:=decide (cG sz rows2=true/\(rows.length+rows2.length)*bytes<=140737488355328/\rows.length+rows2.length<=9223372036854775807)
end Go.AM

namespace Go.AM.K
open PT
def xI:PT C:=cD (dI .i64)
def xs (n:Nat):List (PT C):=List.replicate n xI
def aI:PT AV:=aV false [xI]
def sI (n:Nat):=sl n aI
def sP (n:Nat):=sl n (aV false [gi n 0])
def vI:=pV false [dI .i64]
def wI:=pR false [rD (dI .i64)]
def mK (d:Nat)(b:Int):bz:=oO d (.mv (kI b))
abbrev I4 (t:Type):Type:=Int->Int->Int->Int->t
abbrev I5 (t:Type):Type:=Int->Int->Int->Int->Int->t
abbrev I6 (t:Type):Type:=Int->Int->Int->Int->Int->Int->t
abbrev I7 (t:Type):Type:=Int->Int->Int->Int->Int->Int->Int->t
abbrev I9 (t:Type):Type:=Int->Int->Int->Int->Int->Int->Int->Int->Int->t
abbrev I10 (t:Type):Type:=Int->Int->Int->Int->Int->Int->Int->Int->Int->Int->t
abbrev I11 (t:Type):Type:=Int->Int->Int->Int->Int->Int->Int->Int->Int->Int->Int->t
abbrev Op:=Option
abbrev KT (α:Type):=Exit->St->Option α
abbrev SK (α:Type):=St->Option α
abbrev RT (α:Type):=List RV->Option α
abbrev OT:=Option cH
abbrev SG:=List (Nat × List Sh)
abbrev TG:=List (Nat × cH)
abbrev BA:=ByteArray
def iT:List Sh:=[.int .i64]
def iS (n:Nat):List Sh:=List.replicate n (.int .i64)
end Go.AM.K

namespace Go.AM
def emb:au->ah
 | .skip=>.skip
 | .ret=>.ret
 | .exit id=>.exit id
 | .region ops prs td=>.region ops prs td
 | .seq a b=>.seq (emb a) (emb b)
 | .cond c a b=>.cond c (emb a) (emb b)
 | .block id b=>.block id (emb b)
 | .loop td b=>.loop td [] (emb b)
 | .rangeF g ps td a b=>.rangeF g ps td [] (emb a) (emb b)
theorem aG:∀ a:au,(emb a).erase=a
 | .skip | .ret | .exit _ | .region _ _ _=>rfl
 | .seq a b=>by simp only [emb,ah.erase,aG a,aG b]
 | .cond c a b=>by simp only [emb,ah.erase,aG a,aG b]
 | .block id b=>by simp only [emb,ah.erase,aG b]
 | .loop td b=>by simp only [emb,ah.erase,aG b]
 | .rangeF g ps td a b=>by simp only [emb,ah.erase,aG a,aG b]
theorem aK {P:Program}{E:aE}{sh:List (Nat × List Sh)}:∀ a:au,(emb a).Good P E sh
 | .skip | .ret | .exit _ | .region _ _ _=>trivial
 | .seq a b=>⟨aK a,aK b⟩
 | .cond _ a b=>⟨aK a,aK b⟩
 | .block _ b=>aK b
 | .loop _ b=>⟨aK b,trivial⟩
 | .rangeF _ _ _ a b=>⟨⟨aK a,aK b⟩,trivial⟩
inductive Mk:Type 1 where
 | m (l:List rc)
 | r (l:List BT)
 | u (n:Nat)
 | um (n:Nat) (l:List rc)
def ah.sub:List Nat->ah->ah
 | [],c=>c
 | 0::p,.seq a _=>a.sub p
 | 1::p,.seq _ b=>b.sub p
 | 0::p,.cond _ a _=>a.sub p
 | 1::p,.cond _ _ b=>b.sub p
 | 0::p,.block _ b=>b.sub p
 | 0::p,.loop _ _ b=>b.sub p
 | 0::p,.loopU _ _ b=>b.sub p
 | 0::p,.rangeF _ _ _ _ a _=>a.sub p
 | 1::p,.rangeF _ _ _ _ _ b=>b.sub p
 | 0::p,.mark _ b=>b.sub p
 | _,_=>.skip
def ah.put (mk:Mk):List Nat->ah->ah
 | [],.seq a b=>match mk with
  | .m l=>.seq (.mark l a) b
  | _=>.seq a b
 | [],.loop td [] b=>match mk with
  | .m l=>.loop td l b
  | .u n=>.loopU n td b
  | .um n l=>.loopU n td (.mark l b)
  | _=>.loop td [] b
 | [],.rangeF g ps td [] a b=>match mk with
  | .r l=>.rangeF g ps td l a b
  | _=>.rangeF g ps td [] a b
 | 0::p,.seq a b=>.seq (a.put mk p) b
 | 1::p,.seq a b=>.seq a (b.put mk p)
 | 0::p,.cond c a b=>.cond c (a.put mk p) b
 | 1::p,.cond c a b=>.cond c a (b.put mk p)
 | 0::p,.block id b=>.block id (b.put mk p)
 | 0::p,.loop td [] b=>.loop td [] (b.put mk p)
 | 0::p,.loopU n td b=>.loopU n td (b.put mk p)
 | 0::p,.rangeF g ps td [] a b=>.rangeF g ps td [] (a.put mk p) b
 | 1::p,.rangeF g ps td [] a b=>.rangeF g ps td [] a (b.put mk p)
 | _,c=>c
theorem aA {mk:Mk}:∀ (p:List Nat) (c:ah),(c.put mk p).erase=c.erase:=by
 intro p c
 fun_induction ah.put mk p c <;> simp_all [ah.erase]
def Ro (P:Program)(E:aE)(sh:List (Nat × List Sh))(mk:Mk):ah->Prop
 | .seq a _=>match mk with
  | .m l=>bF l fun m=>∀ (α:Type) (K:Exit->St->Option α),m.F α K=m.p.unc fun σ=>aF P E sh a K σ
  | _=>True
 | .loop td _ b=>match mk with
  | .m l=>bF l fun m=>∀ (α:Type) (K:Exit->St->Option α),m.F α K=m.p.unc fun σ=>aS (aF P E sh b) td K aN σ
  | .u n=>n<=1000000
  | .um n l=>(n<=1000000)/\bF l fun m=>∀ (α:Type) (K:Exit->St->Option α),m.F α K=m.p.unc fun σ=>aF P E sh b K σ
  | _=>True
 | .rangeF g ps td _ a b=>match mk with
  | .r l=>bF l fun m=>∀ (α:Type) (K:Exit->St->Option α) (ys:List m.x.X),m.F α K ys=m.p.unc fun σ=>cn sh m.lv g (aF P E sh a) (aF P E sh b) ps td K (ys.map m.x.ex) σ
  | _=>True
 | _=>True
theorem rm {P:Program}{E:aE}{sh:List (Nat × List Sh)}{mk:Mk}:∀ (p:List Nat) (c:ah),c.Good P E sh->Ro P E sh mk (c.sub p)->(c.put mk p).Good P E sh:=by
 intro p c
 fun_induction ah.put mk p c <;> intro hg hk <;> simp_all [ah.Good,ah.sub,Ro,bF]
noncomputable def aB (P:Program)(fn:Func)(tr tl:List (Nat × cH)):au:=(fn.body.bind (mk P fn.ntmps tr tl true)).getD .skip
noncomputable def asu (P:Program)(fn:Func):List dV:=(gF P fn.results.toList).getD []
def wl:ah->Nat
 | .seq _ _=>1
 | .loop _ [] _=>2
 | .rangeF _ _ _ [] _ _=>3
 | _=>0
def tdC:ah->Option cH
 | .loop td _ _ | .loopU _ td _=>td
 | .rangeF _ _ td _ _ _=>td
 | _=>none
def gC:ah->Operand × List Nat
 | .rangeF g ps _ _ _ _=>(g,ps)
 | _=>(.const .nilFunc,[])
theorem xz:∀ (p:List Nat) (c:ah) (i:Nat),wl (c.sub p) ≠ 0->c.sub (p++[i])=(c.sub p).sub [i]:=by
 intro p c i
 fun_induction ah.sub p c <;> intro h <;> simp_all [ah.sub,wl]
section
variable {P:Program}{E:aE}{sh:List (Nat × List Sh)}{p:List Nat}{c:ah}
theorem bc {l:List rc}(hk:wl (c.sub p)=1)(hg:c.Good P E sh)(hm:bF l fun m=>∀ (α:Type) (K:Exit->St->Option α),m.F α K=m.p.unc fun σ=>aF P E sh (c.sub (p++[0])) K σ):(c.put (.m l) p).Good P E sh:=by
 refine rm p c hg ?_
 have e:=xz p c 0 (by omega)
 generalize c.sub p=x at *
 cases x <;> simp_all [wl,ah.sub,Ro]
 split at hk <;> simp_all
theorem bK {l:List rc}{td:Option cH}(hk:(wl (c.sub p),tdC (c.sub p))=(2,td))(hg:c.Good P E sh)(hm:bF l fun m=>∀ (α:Type) (K:Exit->St->Option α),m.F α K=m.p.unc fun σ=>aS (aF P E sh (c.sub (p++[0]))) td K aN σ):(c.put (.m l) p).Good P E sh:=by
 refine rm p c hg ?_
 simp only [Prod.mk.injEq] at hk
 have e:=xz p c 0 (by omega)
 generalize c.sub p=x at *
 cases x <;> simp_all [wl,ah.sub,Ro,tdC]
theorem adC {l:List BT}{td:Option cH}{g:Operand}{ps:List Nat}(hk:(wl (c.sub p),tdC (c.sub p),gC (c.sub p))=(3,td,g,ps))(hg:c.Good P E sh)
  (hm:bF l fun m=>∀ (α:Type) (K:Exit->St->Option α) (ys:List m.x.X),m.F α K ys=m.p.unc fun σ=>cn sh m.lv g (aF P E sh (c.sub (p++[0]))) (aF P E sh (c.sub (p++[1]))) ps td K (ys.map m.x.ex) σ):(c.put (.r l) p).Good P E sh:=by
 refine rm p c hg ?_
 simp only [Prod.mk.injEq] at hk
 have e:=xz p c 0 (by omega)
 have e1:=xz p c 1 (by omega)
 generalize c.sub p=x at *
 cases x <;> simp_all [wl,ah.sub,Ro,tdC,gC]
theorem TY {n:Nat}(hn:n<=1000000)(hg:c.Good P E sh):(c.put (.u n) p).Good P E sh:=by
 refine rm p c hg ?_
 generalize c.sub p=x
 cases x <;> simp_all [Ro]
end
theorem ag {P : Program} {f nt : Nat} {fn : Func} {tr tl : List (Nat × cH)} (h : P.funcs[f]? = some fn) (hk : ((fn.ntmps == nt) && ((fn.body.bind (mk P fn.ntmps tr tl true)).isSome && ((gF P fn.results.toList).isSome && !(fn.name == "runtime.NumGoroutine")))) = true) :
  vn P f nt tr tl (aB P fn tr tl) (asu P fn):=by
 simp only [Bool.and_eq_true,beq_iff_eq] at hk
 obtain⟨h0,h1,h2,h3⟩:=hk
 subst h0
 obtain⟨x,hx⟩:=Option.isSome_iff_exists.1 h1
 obtain⟨y,hy⟩:=Option.isSome_iff_exists.1 h2
 refine⟨fn,h,rfl,?_,?_,by simpa using h3⟩
 ·show fn.body.bind (mk P fn.ntmps tr tl true)=some ((fn.body.bind (mk P fn.ntmps tr tl true)).getD .skip)
  rw [hx];rfl
 ·show gF P fn.results.toList=some ((gF P fn.results.toList).getD [])
  rw [hy];rfl
end Go.AM
