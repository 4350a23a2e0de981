/- Texts of one kind, put together. -/
import Derived.Test.YtffcelhcekillaaGreatKE1
namespace Go.AM
set_option linter.unusedSimpArgs false
inductive Sh where
 | int (k:IntKind)
 | bool
 | str
 | flt (k:FloatKind)
 | cpx (k:FloatKind)
 | sl
def Cur:List Sh->Type->Type
 | [],α=>α
 | .int _::r,α=>Int->Cur r α
 | .bool::r,α=>Bool->Cur r α
 | .str::r,α=>ByteArray->Cur r α
 | .flt _::r,α=>Nat->Cur r α
 | .cpx _::r,α=>Nat->Nat->Cur r α
 | .sl::r,α=>List (List DC)->Cur r α
variable {α β:Type}
def shC:(sh:List Sh)->List DC->Cur sh (Option α)->Option α
 | [],ds,f=>match ds with
  | []=>f
  | _::_=>none
 | .int k::r,ds,f=>match ds with
  | .v (.int k' n)::ds=>if k'=k then shC r ds (f n) else none
  | _=>none
 | .bool::r,ds,f=>match ds with
  | .v (.bool b)::ds=>shC r ds (f b)
  | _=>none
 | .str::r,ds,f=>match ds with
  | .v (.string s)::ds=>shC r ds (f s)
  | _=>none
 | .flt k::r,ds,f=>match ds with
  | .v (.float k' x)::ds=>if k'=k then shC r ds (f x) else none
  | _=>none
 | .cpx k::r,ds,f=>match ds with
  | .v (.complex k' x y)::ds=>if k'=k then shC r ds (f x y) else none
  | _=>none
 | .sl::r,ds,f=>match ds with
  | .sl rows::ds=>shC r ds (f rows)
  | _=>none
def unc:(sh:List Sh)->(List DC->β)->Cur sh β
 | [],k=>k []
 | .int kd::r,k=>fun n=>unc r fun cs=>k (.v (.int kd n)::cs)
 | .bool::r,k=>fun b=>unc r fun cs=>k (.v (.bool b)::cs)
 | .str::r,k=>fun s=>unc r fun cs=>k (.v (.string s)::cs)
 | .flt kd::r,k=>fun x=>unc r fun cs=>k (.v (.float kd x)::cs)
 | .cpx kd::r,k=>fun x y=>unc r fun cs=>k (.v (.complex kd x y)::cs)
 | .sl::r,k=>fun rows=>unc r fun cs=>k (.sl rows::cs)
def Bp:(sh:List Sh)->(α->Option β)->Cur sh (Option α)->Cur sh (Option β)
 | [],g,f=>f.bind g
 | .int _::r,g,f=>fun n=>Bp r g (f n)
 | .bool::r,g,f=>fun n=>Bp r g (f n)
 | .str::r,g,f=>fun n=>Bp r g (f n)
 | .flt _::r,g,f=>fun n=>Bp r g (f n)
 | .cpx _::r,g,f=>fun n m=>Bp r g (f n m)
 | .sl::r,g,f=>fun n=>Bp r g (f n)
theorem M2 (g:α->Option β):∀ (sh:List Sh) (ds:List DC) (f:Cur sh (Option α)),(shC sh ds f).bind g=shC sh ds (Bp sh g f):=by
 intro sh
 induction sh with
 | nil=>intro ds f;simp only [shC];split <;> rfl
 | cons s r ih=>
  intro ds f;cases s <;> simp only [shC] <;> split <;> first | exact ih _ _ | (split <;> first | exact ih _ _ | rfl) | rfl
theorem Cf (g:α->Option β):∀ (sh:List Sh) (k:List DC->Option α),Bp sh g (unc sh k)=unc sh fun cs=>(k cs).bind g:=by
 intro sh
 induction sh with
 | nil=>intro k;rfl
 | cons s r ih=>intro k;cases s <;> (simp only [Bp,unc,ih];rfl)
theorem Dz {a:α}:∀ {sh:List Sh} {ds:List DC} {k:List DC->Option α},shC sh ds (unc sh k)=some a->ds.length=sh.length/\k ds=some a:=by
 intro sh
 induction sh with
 | nil=>
  intro ds k h;simp only [shC] at h;split at h
  ·exact⟨rfl,h⟩
  ·cases h
 | cons s r ih=>
  intro ds k h;cases s <;> simp only [shC,unc] at h <;> split at h <;> first
   | (cases h;done)
   | (
     split at h
     ·rename_i he;subst he;have h12:=ih h;exact⟨by simp [h12.1],h12.2⟩
     ·cases h)
   | (have h12:=ih h;exact⟨by simp [h12.1],h12.2⟩)
def cK (b:Bool)(x y:Option α):Option α:=match b with | true=>x | false=>y
def gK (b:Bool)(x:Option α):Option α:=match b with | true=>x | false=>none
def dT (rows:List (List DC))(i:Int)(sh:List Sh)(f:Cur sh (Option α)):Option α:=
 match decide (0<=i) with
 | true=>match rows[i.toNat]? with
  | some r=>shC sh r f
  | none=>none
 | false=>none
def ixK (rows:List (List DC))(i:Int)(sz:Nat)(x:Option α):Option α:=
 match decide (0<=i/\i < rows.length/\(cu rows i.toNat).length=sz) with
 | true=>x
 | false=>none
def ldK (rows:List (List DC))(i off:Nat)(sh:List Sh)(f:Cur sh (Option α)):Option α:=
 match decide (i < rows.length) with
 | true=>shC sh (((cu rows i).drop off).take sh.length) f
 | false=>none
def stK (rows:List (List DC))(i off sz:Nat)(x:Option α):Option α:=
 match decide (i < rows.length/\off+sz<=(cu rows i).length) with
 | true=>x
 | false=>none
def E7:Nat->Int->(Nat->Option α)->Option α
 | 0,_,_=>none
 | n+1,z,f=>cK (z == (n:Int)) (f n) (E7 n z f)
def nH (s:ByteArray)(i:Int)(f:UInt8->Option α):Option α:=
 match (if 0<=i then s[i.toNat]? else none) with
 | some b=>f b
 | none=>none
def flK (o:Option Nat)(f:Nat->Option α):Option α:=match o with | some r=>f r | none=>none
def ivK (o:Option Int)(f:Int->Option α):Option α:=match o with | some r=>f r | none=>none
theorem ko {g:α->Option β}{b:Bool}{x y:Option α}:(cK b x y).bind g=cK b (x.bind g) (y.bind g):=by cases b <;> rfl
theorem ft {g:α->Option β}{b:Bool}{x:Option α}:(gK b x).bind g=gK b (x.bind g):=by cases b <;> rfl
theorem aap {g:α->Option β}{rows:List (List DC)}{i:Int}{sh:List Sh}{f:Cur sh (Option α)}:(dT rows i sh f).bind g=dT rows i sh (Bp sh g f):=by
 unfold dT;split
 ·split
  ·exact M2 g _ _ _
  ·rfl
 ·rfl
theorem aex {g:α->Option β}{rows:List (List DC)}{i:Int}{sz:Nat}{x:Option α}:(ixK rows i sz x).bind g=ixK rows i sz (x.bind g):=by
 unfold ixK;split <;> rfl
theorem LF {g:α->Option β}{rows:List (List DC)}{i off:Nat}{sh:List Sh}{f:Cur sh (Option α)}:(ldK rows i off sh f).bind g=ldK rows i off sh (Bp sh g f):=by
 unfold ldK;split
 ·exact M2 g _ _ _
 ·rfl
theorem alJ {g:α->Option β}{rows:List (List DC)}{i off sz:Nat}{x:Option α}:(stK rows i off sz x).bind g=stK rows i off sz (x.bind g):=by
 unfold stK;split <;> rfl
theorem GP {g:α->Option β}{z:Int}{f:Nat->Option α}:∀ {n:Nat},(E7 n z f).bind g=E7 n z fun j=>(f j).bind g:=by
 intro n
 induction n with
 | zero=>rfl
 | succ n ih=>simp only [E7,ko,ih]
theorem aa3 {g:α->Option β}{s:ByteArray}{i:Int}{f:UInt8->Option α}:(nH s i f).bind g=nH s i fun b=>(f b).bind g:=by
 unfold nH;split <;> rfl
theorem jG {g:α->Option β}{o:Option Nat}{f:Nat->Option α}:(flK o f).bind g=flK o fun b=>(f b).bind g:=by cases o <;> rfl
theorem ah6 {g:α->Option β}{o:Option Int}{f:Int->Option α}:(ivK o f).bind g=ivK o fun b=>(f b).bind g:=by cases o <;> rfl
theorem eD {b:Bool}{x:Option α}{a:α}(h:gK b x=some a):b=true/\x=some a:=by cases b <;> first | exact⟨rfl,h⟩ | cases h
theorem aa9 {rows:List (List DC)}{i:Int}{sh:List Sh}{k:List DC->Option α}{a:α}(h:dT rows i sh (unc sh k)=some a) :
  0<=i/\∃ r,rows[i.toNat]?=some r/\r.length=sh.length/\k r=some a:=by
 unfold dT at h;split at h
 ·rename_i hd
  split at h
  ·rename_i r hr
   exact⟨by simpa using hd,r,hr,Dz h⟩
  ·cases h
 ·cases h
theorem Nk {rows:List (List DC)}{i:Int}{sz:Nat}{x:Option α}{a:α}(h:ixK rows i sz x=some a):(0<=i/\i < rows.length/\(cu rows i.toNat).length=sz)/\x=some a:=by
 unfold ixK at h;split at h
 ·rename_i hd;exact⟨by simpa using hd,h⟩
 ·cases h
theorem ajn {rows:List (List DC)}{i off sz:Nat}{x:Option α}{a:α}(h:stK rows i off sz x=some a):(i < rows.length/\off+sz<=(cu rows i).length)/\x=some a:=by
 unfold stK at h;split at h
 ·rename_i hd;exact⟨by simpa using hd,h⟩
 ·cases h
theorem Mg {rows:List (List DC)}{i off:Nat}{sh:List Sh}{k:List DC->Option α}{a:α}(h:ldK rows i off sh (unc sh k)=some a) :
  i < rows.length/\off+sh.length<=(cu rows i).length\/sh.length=0/\i < rows.length:=by
 unfold ldK at h;split at h
 ·rename_i hd
  have:=(Dz h).1;simp only [List.length_take,List.length_drop] at this;have hd:i < rows.length:=by simpa using hd
  omega
 ·cases h
theorem H4 {rows:List (List DC)}{i off:Nat}{sh:List Sh}{k:List DC->Option α}{a:α}(h:ldK rows i off sh (unc sh k)=some a):k (((cu rows i).drop off).take sh.length)=some a:=by
 unfold ldK at h;split at h
 ·exact (Dz h).2
 ·cases h
theorem qB {z:Int}{f:Nat->Option α}{a:α}:∀ {n:Nat},E7 n z f=some a->∃ j,j < n/\z=j/\f j=some a:=by
 intro n
 induction n with
 | zero=>intro h;cases h
 | succ n ih=>
  intro h;simp only [E7] at h;cases hb:(z == (n:Int)) with
  | true=>rw [hb] at h;exact⟨n,by omega,by simpa using hb,h⟩
  | false=>rw [hb] at h;obtain⟨j,h1,h2⟩:=ih h;exact⟨j,by omega,h2⟩
theorem ZW {s:ByteArray}{i:Int}{f:UInt8->Option α}{a:α}(h:nH s i f=some a):∃ b,(if 0<=i then s[i.toNat]? else none)=some b/\f b=some a:=by
 unfold nH at h;split at h
 ·rename_i b hb;exact⟨b,hb,h⟩
 ·cases h
theorem cJ {o:Option Nat}{f:Nat->Option α}{a:α}(h:flK o f=some a):∃ r,o=some r/\f r=some a:=by cases o <;> first | cases h | exact⟨_,rfl,h⟩
theorem akl {o:Option Int}{f:Int->Option α}{a:α}(h:ivK o f=some a):∃ r,o=some r/\f r=some a:=by cases o <;> first | cases h | exact⟨_,rfl,h⟩
def flN (o:Option Nat)(f:Nat->Option α)(z:Option α):Option α:=match o with | some r=>f r | none=>z
theorem ae5 {o:Option Nat}{f:Nat->Option α}{z:Option α}{g:α->Option β}:(flN o f z).bind g=flN o (fun r=>(f r).bind g) (z.bind g):=by cases o <;> rfl
def KU (op:BinOp)(a b:Value):Option (FloatKind × Nat × Nat):=match a,b with
 | .float k1 m,.float k2 n=>if k1=k2 then (match op with | .add | .sub | .mul | .quo=>some (k1,m,n) | _=>none) else none
 | _,_=>none
theorem xL {x:AV}{k:FloatKind}{n:Nat}(h:ff x=some (.float k n)):L2 x=some (k,some n):=by
 unfold ff at h;split at h
 ·rename_i c
  unfold g6 at h;split at h
  ·rename_i v;simp only [zaI] at h;subst h;rfl
  ·cases h
 ·simp at h
 ·cases h
theorem Kh {op:BinOp}{a b:Value}{k:FloatKind}{m n:Nat}(h:KU op a b=some (k,m,n)):a=.float k m/\b=.float k n/\(op=.add\/op=.sub\/op=.mul\/op=.quo):=by
 unfold KU at h;split at h
 ·split at h
  ·rename_i hk;subst hk
   split at h
   all_goals first
    | (simp only [zaI,zbI] at h;obtain⟨rfl,rfl,rfl⟩:=h;simp)
    | cases h
  ·cases h
 ·cases h
theorem LU {P:Program}{op:BinOp}{t:TypeId}{x y:Operand}{k:FloatKind}{m n:Nat}(ho:op=.add\/op=.sub\/op=.mul\/op=.quo):di P op t x y (.float k m) (.float k n)=(eT op k m n).map fun r=>.float k r:=by
 rcases ho with rfl | rfl | rfl | rfl
 ·cases h:k.format.add m n <;> simp [eT,h,di,eqGuard,binOp,Op.floatArith,aH,bind,Sem.bind,pure,choose]
 ·cases h:k.format.sub m n <;> simp [eT,h,di,eqGuard,binOp,Op.floatArith,aH,bind,Sem.bind,pure,choose]
 ·cases h:k.format.mul m n <;> simp [eT,h,di,eqGuard,binOp,Op.floatArith,aH,bind,Sem.bind,pure,choose]
 ·cases h:k.format.div m n <;> simp [eT,h,di,eqGuard,binOp,Op.floatArith,aH,bind,Sem.bind,pure,choose]
theorem PL {op:BinOp}{x y:AV}{k:FloatKind}{m n:Nat}(h1:ff x=some (.float k m))(h2:ff y=some (.float k n))(ho:op=.add\/op=.sub\/op=.mul\/op=.quo)(h:eT op k m n=none):mE op x y=some (.d (.nan k)):=by
 simp only [mE,xL h1,xL h2,if_true];rcases ho with rfl | rfl | rfl | rfl <;> simp only [arN,h]
structure aF where
 call:(α:Type)->Nat->List DV->(List RV->Option α)->Option α
 seq:Nat->List DC->Option (List (List Value))
 io:Nat->List Nat
def aF.env (E:aF):Env:=⟨fun f ds=>E.call _ f ds some,E.seq,E.io⟩
def aF.Nat' (E:aF):Prop:=∀ (α β:Type) (f:Nat) (ds:List DV) (k:List RV->Option α) (g:α->Option β),(E.call α f ds k).bind g=E.call β f ds fun r=>(k r).bind g
def mL (op:BinOp)(k:FloatKind)(x y:Nat):Option Nat:=
 match op with
 | .add=>k.format.add x y
 | .sub=>k.format.sub x y
 | .mul=>k.format.mul x y
 | .quo=>k.format.div x y
 | _=>none
def dvK (o:Option Value)(k:Value->Option α):Option α:=match o with | some v=>k v | none=>none
def eqK (o:Option Bool)(f:Bool->Option α):Option α:=match o with | some e=>f e | none=>none
def aad (P:Program)(op:BinOp)(t:TypeId)(x y:Operand)(a b:Value)(k:Value->Option α):Option α:=
 match a,b with
 | .int k1 m,.int k2 n=>match op with
  | .quo=>if k1=k2 then gK (n != 0) (k (.int k1 (k1.wrap (m.tdiv n)))) else none
  | .rem=>if k1=k2 then gK (n != 0) (k (.int k1 (m.tmod n))) else none
  | .shl=>gK (decide (0<=n)) (k (.int k1 (k1.wrap (m*2 ^ (min n.toNat k1.bits)))))
  | .shr=>gK (decide (0<=n)) (k (.int k1 (m.fdiv (2 ^ (min n.toNat k1.bits)))))
  | _=>dvK (di P op t x y a b) k
 | .float k1 m,.float k2 n=>match op with
  | .add | .sub | .mul | .quo=>if k1=k2 then flK (mL op k1 m n) fun r=>k (.float k1 r) else none
  | _=>dvK (di P op t x y a b) k
 | .complex k1 p q,.complex k2 r s=>match op with
  | .add | .sub=>if k1=k2 then flK (mL op k1 p r) fun c=>flK (mL op k1 q s) fun d=>k (.complex k1 c d) else none
  | .mul=>if k1=.f64/\k2=.f64 then flK (FloatKind.f64.format.mul p r) fun c1=>flK (FloatKind.f64.format.mul q s) fun c2=>flK (FloatKind.f64.format.sub c1 c2) fun c=>
    flK (FloatKind.f64.format.mul p s) fun d1=>flK (FloatKind.f64.format.mul q r) fun d2=>flK (FloatKind.f64.format.add d1 d2) fun d=>k (.complex .f64 c d) else none
  | _=>dvK (di P op t x y a b) k
 | .string s,.string u=>match op with
  | .add=>gK (!decide (IntKind.i64.max < ((s.size+u.size:Nat):Int))) (k (.string (s++u)))
  | _=>dvK (di P op t x y a b) k
 | .agg xs,.agg ys=>match op with
  | .eql=>if P.eqGuardType P.depth t then none else eqK (zC P Op.maxDepth t (.agg xs) (.agg ys)) fun e=>k (.bool e)
  | .neq=>if P.eqGuardType P.depth t then none else eqK (zC P Op.maxDepth t (.agg xs) (.agg ys)) fun e=>k (.bool !e)
  | _=>dvK (di P op t x y a b) k
 | _,_=>dvK (di P op t x y a b) k
theorem M9 {o:Option Bool}{f:Bool->Option α}{a:α}(h:eqK o f=some a):∃ e,o=some e/\f e=some a:=by cases o <;> first | cases h | exact⟨_,rfl,h⟩
theorem Ni {o:Option Bool}{f:Bool->Option α}{g:α->Option β}:(eqK o f).bind g=eqK o fun e=>(f e).bind g:=by cases o <;> rfl
theorem Od {P:Program}{t:TypeId}{x y:Operand}{xs ys:Array Value}{e:Bool}(hg:¬ P.eqGuardType P.depth t=true)(he:zC P Op.maxDepth t (.agg xs) (.agg ys)=some e) :
  di P .eql t x y (.agg xs) (.agg ys)=some (.bool e)/\di P .neq t x y (.agg xs) (.agg ys)=some (.bool !e):=by
 have h:=KJ _ he;have hg':P.eqGuardType P.depth t=false:=by simpa using hg
 constructor
 ·simp only [di,eqGuard,bind,pure]
  rw [aG (y:=())]
  ·simp only [binOp,Op.equal,bind,pure]
   rw [aG h];rfl
  ·show aH P (Sem.bind program _)=_
   rw [eh];show aH P (Sem.bind program _)=_;rw [eh];simp only [hg'];rfl
 ·simp only [di,eqGuard,bind,pure]
  rw [aG (y:=())]
  ·simp only [binOp,Op.equal,bind,pure]
   rw [aG h];rfl
  ·show aH P (Sem.bind program _)=_
   rw [eh];show aH P (Sem.bind program _)=_;rw [eh];simp only [hg'];rfl
theorem ji {o:Option Value}{k:Value->Option α}{a:α}(h:dvK o k=some a):∃ v,o=some v/\k v=some a:=by
 cases o with
 | none=>cases h
 | some v=>exact⟨v,rfl,h⟩
theorem lC {o:Option Value}{k:Value->Option α}{g:α->Option β}:(dvK o k).bind g=dvK o fun v=>(k v).bind g:=by cases o <;> rfl
theorem abd {P:Program}{op:BinOp}{t:TypeId}{x y:Operand}{a b:Value}{k:Value->Option α}{r:α}(h:aad P op t x y a b k=some r):∃ v,di P op t x y a b=some v/\k v=some r:=by
 unfold aad at h;split at h
 ·rename_i k1 m k2 n
  split at h
  ·split at h
   ·rename_i hk;subst hk
    obtain⟨h1,h2⟩:=eD h;exact⟨_,ajS (by simpa using h1),h2⟩
   ·cases h
  ·split at h
   ·rename_i hk;subst hk
    obtain⟨h1,h2⟩:=eD h;exact⟨_,adb (by simpa using h1),h2⟩
   ·cases h
  ·obtain⟨h1,h2⟩:=eD h
   have h1:¬ n < 0:=by
    have:0<=n:=by simpa using h1
    omega
   exact⟨_,by simp [di,eqGuard,binOp,Op.shift,aH,bind,Sem.bind,pure,h1],h2⟩
  ·obtain⟨h1,h2⟩:=eD h
   have h1:¬ n < 0:=by
    have:0<=n:=by simpa using h1
    omega
   exact⟨_,by simp [di,eqGuard,binOp,Op.shift,aH,bind,Sem.bind,pure,h1],h2⟩
  ·exact ji h
 ·rename_i k1 m k2 n
  split at h
  ·split at h
   ·rename_i hk;subst hk
    obtain⟨r',h1,h2⟩:=cJ h;simp only [mL] at h1;exact⟨_,by simp [di,eqGuard,binOp,Op.floatArith,aH,bind,Sem.bind,pure,h1],h2⟩
   ·cases h
  ·split at h
   ·rename_i hk;subst hk
    obtain⟨r',h1,h2⟩:=cJ h;simp only [mL] at h1;exact⟨_,by simp [di,eqGuard,binOp,Op.floatArith,aH,bind,Sem.bind,pure,h1],h2⟩
   ·cases h
  ·split at h
   ·rename_i hk;subst hk
    obtain⟨r',h1,h2⟩:=cJ h;simp only [mL] at h1;exact⟨_,by simp [di,eqGuard,binOp,Op.floatArith,aH,bind,Sem.bind,pure,h1],h2⟩
   ·cases h
  ·split at h
   ·rename_i hk;subst hk
    obtain⟨r',h1,h2⟩:=cJ h;simp only [mL] at h1;exact⟨_,by simp [di,eqGuard,binOp,Op.floatArith,aH,bind,Sem.bind,pure,h1],h2⟩
   ·cases h
  ·exact ji h
 ·rename_i k1 p q k2 r' s
  split at h
  ·split at h
   ·rename_i hk;subst hk
    obtain⟨c,h1,h2⟩:=cJ h;obtain⟨d,h3,h4⟩:=cJ h2;simp only [mL] at h1 h3;exact⟨_,by simp [di,eqGuard,binOp,Op.complexOp,Op.Complex.arith,Op.floatArith,aH,bind,Sem.bind,pure,h1,h3],h4⟩
   ·cases h
  ·split at h
   ·rename_i hk;subst hk
    obtain⟨c,h1,h2⟩:=cJ h;obtain⟨d,h3,h4⟩:=cJ h2;simp only [mL] at h1 h3;exact⟨_,by simp [di,eqGuard,binOp,Op.complexOp,Op.Complex.arith,Op.floatArith,aH,bind,Sem.bind,pure,h1,h3],h4⟩
   ·cases h
  ·split at h
   ·rename_i hk
    obtain⟨rfl,rfl⟩:=hk;obtain⟨c1,h1,h⟩:=cJ h;obtain⟨c2,h2,h⟩:=cJ h;obtain⟨c,h3,h⟩:=cJ h;obtain⟨d1,h4,h⟩:=cJ h;obtain⟨d2,h5,h⟩:=cJ h;obtain⟨d,h6,h⟩:=cJ h;refine⟨_,?_,h⟩;simp [di,eqGuard,binOp,Op.complexOp,Op.Complex.product,Op.Complex.mul,Op.Complex.sub,Op.Complex.add,Op.Complex.conv,Op.Complex.arith,Op.floatArith,aH,bind,Sem.bind,pure,h1,h2,h3,h4,h5,h6]
   ·cases h
  ·exact ji h
 ·rename_i s u
  split at h
  ·obtain⟨h1,h2⟩:=eD h
   have h1:¬ IntKind.i64.max < ((s.size+u.size:Nat):Int):=by simpa using h1
   refine⟨_,?_,h2⟩;show aH P (if ((s.size+u.size:Nat):Int) > IntKind.i64.max then _ else _)=_;rw [if_neg (by exact h1)];rfl
  ·exact ji h
 ·rename_i xs ys
  split at h
  ·split at h
   ·cases h
   ·rename_i hg
    obtain⟨e,h1,h2⟩:=M9 h;exact⟨_,(Od hg h1).1,h2⟩
  ·split at h
   ·cases h
   ·rename_i hg
    obtain⟨e,h1,h2⟩:=M9 h;exact⟨_,(Od hg h1).2,h2⟩
  ·exact ji h
 ·exact ji h
theorem js {g:α->Option β}{c:Prop}[Decidable c]{x y:Option α}:(if c then x else y).bind g=if c then x.bind g else y.bind g:=by split <;> rfl
theorem ZG {P:Program}{op:BinOp}{t:TypeId}{x y:Operand}{a b:Value}{k:Value->Option α}{g:α->Option β}:(aad P op t x y a b k).bind g=aad P op t x y a b fun v=>(k v).bind g:=by
 unfold aad;split
 ·split <;> first | (rw [js,ft];rfl) | exact ft | exact lC
 ·split <;> first | (rw [js,jG];rfl) | exact lC
 ·split <;> first | (rw [js,jG];simp only [jG];rfl) | exact lC
 ·split <;> first | exact ft | exact lC
 ·split
  ·split
   ·rfl
   ·exact Ni
  ·split
   ·rfl
   ·exact Ni
  ·exact lC
 ·exact lC
variable {α β:Type}{P:Program}
def f2i (s:FloatKind)(b:Nat)(k:IntKind):Option Int:=match (s.decode b).toInt .zero with
 | some n=>if k.min<=n/\n<=k.max then some n else none
 | none=>none
def f2f (s:FloatKind)(b:Nat)(k:FloatKind):Option Nat:=if s=k then some b else match s.decode b with
 | .nan _ _=>none
 | .infinity sg=>some (k.encode (.infinity sg))
 | .number sg m e=>if (k.decode (k.encode (.number sg m e))).isInfinity then none else some (k.encode (.number sg m e))
def akh (s kk:FloatKind)(b:Nat):Bool:=if s=kk then false else bM s b
def oy (b:Nat):Nat:=FloatKind.f64.encode ((FloatKind.f64.decode b).integral .zero)
def xO (ρ:Operand->AV)(s:ByteArray)(lo hi:Option Operand)(k:Nat->Nat->Option α):Option α:=
 match bF ρ 0 lo,bF ρ s.size hi with
 | some l,some h=>gK (decide (0<=l/\l<=h/\h<=s.size)) (k l.toNat h.toNat)
 | _,_=>none
def gQ (P:Program)(E:Env)(T:Tab)(ρ:Operand->AV)(dst:Nat)(ao:AOp)(k:AV->List (Nat × aL)->Option α):Option α:=
 match eff P E T ρ dst ao with
 | some p=>k p.1 p.2
 | none=>none
def XO (b:Bool)(k:FloatKind)(x y:Nat):Option Nat:=
 match k.format.order x y with
 | none=>none
 | some .lt=>some (if b then y else x)
 | some .gt=>some (if b then x else y)
 | some .eq=>some (if (k.decode x).neg then (if b then y else x) else (if b then x else y))
def Fe (P:Program)(E:Env)(T:Tab)(ρ:Operand->AV)(dst:Nat)(o:Oper)(k:AV->List (Nat × aL)->Option α):Option α:=
 match o.op with
 | .index t x i=>match P.underlying t,dC ρ x,dC ρ i with
  | some .string,some (.string s),some (.int _ z)=>nH s z fun b=>k (.val false [.d (.v (.int .u8 b.toNat))]) []
  | _,_,_=>gQ P E T ρ dst (.pure o) k
 | .slice t x lo hi none=>match P.underlying t,dC ρ x with
  | some .string,some (.string s)=>xO (fun y=>match dC ρ y with | some v=>.val false [.d (.v v)] | none=>.val false [.unk]) s lo hi fun l h=>k (.val false [.d (.v (.string (s.extract l h)))]) []
  | _,_=>gQ P E T ρ dst (.pure o) k
 | .convert src d x=>match P.underlying src,P.underlying d,dC ρ x with
  | some _,some (.int kk),some (.float s b)=>ivK (f2i s b kk) fun n=>k (.val false [.d (.v (.int kk n))]) []
  | some _,some (.float kk),some (.float s b)=>cK (akh s kk b) (k (.val false [.d (.nan kk)]) []) (flK (f2f s b kk) fun n=>k (.val false [.d (.v (.float kk n))]) [])
  | _,_,_=>gQ P E T ρ dst (.pure o) k
 | .call c=>match c.callee,c.args.toList with
  | .value (.func f),[x]=>match P.funcs[f]?,dC ρ x with
   | some fn, some (.float .f64 b) => if fn.name = "math.archTrunc" ∧ fn.body.isNone = true ∧ (Extern.findNext fn).isNone = true then
     cK (bM .f64 b) (k (.val false [.d (.nan .f64)]) []) (k (.val false [.d (.v (.float .f64 (oy b)))]) []) else
     if fn.name = "math.sqrt" ∧ fn.body.isNone = true ∧ (Extern.findNext fn).isNone = true then
     flK (FloatKind.f64.format.sqrt b) fun n=>k (.val false [.d (.v (.float .f64 n))]) [] else gQ P E T ρ dst (.pure o) k
   | _,_=>gQ P E T ρ dst (.pure o) k
  | .builtin .max,[x,y]=>match dC ρ x,dC ρ y with
   | some (.float kk a),some (.float _ b)=>flK (XO true kk a b) fun n=>k (.val false [.d (.v (.float kk n))]) []
   | _,_=>gQ P E T ρ dst (.pure o) k
  | .builtin .min,[x,y]=>match dC ρ x,dC ρ y with
   | some (.float kk a),some (.float _ b)=>flK (XO false kk a b) fun n=>k (.val false [.d (.v (.float kk n))]) []
   | _,_=>gQ P E T ρ dst (.pure o) k
  | _,_=>gQ P E T ρ dst (.pure o) k
 | _=>gQ P E T ρ dst (.pure o) k
theorem cq {E:Env}{T:Tab}{ρ:Operand->AV}{dst:Nat}{ao:AOp}{k:AV->List (Nat × aL)->Option α}{a:α}(h:gQ P E T ρ dst ao k=some a):∃ y es,eff P E T ρ dst ao=some (y,es)/\k y es=some a:=by
 unfold gQ at h;split at h
 ·rename_i p hp;exact⟨p.1,p.2,hp,h⟩
 ·cases h
theorem cz {E:Env}{T:Tab}{ρ:Operand->AV}{dst:Nat}{ao:AOp}{k:AV->List (Nat × aL)->Option α}{g:α->Option β}:(gQ P E T ρ dst ao k).bind g=gQ P E T ρ dst ao fun y es=>(k y es).bind g:=by
 unfold gQ;split <;> rfl
theorem pD {ρ:Operand->AV}{x:Operand}{k:FloatKind}{n:Nat}(h:dC ρ x=some (.float k n)):L2 (ρ x)=some (k,some n):=by
 unfold dC at h;split at h
 ·cases h
 ·exact xL h
theorem TJ {b:Bool}{x y:Option α}{a:α}(h:cK b x y=some a):(b=true/\x=some a)\/(b=false/\y=some a):=by
 cases b with
 | true=>exact .inl ⟨rfl,h⟩
 | false=>exact .inr ⟨rfl,h⟩
theorem ZO {b : Nat} (h : bM .f64 b = false) : Extern.MathFloor.toIntegral "math.archTrunc" .zero #[.float .f64 b] = pure (.float .f64 (oy b)) := by
 show (match FloatKind.f64.decode b with
   | .nan s t=>
    if FloatKind.f64.format.quiet t=t then pure (.float .f64 b) else do
     let kept ← choose (.extern "math.Floor,Ceil,Trunc,RoundToEven.signallingNaN kept" 2)
     pure (.float .f64 (if kept == 1 then b else FloatKind.f64.encode (.nan s (FloatKind.f64.format.quiet t))))
   | d=>pure (.float .f64 (FloatKind.f64.encode (d.integral .zero))):Sem Value)=_
 unfold oy;cases hd:FloatKind.f64.decode b with
 | nan s t=>rw [dc.2 ⟨s,t,hd⟩] at h;cases h
 | number s m e=>rfl
 | infinity s=>rfl
theorem aal {fn : Func} (h : fn.name = "math.sqrt") : Extern.find fn = some Extern.MathSqrt.sqrt := by
 have e1 : Extern.allGenericRows.lookup "math.sqrt" = none := by kernel_rfl
 have e2 : Extern.allTypedRows.lookup "math.sqrt" = none := by kernel_rfl
 have e3 : Extern.allRows.lookup "math.sqrt" = some Extern.MathSqrt.sqrt := by kernel_rfl
 unfold Extern.find;simp only [h,e1,e2,e3];rfl
theorem aly {b n:Nat}(h:FloatKind.f64.format.sqrt b=some n):Extern.MathSqrt.sqrt #[.float .f64 b]=pure (.float .f64 n):=by
 show (match FloatKind.f64.format.sqrt b with
  | some r=>pure (.float .f64 r)
  | none=>do pure (.float .f64 (<- choose (.nanBits .f64 b b))):Sem Value)=_
 rw [h]
theorem ez {E:Env}{T:Tab}{ρ:Operand->AV}{dst:Nat}{o:Oper}{v:Value}(hn:dp P o.op ρ=none)(hall:(o.op.operands.toList.all fun x=>(dC ρ x).isSome)=true)(h:aH P (execOp (fun x=>(dC ρ x).getD undef) o)=some (.value v)) :
  eff P E T ρ dst (.pure o)=some (jp v,[]):=by
 simp only [eff,hn,hall,h]
theorem n8 {lo:Option Operand}{ρ:Operand->AV}{dflt:Int}{n m:Nat}{c:BoundsCode}{z:Int}(h:bF (fun y=>match dC ρ y with | some v=>.val false [.d (.v v)] | none=>.val false [.unk]) dflt lo=some z)(hz:0<=z/\z<=n)
  (hd:lo=none->m=z.toNat):aH P (match lo.map (fun x=>(dC ρ x).getD undef) with | some v=>Instr.sliceBound v n c | none=>pure m)=some z.toNat:=by
 cases lo with
 | none=>rw [<- hd rfl];rfl
 | some x=>
  simp only [bF] at h;cases hv:dC ρ x with
  | none=>simp [hv,nE] at h
  | some v=>
   simp only [hv] at h;cases v <;> simp [nE] at h;subst h;simp only [Option.map,hv,Option.getD,Instr.sliceBound,asIntOf,bind,Sem.bind,pure,aH];rw [if_pos hz];rfl
theorem OW {E:Env}{T:Tab}{ρ:Operand->AV}{dst:Nat}{o:Oper}{k:AV->List (Nat × aL)->Option α}{a:α}(h:Fe P E T ρ dst o k=some a):∃ y es,eff P E T ρ dst (.pure o)=some (y,es)/\k y es=some a:=by
 unfold Fe at h;split at h
 ·rename_i t x i ho
  split at h
  ·rename_i s kk z h1 h2 h3
   obtain⟨b,hb,hk⟩:=ZW h;refine⟨_,_,ez (v:=.int .u8 b.toNat) (by simp only [dp,ho]) ?_ ?_,hk⟩
   ·simp [ho,Op.operands,h2,h3]
   ·simp only [execOp,ho,h2,h3,Option.getD,bind,Sem.bind,pure,Instr.index,asIntOf]
    rw [aG (y:=(Value.int .u8 b.toNat))]
    ·rfl
    ·rw [aG (aY h1)]
     simp only [hb];rfl
  ·exact cq h
 ·rename_i t x lo hi ho
  split at h
  ·rename_i s h1 h2
   unfold xO at h;split at h
   ·rename_i l hh hl hhi
    obtain⟨h3,hk⟩:=eD h;have h3:=of_decide_eq_true h3;have hall:∀ (y:Option Operand) (d z:Int),bF (fun y=>match dC ρ y with | some v=>.val false [.d (.v v)] | none=>.val false [.unk]) d y=some z->∀ x ∈ y,(dC ρ x).isSome=true:=by
     intro y d z hb x hx;cases y with
     | none=>cases hx
     | some y=>
      simp only [Option.mem_def,zaI] at hx;subst hx;simp only [bF] at hb;cases hv:dC ρ y with
      | none=>simp [hv,nE] at hb
      | some v=>rfl
    refine⟨_,_,ez (v:=.string (s.extract l.toNat hh.toNat)) (by simp only [dp,ho]) ?_ ?_,hk⟩
    ·have e1:=hall lo _ _ hl
     have e2:=hall hi _ _ hhi;cases lo <;> cases hi <;> simp_all [ho,Op.operands]
    ·have hb1:aH P (match (hi.map fun x=>(dC ρ x).getD undef),(none:Option Value) with
       | some v,some _=>Instr.sliceBound v s.size .slice3B
       | some v,none=>Instr.sliceBound v s.size .sliceAlen
       | none,none=>pure s.size
       | none, some _ => stuck "Slice: max without high") = some hh.toNat := by
      have:=n8 (n:=s.size) (m:=s.size) (c:=.sliceAlen) (P:=P) hhi ⟨by omega,h3.2.2⟩ (by rintro rfl;simp only [bF,zaI] at hhi;omega);cases hi <;> exact this
     have hb2:aH P (match (lo.map fun x=>(dC ρ x).getD undef) with | some v=>Instr.sliceBound v hh.toNat .sliceB | none=>pure 0)=some l.toNat:=
      n8 hl ⟨h3.1,by omega⟩ (by rintro rfl;simp only [bF,zaI] at hl;omega)
     have hsb:aH P (Instr.sliceBounds false s.size s.size (lo.map fun x=>(dC ρ x).getD undef) (hi.map fun x=>(dC ρ x).getD undef) none)=some (l.toNat,hh.toNat,s.size):=by
      unfold Instr.sliceBounds;simp only [bind,pure];cases hi <;> cases lo <;> simp only [Option.map,pure,Option.isSome_none,Bool.false_eq_true,if_false] at hb1 hb2 ⊢ <;> rw [aG (y:=s.size) rfl,aG hb1,aG hb2] <;> rfl
     simp only [execOp,ho,h2,Option.getD,bind,pure,Instr.sliceAt,Option.map_none];rw [aG (y:=Value.string (s.extract l.toNat hh.toNat))]
     ·rfl
     ·rw [aG (aY h1)]
      simp only [Instr.slice,bind,pure];rw [aG (aY h1)];simp only [Option.isSome_none,Bool.false_eq_true,if_false];simp only [Option.getD] at hsb;rw [aG hsb];rfl
   ·cases h
  ·exact cq h
 ·rename_i src d x ho
  split at h
  ·rename_i u kk s b h1 h2 h3
   obtain⟨n,hb,hk⟩:=akl h;refine⟨_,_,ez (v:=.int kk n) (by simp only [dp,ho,h1,h2]) ?_ ?_,hk⟩
   ·simp [ho,Op.operands,h3]
   ·simp only [execOp,ho,h3,Option.getD,bind,Sem.bind,pure,convert]
    rw [aG (y:=(Value.int kk n))]
    ·rfl
    ·rw [aG (aY h1),aG (aY h2)]
     unfold f2i at hb;simp only [Conv.floatToInt];split at hb
     ·rename_i m hm
      split at hb
      ·rename_i hr
       simp only [zaI] at hb;subst hb;simp only [hm,if_pos hr];rfl
      ·cases hb
     ·cases hb
  ·rename_i u kk s b h1 h2 h3
   rcases TJ h with ⟨hc,h⟩ | ⟨hc,h⟩
   ·refine⟨_,_,?_,h⟩
    unfold akh at hc;split at hc
    ·cases hc
    ·rename_i hs
     simp only [eff,dp,ho,h1,h2,pD h3,if_neg hs,if_pos hc]
   obtain⟨n,hb,hk⟩:=cJ h;refine⟨_,_,ez (v:=.float kk n) (by
    unfold akh at hc;simp only [dp,ho,h1,h2,pD h3];split
    ·rfl
    ·rename_i hs
     rw [if_neg hs] at hc;rw [if_neg (by rw [hc];exact Bool.false_ne_true)]) ?_ ?_,hk⟩
   ·simp [ho,Op.operands,h3]
   ·simp only [execOp,ho,h3,Option.getD,bind,Sem.bind,pure,convert]
    rw [aG (y:=(Value.float kk n))]
    ·rfl
    ·rw [aG (aY h1),aG (aY h2)]
     unfold f2f at hb;simp only [Conv.floatToFloat];split at hb
     ·rename_i hs
      simp only [zaI] at hb;subst hb;rw [if_pos hs];rfl
     ·rename_i hs
      rw [if_neg hs];split at hb
      ·cases hb
      ·rename_i sg hd
       simp only [zaI] at hb;subst hb;rw [hd];rfl
      ·rename_i sg m e hd
       split at hb
       ·cases hb
       ·rename_i hi
        simp only [zaI] at hb;subst hb;rw [hd];simp only [hi];rfl
  ·exact cq h
 ·rename_i c ho
  split at h
  ·rename_i f x hc ha
   split at h
   ·rename_i fn b hf h3
    split at h
    ·rename_i hcond
     obtain⟨hn,hb,hx⟩:=hcond;have ha':c.args=#[x]:=by rw [<- Array.toArray_toList (xs:=c.args),ha]
     rcases TJ h with ⟨hc2,h⟩ | ⟨hc2,h⟩
     ·refine⟨_,_,?_,h⟩
      simp only [eff,dp,ho,hc,ha,hf,pD h3,hn,hb,hx,and_self,if_true,if_pos hc2]
     ·refine⟨_,_,ez (v:=.float .f64 (oy b)) (by
       simp only [dp,ho,hc,ha,hf,pD h3,hn,hb,hx,and_self,if_true];rw [if_neg (by rw [hc2];exact Bool.false_ne_true)]) ?_ ?_,h⟩
      ·have hv:dC ρ (.func f)=some (.func (.func f) #[] #[]):=rfl
       simp [ho,Op.operands,Call.operands,hc,ha',h3,hv]
      ·have hx':Extern.findNext fn=none:=by cases hq:Extern.findNext fn <;> simp_all
       have hb':fn.body=none:=by cases hq:fn.body <;> simp_all
       have hr : ¬ fn.name = "runtime.NumGoroutine" := by rw [hn]; decide
       have hv:dC ρ (.func f)=some (.func (.func f) #[] #[]):=rfl;simp [execOp,ho,resolve,hc,hv,h3,Deferred.ofValue,invoke,ha',callFunc,program,hf,hr,hb',hx',EB hn,ZO hc2,aH,bind,Sem.bind,pure,mark]
    ·rename_i hno
     split at h
     ·rename_i hcond
      obtain⟨hn,hb,hx⟩:=hcond;have ha':c.args=#[x]:=by rw [<- Array.toArray_toList (xs:=c.args),ha]
      obtain⟨n,hq,hk⟩:=cJ h;refine⟨_,_,ez (v:=.float .f64 n) (by
       simp only [dp,ho,hc,ha,hf,pD h3];rw [if_neg hno]) ?_ ?_,hk⟩
      ·have hv:dC ρ (.func f)=some (.func (.func f) #[] #[]):=rfl
       simp [ho,Op.operands,Call.operands,hc,ha',h3,hv]
      ·have hx':Extern.findNext fn=none:=by cases hq:Extern.findNext fn <;> simp_all
       have hb':fn.body=none:=by cases hq:fn.body <;> simp_all
       have hr : ¬ fn.name = "runtime.NumGoroutine" := by rw [hn]; decide
       have hv:dC ρ (.func f)=some (.func (.func f) #[] #[]):=rfl;simp [execOp,ho,resolve,hc,hv,h3,Deferred.ofValue,invoke,ha',callFunc,program,hf,hr,hb',hx',aal hn,aly hq,aH,bind,Sem.bind,pure,mark]
     ·exact cq h
   ·exact cq h
  ·rename_i x y hc ha
   split at h
   ·rename_i kk a kk' b h1 h2
    obtain⟨n,hq,hk⟩:=cJ h;have ha':c.args=#[x,y]:=by rw [<- Array.toArray_toList (xs:=c.args),ha]
    refine⟨_,_,ez (v:=.float kk n) (by simp only [dp,ho,hc]) ?_ ?_,hk⟩
    ·simp [ho,Op.operands,Call.operands,hc,ha',h1,h2]
    ·have hm:aH P (Builtin.max2 (.float kk a) (.float kk' b))=some (.float kk n):=by
      unfold XO at hq;simp only [Builtin.max2];cases hoo:kk.format.order a b with
      | none=>rw [hoo] at hq;cases hq
      | some cc=>
       rw [hoo] at hq;cases cc <;> (simp only [zaI,Bool.false_eq_true,if_false,if_true] at hq;subst hq;rfl)
     simp [execOp,ho,resolve,hc,h1,h2,Deferred.ofValue,invoke,ha',builtin,Builtin.max_,bind,Sem.bind,pure];rw [aG (y:=Value.float kk n)]
     ·rfl
     ·rw [aG hm];rfl
   ·exact cq h
  ·rename_i x y hc ha
   split at h
   ·rename_i kk a kk' b h1 h2
    obtain⟨n,hq,hk⟩:=cJ h;have ha':c.args=#[x,y]:=by rw [<- Array.toArray_toList (xs:=c.args),ha]
    refine⟨_,_,ez (v:=.float kk n) (by simp only [dp,ho,hc]) ?_ ?_,hk⟩
    ·simp [ho,Op.operands,Call.operands,hc,ha',h1,h2]
    ·have hm:aH P (Builtin.min2 (.float kk a) (.float kk' b))=some (.float kk n):=by
      unfold XO at hq;simp only [Builtin.min2];cases hoo:kk.format.order a b with
      | none=>rw [hoo] at hq;cases hq
      | some cc=>
       rw [hoo] at hq;cases cc <;> (simp only [zaI,Bool.false_eq_true,if_false,if_true] at hq;subst hq;rfl)
     simp [execOp,ho,resolve,hc,h1,h2,Deferred.ofValue,invoke,ha',builtin,Builtin.min_,bind,Sem.bind,pure];rw [aG (y:=Value.float kk n)]
     ·rfl
     ·rw [aG hm];rfl
   ·exact cq h
  ·exact cq h
 ·exact cq h
theorem PD {E:Env}{T:Tab}{ρ:Operand->AV}{dst:Nat}{o:Oper}{k:AV->List (Nat × aL)->Option α}{g:α->Option β}:(Fe P E T ρ dst o k).bind g=Fe P E T ρ dst o fun y es=>(k y es).bind g:=by
 unfold Fe;split
 ·split
  ·exact aa3
  ·exact cz
 ·split
  ·unfold xO;split
   ·exact ft
   ·rfl
  ·exact cz
 ·split
  ·exact ah6
  ·rw [ko,jG]
  ·exact cz
 ·split
  ·split
   ·split
    ·exact ko
    ·split
     ·exact jG
     ·exact cz
   ·exact cz
  ·split
   ·exact jG
   ·exact cz
  ·split
   ·exact jG
   ·exact cz
  ·exact cz
 ·exact cz
def jS:RC->Bool
 | .d x=>im x
 | .own _ _=>false
 | .obj cs _=>cs.any im
def zn:List RC->List (List (List DC))
 | []=>[]
 | .d _::r=>zn r
 | .own _ rows::r=>rows::zn r
 | .obj _ _::r=>zn r
def L4:List RV->List (List (List DC))
 | []=>[]
 | x::r=>zn x.2++L4 r
def Cv (l:List (List (List DC)))(x:Option α):Option α:=match l with
 | []=>x
 | rows::r=>match jR rows && r.all jR with
  | true=>x
  | false=>none
def za (dst:Nat)(T:Tab)(frz:List (Nat × aL))(res:List RV)(k:AV->List (Nat × aL)->Option α):Option α:=
 let es:=(bc dst 0 res).2
 match bS (aputs T frz) es with
 | true=>k (zy (bc dst 0 res).1) (frz++es)
 | false=>none
def iq (dst:Nat)(T:Tab)(names:List Nat)(res:List RV)(k:AV->List (Nat × aL)->Option α):Option α:=
 match names with
 | []=>za dst T [] res k
 | _::_=>match res.any fun r=>r.2.any jS with
  | true=>za dst T (aS T names) res k
  | false=>Cv (L4 res) (za dst T [] res k)
theorem se {dst:Nat}{T:Tab}{frz:List (Nat × aL)}{res:List RV}{k:AV->List (Nat × aL)->Option α}{a:α}(h:za dst T frz res k=some a) :
  bS (aputs T frz) (bc dst 0 res).2=true/\k (zy (bc dst 0 res).1) (frz++(bc dst 0 res).2)=some a:=by
 unfold za at h;simp only at h;split at h
 ·rename_i hf;exact⟨hf,h⟩
 ·cases h
theorem Ej {l:List (List (List DC))}{x:Option α}{a:α}(h:Cv l x=some a):l.all jR=true/\x=some a:=by
 unfold Cv at h;split at h
 ·exact⟨rfl,h⟩
 ·split at h
  ·rename_i hf;exact⟨by simpa using hf,h⟩
  ·cases h
theorem ku:∀ (cs:List RC),cs.any jS=false->(zn cs).all jR=true->cs.any dz=false
 | [],_,_=>rfl
 | .d x::r,h1,h2=>by
  simp only [List.any_cons,jS,Bool.or_eq_false_iff] at h1;simp only [List.any_cons,dz,h1.1,Bool.false_or];exact ku r h1.2 (by simpa [zn] using h2)
 | .own s rows::r,h1,h2=>by
  simp only [List.any_cons,jS,Bool.false_or] at h1;simp only [zn,List.all_cons,Bool.and_eq_true] at h2;simp only [List.any_cons,dz,h2.1,Bool.not_true,Bool.false_or];exact ku r h1 h2.2
 | .obj cs off::r,h1,h2=>by
  simp only [List.any_cons,jS,Bool.or_eq_false_iff] at h1;simp only [List.any_cons,dz,h1.1,Bool.false_or];exact ku r h1.2 (by simpa [zn] using h2)
theorem nk:∀ (res:List RV),(res.any fun r=>r.2.any jS)=false->(L4 res).all jR=true->(res.any fun r=>r.2.any dz)=false
 | [],_,_=>rfl
 | x::r,h1,h2=>by
  simp only [List.any_cons,Bool.or_eq_false_iff] at h1 ⊢;simp only [L4,List.all_append,Bool.and_eq_true] at h2;exact⟨ku _ h1.1 h2.1,nk r h1.2 h2.2⟩
theorem jr:∀ (cs:List RC),cs.any jS=true->cs.any dz=true
 | [],h=>by cases h
 | .d x::r,h=>by
  simp only [List.any_cons,jS,dz,Bool.or_eq_true] at h ⊢;exact h.imp id (jr r)
 | .own s rows::r,h=>by
  simp only [List.any_cons,jS,Bool.false_or] at h;simp only [List.any_cons,jr r h,Bool.or_true]
 | .obj cs off::r,h=>by
  simp only [List.any_cons,jS,dz,Bool.or_eq_true] at h ⊢;exact h.imp id (jr r)
theorem kN {dst:Nat}{T:Tab}{names:List Nat}{res:List RV}{k:AV->List (Nat × aL)->Option α}{a:α}(h:iq dst T names res k=some a):∃ y es,cH dst T names res=some (y,es)/\k y es=some a:=by
 unfold iq at h;split at h
 ·obtain⟨h1,h2⟩:=se h
  exact⟨_,_,by simp only [cH,List.isEmpty,if_true];rw [if_pos h1],h2⟩
 ·rename_i n ns
  split at h
  ·rename_i hv
   obtain⟨h1,h2⟩:=se h;have hv':(res.any fun r=>r.2.any dz)=true:=by
    obtain⟨x,hx,hh⟩:=List.any_eq_true.1 hv;exact List.any_eq_true.2 ⟨x,hx,jr _ hh⟩
   exact⟨_,_,by simp only [cH,List.isEmpty,hv',if_true,Bool.false_eq_true,if_false];rw [if_pos h1],h2⟩
  ·rename_i hv
   obtain⟨h3,h4⟩:=Ej h;obtain⟨h1,h2⟩:=se h4;have hv':=nk res hv h3;exact⟨_,_,by simp only [cH,List.isEmpty,hv',Bool.false_eq_true,if_false];rw [if_pos h1],h2⟩
theorem sf {dst:Nat}{T:Tab}{frz:List (Nat × aL)}{res:List RV}{k:AV->List (Nat × aL)->Option α}{g:α->Option β}:(za dst T frz res k).bind g=za dst T frz res fun y es=>(k y es).bind g:=by
 unfold za;simp only;split <;> rfl
theorem Ea {l:List (List (List DC))}{x:Option α}{g:α->Option β}:(Cv l x).bind g=Cv l (x.bind g):=by
 unfold Cv;split
 ·rfl
 ·split <;> rfl
theorem kH {dst:Nat}{T:Tab}{names:List Nat}{res:List RV}{k:AV->List (Nat × aL)->Option α}{g:α->Option β}:(iq dst T names res k).bind g=iq dst T names res fun y es=>(k y es).bind g:=by
 unfold iq;split
 ·exact sf
 ·split
  ·exact sf
  ·rw [Ea,sf]
def oU (dst:Nat)(T:Tab)(frz:List (Nat × aL))(ns is:List Nat)(res:List RV)(k:AV->List (Nat × aL)->Option α):Option α:=
 match abG T frz (bc dst 0 res).2 (bc dst 0 res).1 ns is with
 | some p=>k p.1 p.2
 | none=>none
def jf (dst:Nat)(T:Tab)(names ns is:List Nat)(res:List RV)(k:AV->List (Nat × aL)->Option α):Option α:=
 match names with
 | []=>oU dst T [] ns is res k
 | _::_=>match res.any fun r=>r.2.any jS with
  | true=>oU dst T (aS T names) ns is res k
  | false=>Cv (L4 res) (oU dst T [] ns is res k)
theorem nP {dst:Nat}{T:Tab}{frz:List (Nat × aL)}{ns is:List Nat}{res:List RV}{k:AV->List (Nat × aL)->Option α}{a:α}(h:oU dst T frz ns is res k=some a) :
  ∃ p,abG T frz (bc dst 0 res).2 (bc dst 0 res).1 ns is=some p/\k p.1 p.2=some a:=by
 unfold oU at h;split at h
 ·rename_i p hp;exact⟨p,hp,h⟩
 ·cases h
theorem Cz {dst:Nat}{T:Tab}{names ns is:List Nat}{res:List RV}{k:AV->List (Nat × aL)->Option α}{a:α}(h:jf dst T names ns is res k=some a):∃ y es,ek dst T names ns is res=some (y,es)/\k y es=some a:=by
 unfold jf at h;split at h
 ·obtain⟨p,h1,h2⟩:=nP h
  exact⟨p.1,p.2,by simp only [ek,List.isEmpty,if_true];exact h1,h2⟩
 ·rename_i n l
  split at h
  ·rename_i hv
   obtain⟨p,h1,h2⟩:=nP h;have hv':(res.any fun r=>r.2.any dz)=true:=by
    obtain⟨x,hx,hh⟩:=List.any_eq_true.1 hv;exact List.any_eq_true.2 ⟨x,hx,jr _ hh⟩
   exact⟨p.1,p.2,by simp only [ek,List.isEmpty,hv',if_true,Bool.false_eq_true,if_false];exact h1,h2⟩
  ·rename_i hv
   obtain⟨h3,h4⟩:=Ej h;obtain⟨p,h1,h2⟩:=nP h4;have hv':=nk res hv h3;exact⟨p.1,p.2,by simp only [ek,List.isEmpty,hv',Bool.false_eq_true,if_false];exact h1,h2⟩
theorem pj {dst:Nat}{T:Tab}{frz:List (Nat × aL)}{ns is:List Nat}{res:List RV}{k:AV->List (Nat × aL)->Option α}{g:α->Option β}:(oU dst T frz ns is res k).bind g=oU dst T frz ns is res fun y es=>(k y es).bind g:=by
 unfold oU;split <;> rfl
theorem Et {dst:Nat}{T:Tab}{names ns is:List Nat}{res:List RV}{k:AV->List (Nat × aL)->Option α}{g:α->Option β}:(jf dst T names ns is res k).bind g=jf dst T names ns is res fun y es=>(k y es).bind g:=by
 unfold jf;split
 ·exact pj
 ·split
  ·exact pj
  ·rw [Ea,pj]
def Pr (P:Program)(E:aF)(T:Tab)(ρ:Operand->AV)(dst:Nat)(sh:List Sh)(ao:AOp)(k:AV->List (Nat × aL)->Option α):Option α:=
 match ao with
 | .pick c a b=>match ik (ρ c) with
  | some t=>cK t (k (ρ a) []) (k (ρ b) [])
  | none=>none
 | .iaddr sz none x i=>match nE (ρ i),de (ρ x) with
  | some z,some (.d (.sl rows))=>if sh.length=sz then dT rows z sh (unc sh fun cs=>k (.val false [.d (.cref cs 0)]) []) else none
  | some z,some (.ref n)=>match an T n with
   | some (.own _ rows) | some (.imm rows)=>ixK rows z sz (k (.val false [.eptr n z.toNat 0]) [])
   | _=>none
  | _,_=>none
 | .iaddr sz (some len) x i=>match nE (ρ i),de (ρ x) with
  | some z,some (.ptr n o)=>E7 len z fun j=>k (.val false [.ptr n (o+j*sz)]) []
  | some z,some (.eptr n m o)=>E7 len z fun j=>k (.val false [.eptr n m (o+j*sz)]) []
  | some z,some (.d (.cref cs o))=>E7 len z fun j=>k (.val false [.d (.cref cs (o+j*sz))]) []
  | _,_=>none
 | .load agg sz x=>match de (ρ x) with
  | some (.eptr n i off)=>match an T n with
   | some (.own _ rows) | some (.imm rows)=>if sh.length=sz/\0 < sz then ldK rows i off sh (unc sh fun cs=>match iC agg (cs.map .d) with | some y=>k y [] | none=>none) else none
   | _=>none
  | _=>gQ P E.env T ρ dst ao k
 | .store sz x y=>match hH (ρ y),de (ρ x) with
  | some ys,some (.eptr n i off)=>match cQ T ys with
   | some (ds,es)=>match an (aputs T es) n with
    | some (.own s rows)=>if ys.length=sz then stK rows i off sz (k (.val false [.und]) (es++[(n,.own s (rows.set i (splice (cu rows i) off ds)))])) else none
    | _=>none
   | none=>none
  | _,_=>gQ P E.env T ρ dst ao k
 | .index agg len sz x i=>match MU (ρ x),nE (ρ i) with
  | some cs,some z=>E7 len z fun j=>if j*sz+sz<=cs.length then match iC agg ((cs.drop (j*sz)).take sz) with | some y=>k y [] | none=>none else none
  | _,_=>none
 | .slice sz move x lo hi=>match de (ρ x) with
  | some (.d (.sl rows))=>match bF ρ 0 lo,bF ρ rows.length hi with
   | some l,some h=>gK (decide (0<=l/\l<=h/\h<=rows.length/\eS sz rows=true)) (k (.val false [.d (.sl ((rows.take h.toNat).drop l.toNat))]) [])
   | _,_=>none
  | some (.ref n)=>match an T n with
   | some (.own s rows)=>match bF ρ 0 lo,bF ρ rows.length hi with
    | some l,some h=>if s=sz then gK (decide (0<=l/\l<=h/\h<=rows.length))
      (match move with
      | true=>(if (an T dst).isNone then k (.val false [.ref dst]) [(n,.dead),(dst,.own s ((rows.take h.toNat).drop l.toNat))] else none)
      | false=>k (.val false [.d (.sl ((rows.take h.toNat).drop l.toNat))]) [(n,.imm rows)]) else none
    | _,_=>none
   | some (.imm rows)=>match bF ρ 0 lo,bF ρ rows.length hi with
    | some l,some h=>gK (decide (0<=l/\l<=h/\h<=rows.length/\eS sz rows=true)) (k (.val false [.d (.sl ((rows.take h.toNat).drop l.toNat))]) [])
    | _,_=>none
   | _=>none
  | _=>gQ P E.env T ρ dst ao k
 | .view sz x lo hi=>match de (ρ x) with
  | some (.ref n)=>match an T n with
   | some (.own s rows)=>match bF ρ 0 lo,bF ρ rows.length hi with
    | some l,some h=>if s=sz then gK (decide (0<=l/\l<=h/\h<=rows.length)) (cK (decide (l < h)) (k (.val false [.sub n l.toNat h.toNat]) []) (k (.val false [.d (.sl [])]) [])) else none
    | _,_=>none
   | _=>none
  | _=>none
 | .mkslice sz bytes zero len cap=>match nE (ρ len),nE (ρ cap) with
  | some l,some c=>if (an T dst).isNone then gK (decide (0<=l/\l<=c/\bytes*c<=140737488355328/\c<=9223372036854775807)) (k (.val false [.ref dst]) [(dst,.own sz (List.replicate l.toNat zero))]) else none
  | _,_=>none
 | .append sz bytes x y=>match jK T (ρ y) with
  | some rows2=>match de (ρ x) with
   | some .nils=>if (an T dst).isNone then gK (decide (eS sz rows2=true/\rows2.length*bytes<=140737488355328/\rows2.length<=9223372036854775807)) (k (.val false [.ref dst]) [(dst,.own sz rows2)]) else none
   | some (.ref n)=>match an T n with
    | some (.own s rows)=>if s=sz/\(an T dst).isNone then
      gK (decide (eS sz rows2=true/\(rows.length+rows2.length)*bytes<=140737488355328/\rows.length+rows2.length<=9223372036854775807)) (k (.val false [.ref dst]) [(n,.dead),(dst,.own sz (rows++rows2))]) else none
    | _=>none
   | _=>none
  | none=>none
 | .copy sz x y=>match jK T (ρ y),(de (ρ x)).bind (oF T) with
  | some rows2,some (n,lo,hi)=>match an T n with
   | some (.own s rows)=>if s=sz then gK (decide (eS sz rows2=true/\lo < hi/\hi<=rows.length))
     (k (.val false [.d (.v (.int .i64 (min rows2.length (hi - lo):Nat)))]) [(n,.own s (splice rows lo (rows2.take (hi - lo))))]) else none
   | _=>none
  | _,_=>none
 | .bytes x=>match ff (ρ x) with
  | some (.string s)=>if (an T dst).isNone then gK (decide (s.size<=9223372036854775807)) (k (.val false [.ref dst]) [(dst,.own 1 (s.data.toList.map fun b=>[.v (.int .u8 b.toNat)]))]) else none
  | _=>none
 | .call f args=>match E.io f with
  | []=>match fy T ρ args with
   | some ds=>E.call α f ds fun res=>iq dst T (args.flatMap fun x=>bA T (ρ x)) res k
   | none=>none
  | i::io=>match jH T ρ (i::io) 0 args with
   | some (ds,ns,is,ms)=>match ae9 (ns++is) ms with
    | true=>E.call α f ds fun res=>jf dst T ms ns is res k
    | false=>none
   | none=>none
 | .calld x args=>match de (ρ x),fy T ρ args with
  | some c,some ds=>match dt T 4 c with
   | some (.fn f caps)=>E.call α f (ds++caps.map fun d=>(false,[d])) fun res=>iq dst T (bq T 4 c++args.flatMap fun x=>bA T (ρ x)) res k
   | _=>none
  | _,_=>none
 | .inv m x args=>match de (ρ x),fy T ρ args with
  | some (.d (.ifc t b cs)),some ds=>match WQ P t m with
   | some f=>E.call α f ((b,cs)::ds) fun res=>iq dst T (args.flatMap fun x=>bA T (ρ x)) res k
   | none=>none
  | _,_=>none
 | .bin op t x y=>match ff (ρ x),ff (ρ y) with
  | some a,some b=>match KU op a b with
   | some p=>flN (eT op p.1 p.2.1 p.2.2) (fun r=>k (.val false [.d (.v (.float p.1 r))]) []) (k (.val false [.d (.nan p.1)]) [])
   | none=>aad P op t x y a b fun v=>k (jp v) []
  | _,_=>gQ P E.env T ρ dst ao k
 | .pure o=>Fe P E.env T ρ dst o k
 | ao=>gQ P E.env T ρ dst ao k
theorem pQ {o:Option AV}{k:AV->Option α}{a:α}(h:(match o with | some y=>k y | none=>none)=some a):∃ y,o=some y/\k y=some a:=by
 cases o with
 | none=>cases h
 | some p=>exact⟨p,rfl,h⟩
theorem aF.Nat'.split {E:aF}(hE:E.Nat'){f:Nat}{ds:List DV}{k:List RV->Option α}{a:α}(h:E.call α f ds k=some a):∃ res,E.env f ds=some res/\k res=some a:=by
 have:=hE _ _ f ds some k;simp only [Option.bind_some] at this;rw [show (fun r=>k r)=k from rfl] at this;rw [<- this] at h;obtain⟨res,h1,h2⟩:=Option.bind_eq_some_iff.1 h;exact⟨res,h1,h2⟩
theorem Fc {E:aF}(hE:E.Nat'){T:Tab}{ρ:Operand->AV}{dst:Nat}{sh:List Sh}{ao:AOp}{k:AV->List (Nat × aL)->Option α}{a:α}(h:Pr P E T ρ dst sh ao k=some a) :
  ∃ y es,eff P E.env T ρ dst ao=some (y,es)/\k y es=some a:=by
 unfold Pr at h;split at h
 ·rename_i c x y
  split at h
  ·rename_i t h1
   cases t with
   | true=>exact⟨_,_,by simp only [eff,h1];rfl,h⟩
   | false=>exact⟨_,_,by simp only [eff,h1];rfl,h⟩
  ·cases h
 ·rename_i sz x i
  split at h
  ·rename_i z rows h1 h2
   split at h
   ·rename_i hl
    obtain⟨h3,r,h4,h5,h6⟩:=aa9 h;have h7:z.toNat < rows.length:=(List.getElem?_eq_some_iff.1 h4).1;have h8:cu rows z.toNat=r:=by simp [cu,h4]
    refine⟨_,_,?_,h6⟩;simp only [eff,h1,h2,h8];rw [if_pos ⟨h3,by omega,by omega⟩]
   ·cases h
  ·rename_i z n h1 h2
   split at h
   ·rename_i s rows hT
    obtain⟨h3,h4⟩:=Nk h;exact⟨_,_,by simp only [eff,h1,h2,hT];rw [if_pos h3],h4⟩
   ·rename_i rows hT
    obtain⟨h3,h4⟩:=Nk h;exact⟨_,_,by simp only [eff,h1,h2,hT];rw [if_pos h3],h4⟩
   ·cases h
  ·cases h
 ·rename_i sz len x i
  split at h
  ·rename_i z n o h1 h2
   obtain⟨j,h3,h4,h5⟩:=qB h;subst h4;exact⟨_,_,by simp only [eff,h1,h2];rw [if_pos ⟨by omega,by omega⟩];rfl,h5⟩
  ·rename_i z n m o h1 h2
   obtain⟨j,h3,h4,h5⟩:=qB h;subst h4;exact⟨_,_,by simp only [eff,h1,h2];rw [if_pos ⟨by omega,by omega⟩];rfl,h5⟩
  ·rename_i z cs o h1 h2
   obtain⟨j,h3,h4,h5⟩:=qB h;subst h4;exact⟨_,_,by simp only [eff,h1,h2];rw [if_pos ⟨by omega,by omega⟩];rfl,h5⟩
  ·cases h
 ·rename_i agg sz x
  split at h
  ·rename_i n i off h1
   split at h
   ·rename_i s rows hT
    split at h
    ·rename_i hl
     have h2:=Mg h;obtain⟨y,h3,h4⟩:=pQ (H4 h);rw [hl.1] at h3 h2;refine⟨y,[],?_,h4⟩;simp only [eff,h1,hT];rw [if_pos (by omega),h3];rfl
    ·cases h
   ·rename_i rows hT
    split at h
    ·rename_i hl
     have h2:=Mg h;obtain⟨y,h3,h4⟩:=pQ (H4 h);rw [hl.1] at h3 h2;refine⟨y,[],?_,h4⟩;simp only [eff,h1,hT];rw [if_pos (by omega),h3];rfl
    ·cases h
   ·cases h
  ·exact cq h
 ·rename_i sz x y
  split at h
  ·rename_i ys n i off h1 h2
   split at h
   ·rename_i ds es h3
    split at h
    ·rename_i s rows hT
     split at h
     ·rename_i hl
      obtain⟨h4,h5⟩:=ajn h;exact⟨_,_,by simp only [eff,h1,h2,h3,hT];rw [if_pos ⟨hl,h4⟩],h5⟩
     ·cases h
    ·cases h
   ·cases h
  ·exact cq h
 ·rename_i agg len sz x i
  split at h
  ·rename_i cs z h1 h2
   obtain⟨j,h3,h4,h5⟩:=qB h;subst h4;split at h5
   ·rename_i hj
    obtain⟨y,h6,h7⟩:=pQ h5;refine⟨y,[],?_,h7⟩;simp only [eff,h1,h2];rw [if_pos ⟨by omega,by omega,hj⟩];show Option.map _ (iC agg (List.take sz (List.drop (j*sz) cs)))=_;rw [h6];rfl
   ·cases h5
  ·cases h
 ·rename_i sz move x lo hi
  split at h
  ·rename_i rows h1
   split at h
   ·rename_i l hh h2 h3
    obtain⟨h4,h5⟩:=eD h;exact⟨_,_,by simp only [eff,h1,h2,h3];rw [if_pos (by simpa using h4)],h5⟩
   ·cases h
  ·rename_i n h1
   split at h
   ·rename_i s rows hT
    split at h
    ·rename_i l hh h2 h3
     split at h
     ·rename_i hs
      obtain⟨h4,h5⟩:=eD h;have h4:=of_decide_eq_true h4;split at h5
      ·split at h5
       ·rename_i hd
        refine⟨_,_,?_,h5⟩;simp only [eff,h1,h2,h3,hT];rw [if_pos ⟨h4.1,h4.2.1,h4.2.2,hs⟩,if_pos trivial,if_pos hd]
       ·cases h5
      ·refine⟨_,_,?_,h5⟩
       simp only [eff,h1,h2,h3,hT];rw [if_pos ⟨h4.1,h4.2.1,h4.2.2,hs⟩];rfl
     ·cases h
    ·cases h
   ·rename_i rows hT
    split at h
    ·rename_i l hh h2 h3
     obtain⟨h4,h5⟩:=eD h;exact⟨_,_,by simp only [eff,h1,h2,h3,hT];rw [if_pos (by simpa using h4)],h5⟩
    ·cases h
   ·cases h
  ·exact cq h
 ·rename_i sz x lo hi
  split at h
  ·rename_i n h1
   split at h
   ·rename_i s rows hT
    split at h
    ·rename_i l hh h2 h3
     split at h
     ·rename_i hs
      obtain⟨h4,h5⟩:=eD h;have h4:=of_decide_eq_true h4;by_cases hlt:l < hh
      ·simp only [hlt,decide_true,cK] at h5
       refine⟨_,_,?_,h5⟩;simp only [eff,h1,h2,h3,hT];rw [if_pos ⟨h4.1,h4.2.1,h4.2.2,hs⟩,if_pos hlt]
      ·simp only [hlt,decide_false,cK] at h5
       refine⟨_,_,?_,h5⟩;simp only [eff,h1,h2,h3,hT];rw [if_pos ⟨h4.1,h4.2.1,h4.2.2,hs⟩,if_neg hlt]
     ·cases h
    ·cases h
   ·cases h
  ·cases h
 ·rename_i sz bytes zero len cap
  split at h
  ·rename_i l c h1 h2
   split at h
   ·rename_i hd
    obtain⟨h4,h5⟩:=eD h;have h4:=of_decide_eq_true h4;exact⟨_,_,by simp only [eff,h1,h2];rw [if_pos ⟨h4.1,h4.2.1,h4.2.2.1,h4.2.2.2,hd⟩],h5⟩
   ·cases h
  ·cases h
 ·rename_i sz bytes x y
  split at h
  ·rename_i rows2 h1
   split at h
   ·rename_i h2
    split at h
    ·rename_i hd
     obtain⟨h4,h5⟩:=eD h;have h4:=of_decide_eq_true h4;exact⟨_,_,by simp only [eff,h1,h2];rw [if_pos ⟨h4.1,h4.2.1,h4.2.2,hd⟩],h5⟩
    ·cases h
   ·rename_i n h2
    split at h
    ·rename_i s rows hT
     split at h
     ·rename_i hd
      obtain⟨h4,h5⟩:=eD h;have h4:=of_decide_eq_true h4;exact⟨_,_,by simp only [eff,h1,h2,hT];rw [if_pos ⟨hd.1,h4.1,h4.2.1,h4.2.2,hd.2⟩],h5⟩
     ·cases h
    ·cases h
   ·cases h
  ·cases h
 ·rename_i sz x y
  split at h
  ·rename_i rows2 n lo hi h1 h2
   split at h
   ·rename_i s rows hT
    split at h
    ·rename_i hs
     obtain⟨h4,h5⟩:=eD h;have h4:=of_decide_eq_true h4;exact⟨_,_,by simp only [eff,h1,h2,hT];rw [if_pos ⟨hs,h4⟩],h5⟩
    ·cases h
   ·cases h
  ·cases h
 ·rename_i x
  split at h
  ·rename_i s h1
   split at h
   ·rename_i hd
    obtain⟨h4,h5⟩:=eD h;exact⟨_,_,by simp only [eff,h1];rw [if_pos ⟨by simpa using h4,hd⟩],h5⟩
   ·cases h
  ·cases h
 ·rename_i f args
  split at h
  ·rename_i hio
   split at h
   ·rename_i ds h1
    obtain⟨res,h2,h3⟩:=hE.split h;obtain⟨y,es,h4,h5⟩:=kN h3;exact⟨y,es,by simp only [eff,aF.env,hio,h1];simp only [aF.env] at h2;simp only [h2,h4],h5⟩
   ·cases h
  ·rename_i i io hio
   split at h
   ·rename_i ds ns ms h1
    split at h
    ·rename_i hns
     obtain⟨res,h2,h3⟩:=hE.split h;obtain⟨y,es,h4,h5⟩:=Cz h3;exact⟨y,es,by simp only [eff,aF.env,hio,h1,hns];simp only [aF.env] at h2;simp only [h2,h4],h5⟩
    ·cases h
   ·cases h
 ·rename_i x args
  split at h
  ·rename_i c ds h1 h2
   split at h
   ·rename_i f caps h3
    obtain⟨res,h4,h5⟩:=hE.split h;obtain⟨y,es,h6,h7⟩:=kN h5;exact⟨y,es,by simp only [eff,h1,h2,h3,h4,h6],h7⟩
   ·cases h
  ·cases h
 ·rename_i m x args
  split at h
  ·rename_i t b cs ds h1 h2
   split at h
   ·rename_i f h3
    obtain⟨res,h4,h5⟩:=hE.split h;obtain⟨y,es,h6,h7⟩:=kN h5;exact⟨y,es,by simp only [eff,h1,h2,h3,h4,h6],h7⟩
   ·cases h
  ·cases h
 ·rename_i op t x y
  split at h
  ·rename_i u v h1 h2
   split at h
   ·rename_i p hp
    obtain⟨kk,m,n⟩:=p;obtain⟨rfl,rfl,ho⟩:=Kh hp;simp only at h;cases ha:eT op kk m n with
    | some r=>
     rw [ha] at h;refine⟨_,_,?_,h⟩;simp only [eff,h1,h2,LU ho,ha,Option.map_some];rfl
    | none=>
     rw [ha] at h;refine⟨_,_,?_,h⟩;simp only [eff,h1,h2,LU ho,ha,Option.map_none,PL h1 h2 ho ha,Option.map_some]
   ·obtain⟨r,h3,h4⟩:=abd h
    exact⟨_,_,by simp only [eff,h1,h2,h3],h4⟩
  ·exact cq h
 ·exact OW h
 ·exact cq h
theorem pT {o:Option AV}{k:AV->Option α}{g:α->Option β}:(match o with | some p=>k p | none=>none).bind g=match o with | some p=>(k p).bind g | none=>none:=by cases o <;> rfl
theorem Fv {E:aF}(hE:E.Nat'){T:Tab}{ρ:Operand->AV}{dst:Nat}{sh:List Sh}{ao:AOp}{k:AV->List (Nat × aL)->Option α}{g:α->Option β} :
  (Pr P E T ρ dst sh ao k).bind g=Pr P E T ρ dst sh ao fun y es=>(k y es).bind g:=by
 unfold Pr;split
 ·split
  ·exact ko
  ·rfl
 ·split
  ·split
   ·rw [aap,Cf]
   ·rfl
  ·split <;> first | exact aex | rfl
  ·rfl
 ·split <;> first | exact GP | rfl
 ·split
  ·split
   ·split
    ·rw [LF,Cf];congr 2;funext cs;exact pT
    ·rfl
   ·split
    ·rw [LF,Cf];congr 2;funext cs;exact pT
    ·rfl
   ·rfl
  ·exact cz
 ·split
  ·split
   ·split
    ·split
     ·exact alJ
     ·rfl
    ·rfl
   ·rfl
  ·exact cz
 ·split
  ·rw [GP];congr 1;funext j;split
   ·exact pT
   ·rfl
  ·rfl
 ·split
  ·split <;> first | exact ft | rfl
  ·split
   ·split
    ·split
     ·rw [ft];congr 1;split
      ·split <;> rfl
      ·rfl
     ·rfl
    ·rfl
   ·split <;> first | exact ft | rfl
   ·rfl
  ·exact cz
 ·split
  ·split
   ·split
    ·split
     ·rw [ft,ko]
     ·rfl
    ·rfl
   ·rfl
  ·rfl
 ·split
  ·split <;> first | exact ft | rfl
  ·rfl
 ·split
  ·split
   ·split <;> first | exact ft | rfl
   ·split
    ·split <;> first | exact ft | rfl
    ·rfl
   ·rfl
  ·rfl
 ·split
  ·split
   ·split <;> first | exact ft | rfl
   ·rfl
  ·rfl
 ·split
  ·split <;> first | exact ft | rfl
  ·rfl
 ·split
  ·split
   ·rw [hE];congr 1;funext res;exact kH
   ·rfl
  ·split
   ·split
    ·rw [hE];congr 1;funext res;exact Et
    ·rfl
   ·rfl
 ·split
  ·split
   ·rw [hE];congr 1;funext res;exact kH
   ·rfl
  ·rfl
 ·split
  ·split
   ·rw [hE];congr 1;funext res;exact kH
   ·rfl
  ·rfl
 ·split
  ·split
   ·exact ae5
   ·exact ZG
  ·exact cz
 ·exact PD
 ·exact cz
noncomputable def aE:Nat:=Classical.choose (⟨18446744073709551616,Nat.le_refl _⟩:∃ n:Nat,18446744073709551616<=n)
theorem bz:18446744073709551616<=aE:=Classical.choose_spec (⟨18446744073709551616,Nat.le_refl _⟩:∃ n:Nat,18446744073709551616<=n)
def ao2 (σ:St)(t:Nat)(b:Bool):St:=⟨aput σ.tmps t (.val false [.d (.v (.bool b))]),σ.tab,σ.sv⟩
def gsK (σ:St)(g:Option (Nat × Bool))(A B:St->Option α):Option α:=
 match g with
 | none=>A σ
 | some (t,b)=>match an σ.tmps t with
  | some (.val false [.d (.v (.bool x))])=>cK x ((match b with | true=>A | false=>B) (ao2 σ t true)) ((match b with | true=>B | false=>A) (ao2 σ t false))
  | some (.val false [.und])=>B σ
  | _=>none
def yW (P:Program)(E:aF)(sh:List (Nat × List Sh)):List bp->(St->Option α)->St->Option α
 | [],K,σ=>K σ
 | ao::l,K,σ=>gsK σ ao.guard
   (fun σ=>Pr P E σ.tab (evO σ.tmps) (ao.dst.getD 9999) ((an sh (ao.dst.getD 9999)).getD []) ao.op fun y es=>yW P E sh l K (bN σ ao.dst y es))
   (fun σ=>yW P E sh l K (bN σ ao.dst (.val false [.und]) []))
def zf (P:Program)(E:aF)(sh:List (Nat × List Sh)):List bp->(List dv->St->Option α)->List dv->St->Option α
 | [],K,acc,σ=>K acc.reverse σ
 | ao::l,K,acc,σ=>gsK σ ao.guard
   (fun σ=>Pr P E σ.tab (evO σ.tmps) (ao.dst.getD 9999) ((an sh (ao.dst.getD 9999)).getD []) ao.op fun y es=>zf P E sh l K (⟨ao.dst,y,es,lkA σ ao es⟩::acc) (bN σ ao.dst y es))
   (fun σ=>zf P E sh l K (⟨ao.dst,.val false [.und],[],lkA σ ao []⟩::acc) (bN σ ao.dst (.val false [.und]) []))
theorem Fs {β:Type}:∀ {l:List (Nat × β)} {n:Nat} {x:β},an l n=some x->aput l n x=l
 | [],n,x,h=>by cases h
 | (k,y)::r,n,x,h=>by
  simp only [an] at h;simp only [aput];split at h
  ·rename_i hk;simp only [zaI] at h;subst h;subst hk;rw [if_pos rfl]
  ·rename_i hk;rw [if_neg hk,Fs h]
theorem MP {σ:St}{g:Option (Nat × Bool)}{A B:St->Option α}{a:α}(h:gsK σ g A B=some a):(ew σ.tmps g=some true/\A σ=some a)\/(ew σ.tmps g=some false/\B σ=some a):=by
 unfold gsK at h;split at h
 ·exact .inl ⟨rfl,h⟩
 ·rename_i t b
  split at h
  ·rename_i x hx
   have hs:∀ b',x=b'->ao2 σ t b'=σ:=fun b' hb=>by subst hb;simp only [ao2,Fs hx]
   cases x with
   | true=>
    simp only [cK,hs true rfl] at h;cases b with
    | true=>exact .inl ⟨by simp [ew,hx],h⟩
    | false=>exact .inr ⟨by simp [ew,hx],h⟩
   | false=>
    simp only [cK,hs false rfl] at h;cases b with
    | true=>exact .inr ⟨by simp [ew,hx],h⟩
    | false=>exact .inl ⟨by simp [ew,hx],h⟩
  ·rename_i hx;exact .inr ⟨by simp [ew,hx],h⟩
  ·cases h
theorem Mz {σ:St}{g:Option (Nat × Bool)}{A B:St->Option α}{gg:α->Option β}:(gsK σ g A B).bind gg=gsK σ g (fun σ=>(A σ).bind gg) (fun σ=>(B σ).bind gg):=by
 unfold gsK;split
 ·rfl
 ·split
  ·rename_i t b _ x hx
   rw [ko];cases b <;> rfl
  ·rfl
  ·rfl
def mS (P:Program)(E:aF)(sh:List (Nat × List Sh))(ops:List bp)(prs:List (Nat × Nat))(K:St->Option α)(σ:St):Option α:=
 match prs with
 | []=>yW P E sh ops K σ
 | _::_=>zf P E sh ops (fun os σ'=>if prs.all (sc os) then K σ' else none) [] σ
def bI (K:St->Option α)(Q:Exit->St->Option α):Exit->St->Option α
 | .normal,σ=>K σ
 | .exit id,σ=>Q (.exit id) σ
 | .ret,σ=>Q .ret σ
 | _,_=>none
def xZ (id:Nat)(Q:Exit->St->Option α):Exit->St->Option α
 | .normal,σ=>Q .normal σ
 | .exit id',σ=>if id'=id then Q .normal σ else Q (.exit id') σ
 | .ret,σ=>Q .ret σ
 | _,_=>none
def br (td:Option bX)(σ:St)(K:St->Option α):Option α:=match iJ td σ with | some σ'=>K σ' | none=>none
def ir (f:(Exit->St->Option α)->St->Option α)(td:Option bX)(Q:Exit->St->Option α):Nat->St->Option α
 | 0,_=>none
 | k+1,σ=>br td σ (f (bI (ir f td Q k) Q))
def DI (td:Option bX)(K:St->Option α)(Q:Exit->St->Option α):Exit->St->Option α
 | .normal,σ=>br td ⟨σ.sv,σ.tab,[]⟩ K
 | .ret,σ=>Q .ret ⟨σ.sv,σ.tab,[]⟩
 | .exit id,σ=>Q (.exit id) ⟨σ.sv,σ.tab,[]⟩
 | _,_=>none
def dO (fa fb:(Exit->St->Option α)->St->Option α)(ps:List Nat)(td:Option bX)(Q:Exit->St->Option α):List (List Value)->St->Option α
 | [],σ=>Q .normal σ
 | x::xs,σ=>if x.length=ps.length then fa (bI (fb (DI td (dO fa fb ps td Q xs) Q)) (fun _ _=>none)) ⟨Bm ps x σ.tmps,σ.tab,σ.tmps⟩ else none
def CV (o:Option (List (List Value)))(K:List (List Value)->Option α):Option α:=match o with | some xs=>K xs | none=>none
def Ck (o:Option Bool)(x y:Option α):Option α:=match o with | some b=>cK b x y | none=>none
noncomputable def ej (P:Program)(E:aF)(sh:List (Nat × List Sh)):aq->(Exit->St->Option α)->St->Option α
 | .skip,K,σ=>K .normal σ
 | .ret,K,σ=>K .ret σ
 | .exit id,K,σ=>K (.exit id) σ
 | .region ops prs td,K,σ=>mS P E sh ops prs (fun σ'=>br td σ' (K .normal)) σ
 | .seq a b,K,σ=>ej P E sh a (bI (ej P E sh b K) K) σ
 | .cond c a b,K,σ=>Ck (ik (evO σ.tmps c)) (ej P E sh a K σ) (ej P E sh b K σ)
 | .block id b,K,σ=>ej P E sh b (xZ id K) σ
 | .loop td b,K,σ=>ir (ej P E sh b) td K aE σ
 | .rangeF g ps td a b,K,σ=>CV (GZ E.env (evO σ.tmps g) σ.sv) fun xs=>dO (ej P E sh a) (ej P E sh b) ps td K xs σ
variable {E:aF}{sh:List (Nat × List Sh)}
theorem rW (hE:E.Nat'){K:St->Option α}{a:α}:∀ (l:List bp) (σ:St),yW P E sh l K σ=some a->nG P E.env l (fun σ'=>K σ'=some a) σ
 | [],σ,h=>h
 | ao::l,σ,h=>by
  simp only [yW] at h;rcases MP h with ⟨hb,h⟩ | ⟨hb,h⟩
  ·obtain⟨y,es,h1,h2⟩:=Fc hE h
   simp only [nG,hb,df,h1,rS];exact⟨fun _=>rW hE l _ h2,nofun⟩
  ·simp only [nG,hb,df]
   exact⟨nofun,fun _=>rW hE l _ h⟩
theorem rZ (hE:E.Nat'){K:List dv->St->Option α}{a:α}:∀ (l:List bp) (acc:List dv) (σ:St),zf P E sh l K acc σ=some a->gU P E.env l (fun os σ'=>K os σ'=some a) acc σ
 | [],acc,σ,h=>h
 | ao::l,acc,σ,h=>by
  simp only [zf] at h;rcases MP h with ⟨hb,h⟩ | ⟨hb,h⟩
  ·obtain⟨y,es,h1,h2⟩:=Fc hE h
   simp only [gU,hb,df,h1,rS];exact⟨fun _=>rZ hE l _ _ h2,nofun⟩
  ·simp only [gU,hb,df]
   exact⟨nofun,fun _=>rZ hE l _ _ h⟩
theorem Eg {P:Program}{E:Env}:∀ (l:List bp) {K K':List dv->St->Prop} {acc:List dv} {σ:St},(∀ os σ,K os σ->K' os σ)->gU P E l K acc σ->gU P E l K' acc σ:=by
 intro l
 induction l with
 | nil=>intro K K' acc σ h hk;exact h _ σ hk
 | cons ao l ih=>
  intro K K' acc σ h hk;rcases dU hk with ⟨h1,h2⟩ | ⟨h1,h2⟩
  ·obtain⟨y,es,h3,h4⟩:=g8 h2
   simp only [gU,h1,h3,df,rS];exact⟨fun _=>ih h h4,nofun⟩
  ·simp only [gU,h1,df]
   exact⟨nofun,fun _=>ih h h2⟩
theorem abz {P:Program}{E:Env}:∀ (l:List bp) {K K':St->Prop} {σ:St},(∀ σ,K σ->K' σ)->nG P E l K σ->nG P E l K' σ:=by
 intro l
 induction l with
 | nil=>intro K K' σ h hk;exact h σ hk
 | cons ao l ih=>
  intro K K' σ h hk;rcases dU hk with ⟨h1,h2⟩ | ⟨h1,h2⟩
  ·obtain⟨y,es,h3,h4⟩:=g8 h2
   simp only [nG,h1,h3,df,rS];exact⟨fun _=>ih h h4,nofun⟩
  ·simp only [nG,h1,df]
   exact⟨nofun,fun _=>ih h h2⟩
theorem Bf {td:Option bX}{σ:St}{K:St->Option α}{a:α}(h:br td σ K=some a):j7 (iJ td σ) fun σ'=>K σ'=some a:=by
 unfold br at h;split at h
 ·rename_i σ' hs;rw [hs];exact h
 ·cases h
theorem Kp (hE:E.Nat'){ops:List bp}{prs:List (Nat × Nat)}{K:St->Option α}{σ:St}{a:α}(h:mS P E sh ops prs K σ=some a):kF P E.env ops prs (fun σ'=>K σ'=some a) σ:=by
 unfold mS at h;unfold kF;cases prs with
 | nil=>exact rW hE ops σ h
 | cons p r=>
  refine Eg ops (fun os σ' h=>?_) (rZ hE ops [] σ h);split at h
  ·rename_i hp;exact⟨hp,h⟩
  ·cases h
theorem sE {K:St->Option α}{Q:Exit->St->Option α}{a:α}{e:Exit}{σ:St}(h:bI K Q e σ=some a):GF (fun σ=>K σ=some a) (fun e σ=>Q e σ=some a) e σ:=by
 cases e <;> first | exact h | cases h
theorem abw (hE:E.Nat'):∀ (c:aq) {K:Exit->St->Option α} {σ:St} {a:α},ej P E sh c K σ=some a->wpA P E.env c (fun e σ'=>K e σ'=some a) σ:=by
 intro c
 induction c with
 | skip=>intro K σ a h;exact h
 | ret=>intro K σ a h;exact h
 | exit id=>intro K σ a h;exact h
 | region ops prs td=>
  intro K σ a h;have:=Kp hE h;simp only [wpA];unfold kF at this ⊢;cases prs with
  | nil=>exact abz ops (fun σ hs=>Bf hs) this
  | cons p r=>exact Eg ops (fun os σ hs=>⟨hs.1,Bf hs.2⟩) this
 | seq x y ihx ihy=>
  intro K σ a h;refine fF x (fun e σ hs=>?_) (ihx h);have:=sE hs;cases e with
  | normal=>exact ihy this
  | ret=>exact this
  | exit id=>exact this
  | _=>exact this
 | cond c x y ihx ihy=>
  intro K σ a h;simp only [ej,Ck] at h;simp only [wpA];split at h
  ·rename_i b hb
   rw [hb];cases b with
   | true=>exact⟨fun _=>ihx h,nofun⟩
   | false=>exact⟨nofun,fun _=>ihy h⟩
  ·cases h
 | block id b ih=>
  intro K σ a h;refine fF b (fun e σ hs=>?_) (ih h);cases e with
  | normal=>exact hs
  | ret=>exact hs
  | exit id'=>
   simp only [xZ] at hs;simp only [xT];split at hs
   ·rename_i he;rw [if_pos he];exact hs
   ·rename_i he;rw [if_neg he];exact hs
  | _=>cases hs
 | loop td b ih=>
  intro K σ a h;refine⟨aE,?_⟩;have key:∀ n σ,ir (ej P E sh b) td K n σ=some a->rz (wpA P E.env b) td (fun e σ'=>K e σ'=some a) n σ:=by
   intro n
   induction n with
   | zero=>intro σ h;cases h
   | succ n ihn=>
    intro σ h;simp only [ir] at h;simp only [rz];unfold br at h;split at h
    ·rename_i σ' hs
     rw [hs];refine fF b (fun e σ hs=>?_) (ih h);have:=sE hs;cases e with
     | normal=>exact ihn _ this
     | ret=>exact this
     | exit id=>exact this
     | _=>exact this
    ·cases h
  exact key aE σ h
 | rangeF g ps td x y ihx ihy=>
  intro K σ a h;simp only [ej,CV] at h;simp only [wpA];split at h
  ·rename_i xs hxs
   rw [hxs];have key:∀ xs σ,dO (ej P E sh x) (ej P E sh y) ps td K xs σ=some a->iR (wpA P E.env x) (wpA P E.env y) ps td (fun e σ'=>K e σ'=some a) xs σ:=by
    intro xs
    induction xs with
    | nil=>intro σ h;exact h
    | cons v xs ihn=>
     intro σ h;simp only [dO] at h;split at h
     ·rename_i hl
      refine⟨hl,fF x (fun e σ hs=>?_) (ihx h)⟩;have:=sE hs;cases e with
      | normal=>
       refine fF y (fun e σ hs=>?_) (ihy this);cases e with
       | normal=>
        simp only [DI,br] at hs;simp only [Ip];split at hs
        ·rename_i σ' h1;rw [h1];exact ihn _ hs
        ·cases hs
       | ret=>exact hs
       | exit id=>exact hs
       | _=>cases hs
      | ret=>cases this
      | exit id=>cases this
      | _=>exact this
     ·cases h
   exact key xs σ h
  ·cases h
theorem sb (hE:E.Nat'){g:α->Option β}{K:St->Option α}:∀ (l:List bp) (σ:St),(yW P E sh l K σ).bind g=yW P E sh l (fun σ=>(K σ).bind g) σ
 | [],σ=>rfl
 | ao::l,σ=>by
  simp only [yW];rw [Mz];congr 1
  ·funext σ
   rw [Fv hE];congr 1;funext y es;exact sb hE l _
  ·funext σ
   exact sb hE l _
theorem sC (hE:E.Nat'){g:α->Option β}{K:List dv->St->Option α}:∀ (l:List bp) (acc:List dv) (σ:St),(zf P E sh l K acc σ).bind g=zf P E sh l (fun os σ=>(K os σ).bind g) acc σ
 | [],acc,σ=>rfl
 | ao::l,acc,σ=>by
  simp only [zf];rw [Mz];congr 1
  ·funext σ
   rw [Fv hE];congr 1;funext y es;exact sC hE l _ _
  ·funext σ
   exact sC hE l _ _
theorem sV (hE:E.Nat'){g:α->Option β}{ops:List bp}{prs:List (Nat × Nat)}{K:St->Option α}{σ:St}:(mS P E sh ops prs K σ).bind g=mS P E sh ops prs (fun σ=>(K σ).bind g) σ:=by
 unfold mS;cases prs with
 | nil=>exact sb hE ops σ
 | cons p r=>simp only;rw [sC hE];congr 1;funext os σ;exact js
theorem fj {g:α->Option β}{td:Option bX}{σ:St}{K:St->Option α}:(br td σ K).bind g=br td σ fun σ=>(K σ).bind g:=by
 unfold br;split <;> rfl
theorem gk {g:α->Option β}{K:St->Option α}{Q:Exit->St->Option α}:(fun e σ=>(bI K Q e σ).bind g)=bI (fun σ=>(K σ).bind g) (fun e σ=>(Q e σ).bind g):=by
 funext e σ;cases e <;> rfl
theorem zo {g:α->Option β}{id:Nat}{Q:Exit->St->Option α}:(fun e σ=>(xZ id Q e σ).bind g)=xZ id (fun e σ=>(Q e σ).bind g):=by
 funext e σ;cases e <;> first | rfl | (simp only [xZ];exact js)
theorem qL (hE:E.Nat'){g:α->Option β}:∀ (c:aq) {K:Exit->St->Option α} {σ:St},(ej P E sh c K σ).bind g=ej P E sh c (fun e σ=>(K e σ).bind g) σ:=by
 intro c
 induction c with
 | skip=>intro K σ;rfl
 | ret=>intro K σ;rfl
 | exit id=>intro K σ;rfl
 | region ops prs td=>intro K σ;simp only [ej];rw [sV hE];congr 1;funext σ;exact fj
 | seq x y ihx ihy=>intro K σ;simp only [ej];rw [ihx,gk];congr 2;funext σ;exact ihy
 | cond c x y ihx ihy=>
  intro K σ;simp only [ej,Ck];split
  ·rw [ko,ihx,ihy]
  ·rfl
 | block id b ih=>intro K σ;simp only [ej];rw [ih,zo]
 | loop td b ih=>
  intro K σ;simp only [ej];have key:∀ n σ,(ir (ej P E sh b) td K n σ).bind g=ir (ej P E sh b) td (fun e σ=>(K e σ).bind g) n σ:=by
   intro n
   induction n with
   | zero=>intro σ;rfl
   | succ n ihn=>
    intro σ;simp only [ir];rw [fj];congr 1;funext σ;rw [ih,gk];congr 2;funext σ;exact ihn σ
  exact key aE σ
 | rangeF gg ps td x y ihx ihy=>
  intro K σ;simp only [ej,CV];split
  ·rename_i xs hxs
   have key:∀ xs σ,(dO (ej P E sh x) (ej P E sh y) ps td K xs σ).bind g=dO (ej P E sh x) (ej P E sh y) ps td (fun e σ=>(K e σ).bind g) xs σ:=by
    intro xs
    induction xs with
    | nil=>intro σ;rfl
    | cons v xs ihn=>
     intro σ;simp only [dO];rw [js,ihx,gk];congr 3;funext σ;rw [ihy];congr 1;funext e σ;cases e with
     | normal=>simp only [DI];rw [fj];congr 1;funext σ;exact ihn σ
     | _=>rfl
   exact key xs σ
  ·rfl
def Oe (rs:List dZ)(k:List RV->Option α)(e:Exit)(σ:St):Option α:=
 match e with
 | .ret | .normal=>match C6 rs σ with
  | some r=>k r
  | none=>none
 | _=>none
theorem Gq {g:α->Option β}{rs:List dZ}{k:List RV->Option α}:(fun e σ=>(Oe rs k e σ).bind g)=Oe rs fun r=>(k r).bind g:=by
 funext e σ;cases e <;> first | rfl | (simp only [Oe];split <;> rfl)
theorem aa1 {rs:List dZ}{res:List RV}{e:Exit}{σ:St}(h:Oe rs some e σ=some res):arI rs res e σ:=by
 cases e with
 | ret=>
  simp only [Oe] at h;split at h
  ·rename_i r hr;simp only [zaI] at h;subst h;exact⟨.inl rfl,hr⟩
  ·cases h
 | normal=>
  simp only [Oe] at h;split at h
  ·rename_i r hr;simp only [zaI] at h;subst h;exact⟨.inr rfl,hr⟩
  ·cases h
 | _=>cases h
structure aF.Ok (P:Program)(E:aF):Prop where
 nat:E.Nat'
 ok:dy P E.env
noncomputable def fnK (P:Program)(E:aF)(sh:List (Nat × List Sh))(ac:aq)(rs:List dZ)(ds:List DV)(k:List RV->Option α):Option α:=match akU ds ac with
 | true=>ej P E sh ac (Oe (rs++gJ 0 ds) k) (DN ds)
 | false=>none
theorem afy (hE:E.Nat'){g:α->Option β}{ac:aq}{rs:List dZ}{ds:List DV}{k:List RV->Option α}:(fnK P E sh ac rs ds k).bind g=fnK P E sh ac rs ds fun r=>(k r).bind g:=by
 unfold fnK;split
 ·rw [qL hE,Gq]
 ·rfl
theorem ur (hE:E.Ok P)(hm:P.follows .mixedOrders=true){f:FuncId}{nt:Nat}{tr tl:List (Nat × bX)}{ac:aq}{rs:List dZ}(hf:tI P f nt tr tl ac rs){ds:List DV}{res:List RV}(hn:ds.length<=nt)
  (h:fnK P E sh ac rs ds some=some res):eu P f ds res/\ge P f:=by
 unfold fnK at h;split at h
 ·rename_i hio
  exact hf.contract hm hE.ok hn hio (fF ac (fun _ _ hs=>aa1 hs) (abw hE.nat ac h))
 ·cases h
def aF.add (E:aF)(f:Nat)(s:(α:Type)->List DV->(List RV->Option α)->Option α):aF:=⟨fun α g ds k=>if g=f then s α ds k else E.call α g ds k,E.seq,E.io⟩
theorem aF.Ok.add (hE:E.Ok P)(hm:P.follows .mixedOrders=true){f:FuncId}{nt:Nat}{tr tl:List (Nat × bX)}{ac:aq}{rs:List dZ}(hf:tI P f nt tr tl ac rs){s:(α:Type)->List DV->(List RV->Option α)->Option α}
  (hs:∀ ds,(∃ sh',∀ α k,s α ds k=fnK P E sh' ac rs ds k)\/∀ α k,s α ds k=none) (hn:∀ ds,nt < ds.length->s _ ds some=none):(E.add f s).Ok P:=by
 refine⟨fun α β g ds k gg=>?_,fun g ds res hg=>?_,hE.ok.seq⟩
 ·simp only [aF.add]
  split
  ·rcases hs ds with ⟨sh',h⟩ | h
   ·rw [h,h,afy hE.nat]
   ·rw [h,h];rfl
  ·exact hE.nat ..
 ·simp only [aF.env,aF.add] at hg
  split at hg
  ·rename_i he
   subst he;rcases hs ds with ⟨sh',h⟩ | h
   ·refine ur (sh:=sh') hE hm hf ?_ (by rw [<- h];exact hg)
    rcases Nat.lt_or_ge nt ds.length with hl | hl
    ·rw [hn ds hl] at hg;cases hg
    ·exact hl
   ·rw [h] at hg;cases hg
  ·exact hE.ok.call g ds res hg
def aF.nil:aF:=⟨fun _ _ _ _=>none,fun _ _=>none,fun _=>[]⟩
theorem aF.Ok.nil:aF.nil.Ok P:=⟨fun _ _ _ _ _ _=>rfl,fun _ _ _ h=>(nomatch h),fun _ _ _ h=>(nomatch h)⟩
structure PT (X:Type) where
 Cur:Type->Type
 unc:{β:Type}->(X->β)->Cur β
 dec:{β:Type}->X->Cur β->Option β
 law:∀ x,(∀ (β:Type) (g:X->β),dec x (unc g)=some (g x))\/(∀ (β:Type) (f:Cur β),dec x f=none)
namespace PT
variable {X Y:Type}
def IY:PT X:=⟨fun β=>X->β,fun g=>g,fun x f=>some (f x),fun _=>.inl fun _ _=>rfl⟩
def lift (p:PT X)(mk:X->Y)(un:Y->Option X)(h:∀ y x,un y=some x->mk x=y):PT Y:=
 ⟨p.Cur,fun g=>p.unc fun x=>g (mk x),fun y f=>match un y with | some x=>p.dec x f | none=>none,fun y=>by
  cases hu:un y with
  | none=>exact .inr fun _ _=>rfl
  | some x=>
   rcases p.law x with hl | hr
   ·exact .inl fun β g=>by simp only [hl];rw [h y x hu]
   ·exact .inr fun β f=>by simp only [hr]⟩
def const (x:X)(is:X->Bool)(h:∀ y,is y=true->y=x):PT X:=
 ⟨fun β=>β,fun g=>g x,fun y f=>match is y with | true=>some f | false=>none,fun y=>by
  cases hi:is y with
  | true=>have:=h y hi;subst this;exact .inl fun _ _=>rfl
  | false=>exact .inr fun _ _=>rfl⟩
def ash (p:PT X)(q:PT Y):PT (X × Y):=
 ⟨fun β=>p.Cur (q.Cur β),fun g=>p.unc fun x=>q.unc fun y=>g (x,y),fun z f=>match p.dec z.1 f with | some f'=>q.dec z.2 f' | none=>none,fun z=>by
  rcases p.law z.1 with hl | hr
  ·rcases q.law z.2 with hl' | hr'
   ·exact .inl fun β g=>by simp only [hl,hl']
   ·refine .inr fun β f=>?_
    split
    ·exact hr' _ _
    ·rfl
  ·exact .inr fun β f=>by simp only [hr]⟩
def nil:PT (List X):=const [] (fun l=>match l with | []=>true | _::_=>false) (fun l h=>by cases l with | nil=>rfl | cons a r=>cases h)
def cons (p:PT X)(q:PT (List X)):PT (List X):=
 (ash p q).lift (fun z=>z.1::z.2) (fun l=>match l with | []=>none | a::r=>some (a,r)) (fun l z h=>by cases l with | nil=>cases h | cons a r=>simp only [zaI] at h;subst h;rfl)
def ofL:List (PT X)->PT (List X)
 | []=>nil
 | p::r=>cons p (ofL r)
def eqN (n:Nat)(p:PT Y):PT (Nat × Y):=p.lift (fun y=>(n,y)) (fun z=>if z.1=n then some z.2 else none) (fun z y h=>by
 split at h
 ·rename_i hn;simp only [zaI] at h;subst h;subst hn;rfl
 ·cases h)
def eqB (b:Bool)(p:PT Y):PT (Bool × Y):=p.lift (fun y=>(b,y)) (fun z=>if z.1=b then some z.2 else none) (fun z y h=>by
 split at h
 ·rename_i hn;simp only [zaI] at h;subst h;subst hn;rfl
 ·cases h)
end PT
open PT
def dI (k:IntKind):PT DC:=IY.lift (fun n=>.v (.int k n)) (fun d=>match d with | .v (.int k' n)=>if k'=k then some n else none | _=>none) (fun d n h=>by
 split at h
 ·split at h
  ·rename_i hk;simp only [zaI] at h;subst h;subst hk;rfl
  ·cases h
 ·cases h)
def dB:PT DC:=IY.lift (fun n=>.v (.bool n)) (fun d=>match d with | .v (.bool n)=>some n | _=>none) (fun d n h=>by
 split at h
 ·simp only [zaI] at h;subst h;rfl
 ·cases h)
def dF (k:FloatKind):PT DC:=IY.lift (fun n=>.v (.float k n)) (fun d=>match d with | .v (.float k' n)=>if k'=k then some n else none | _=>none) (fun d n h=>by
 split at h
 ·split at h
  ·rename_i hk;simp only [zaI] at h;subst h;subst hk;rfl
  ·cases h
 ·cases h)
def dX (k:FloatKind):PT DC:=(ash IY IY).lift (fun (n:Nat × Nat)=>.v (.complex k n.1 n.2)) (fun d=>match d with | .v (.complex k' n m)=>if k'=k then some (n,m) else none | _=>none) (fun d n h=>by
 split at h
 ·split at h
  ·rename_i hk;simp only [zaI] at h;subst h;subst hk;rfl
  ·cases h
 ·cases h)
def dL:PT DC:=IY.lift (fun n=>.sl n) (fun d=>match d with | .sl n=>some n | _=>none) (fun d n h=>by
 split at h
 ·simp only [zaI] at h;subst h;rfl
 ·cases h)
def dFn (f:Nat)(caps:List (PT DC)):PT DC:=(ofL caps).lift (fun cs=>.fn f cs) (fun d=>match d with | .fn f' cs=>if f'=f then some cs else none | _=>none) (fun d n h=>by
 split at h
 ·split at h
  ·rename_i hk;simp only [zaI] at h;subst h;subst hk;rfl
  ·cases h
 ·cases h)
def dP (cs:List (PT DC))(off:Nat):PT DC:=(ofL cs).lift (fun cs=>.cref cs off) (fun d=>match d with | .cref cs o=>if o=off then some cs else none | _=>none) (fun d n h=>by
 split at h
 ·split at h
  ·rename_i hk;simp only [zaI] at h;subst h;subst hk;rfl
  ·cases h
 ·cases h)
def dMr (cs:List (PT DC))(off:Nat):PT DC:=(ofL cs).lift (fun cs=>.mref cs off) (fun d=>match d with | .mref cs o=>if o=off then some cs else none | _=>none) (fun d n h=>by
 split at h
 ·split at h
  ·rename_i hk;simp only [zaI] at h;subst h;subst hk;rfl
  ·cases h
 ·cases h)
def dOs (sz:Nat):PT DC:=IY.lift (fun rows=>.osl sz rows) (fun d=>match d with | .osl s rows=>if s=sz then some rows else none | _=>none) (fun d n h=>by
 split at h
 ·split at h
  ·rename_i hk;simp only [zaI] at h;subst h;subst hk;rfl
  ·cases h
 ·cases h)
def dON:PT DC:=const (.osl 0 []) (fun d=>match d with | .osl 0 []=>true | _=>false) (fun d h=>by split at h <;> first | rfl | cases h)
def aJf (k:FloatKind):PT DC:=const (.nan k) (fun d=>match d with | .nan k'=>decide (k'=k) | _=>false) (fun d h=>by
 split at h
 ·have:=of_decide_eq_true h;subst this;rfl
 ·cases h)
def dNP:PT DC:=const (.v (.pointer none)) (fun d=>match d with | .v (.pointer none)=>true | _=>false) (fun d h=>by split at h <;> first | rfl | cases h)
def cD (p:PT DC):PT C:=p.lift .d (fun c=>match c with | .d x=>some x | _=>none) (fun d n h=>by
 split at h
 ·simp only [zaI] at h;subst h;rfl
 ·cases h)
def Ls:PT C:=const .nils (fun c=>match c with | .nils=>true | _=>false) (fun d h=>by split at h <;> first | rfl | cases h)
def dG (n:Nat):PT C:=const (.ref n) (fun c=>match c with | .ref m=>m == n | _=>false) (fun d h=>by
 split at h
 ·rename_i m;have:m=n:=by simpa using h
  rw [this]
 ·cases h)
def cE (n off:Nat):PT C:=const (.ptr n off) (fun c=>match c with | .ptr m o=>m == n && o == off | _=>false) (fun d h=>by
 split at h
 ·rename_i m o;have:m=n/\o=off:=by simpa using h
  rw [this.1,this.2]
 ·cases h)
def aV (b:Bool)(cs:List (PT C)):PT AV:=(ofL cs).lift (fun cs=>.val b cs) (fun a=>match a with | .val b' cs=>if b'=b then some cs else none | _=>none) (fun d n h=>by
 split at h
 ·split at h
  ·rename_i hk;simp only [zaI] at h;subst h;subst hk;rfl
  ·cases h
 ·cases h)
def sl (n:Nat)(p:PT AV):PT (Nat × AV):=eqN n p
def s1 (n:Nat)(p:PT DC):PT (Nat × AV):=eqN n (aV false [cD p])
def au (n:Nat)(cs:List (PT C)):PT (Nat × aL):=eqN n ((ofL cs).lift (fun cs=>.box cs) (fun a=>match a with | .box cs=>some cs | _=>none) (fun d n h=>by
 split at h
 ·simp only [zaI] at h;subst h;rfl
 ·cases h))
def dE (n sz:Nat):PT (Nat × aL):=eqN n (IY.lift (fun rows=>.own sz rows) (fun a=>match a with | .own s rows=>if s=sz then some rows else none | _=>none) (fun d n h=>by
 split at h
 ·split at h
  ·rename_i hk;simp only [zaI] at h;subst h;subst hk;rfl
  ·cases h
 ·cases h))
def pS (ts:List (PT (Nat × AV)))(tb:List (PT (Nat × aL))):PT St:=
 (ash (ofL ts) (ofL tb)).lift (fun z=>⟨z.1,z.2,[]⟩) (fun σ=>match σ with | ⟨a,b,[]⟩=>some (a,b) | _=>none) (fun d n h=>by
 split at h
 ·simp only [zaI] at h;subst h;rfl
 ·cases h)
def aFL (l:List (Nat × Nat × Nat)):List (Nat × AV):=l.map fun p=>(p.1,.val false [.ptr p.2.1 p.2.2])
def svB:List (Nat × Nat × Nat)->List (Nat × AV)->Bool
 | [],[]=>true
 | p::r,(k,.val false [.ptr n o])::r'=>p.1 == k && p.2.1 == n && p.2.2 == o && svB r r'
 | _,_=>false
theorem ah2:∀ {l:List (Nat × Nat × Nat)} {s:List (Nat × AV)},svB l s=true->s=aFL l
 | [],[],_=>rfl
 | [],_::_,h=>by simp [svB] at h
 | p::r,[],h=>by simp [svB] at h
 | p::r,x::r',h=>by
  unfold svB at h;split at h
  ·rename_i h1 h2;cases h1
  ·rename_i a b k n o d h1 h2
   simp only [List.cons.injEq] at h1 h2;obtain⟨rfl,rfl⟩:=h1;obtain⟨rfl,rfl⟩:=h2;simp only [Bool.and_eq_true,beq_iff_eq] at h;obtain⟨⟨⟨e1,e2⟩,e3⟩,h⟩:=h;rw [ah2 h,<- e1,<- e2,<- e3];rfl
  ·cases h
def pSv (l:List (Nat × Nat × Nat))(ts:List (PT (Nat × AV)))(tb:List (PT (Nat × aL))):PT St:=
 (ash (ofL ts) (ofL tb)).lift (fun z=>⟨z.1,z.2,aFL l⟩) (fun σ=>if svB l σ.sv then some (σ.tmps,σ.tab) else none) (fun d n h=>by
 split at h
 ·rename_i hk;simp only [zaI] at h;subst h;have:=ah2 hk;cases d;simp_all
 ·cases h)
def pV (b:Bool)(cs:List (PT DC)):PT DV:=eqB b (ofL cs)
def pA (l:List (PT DV)):PT (List DV):=ofL l
def rD (p:PT DC):PT RC:=p.lift .d (fun c=>match c with | .d x=>some x | _=>none) (fun d n h=>by
 split at h
 ·simp only [zaI] at h;subst h;rfl
 ·cases h)
def rO (sz:Nat):PT RC:=IY.lift (fun rows=>.own sz rows) (fun a=>match a with | .own s rows=>if s=sz then some rows else none | _=>none) (fun d n h=>by
 split at h
 ·split at h
  ·rename_i hk;simp only [zaI] at h;subst h;subst hk;rfl
  ·cases h
 ·cases h)
def rJ (cs:List (PT DC))(off:Nat):PT RC:=(ofL cs).lift (fun cs=>.obj cs off) (fun a=>match a with | .obj cs o=>if o=off then some cs else none | _=>none) (fun d n h=>by
 split at h
 ·split at h
  ·rename_i hk;simp only [zaI] at h;subst h;subst hk;rfl
  ·cases h
 ·cases h)
def pR (b:Bool)(cs:List (PT RC)):PT RV:=eqB b (ofL cs)
def pRs (l:List (PT RV)):PT (List RV):=ofL l
variable {α β:Type}{P:Program}{E:aF}{sh:List (Nat × List Sh)}
structure tR:Type 1 where
 p:PT St
 F:(α:Type)->(Exit->St->Option α)->p.Cur (Option α)
structure XT:Type 1 where
 X:Type
 dx:List Value->Option X
 ex:X->List Value
 hx:∀ v x,dx v=some x->v=ex x
def afa (x:XT):List (List Value)->Option (List x.X)
 | []=>some []
 | v::r=>match x.dx v with
  | some a=>match afa x r with
   | some b=>some (a::b)
   | none=>none
  | none=>none
theorem KK {x:XT}:∀ {xs:List (List Value)} {ys:List x.X},afa x xs=some ys->xs=ys.map x.ex
 | [],ys,h=>by simp only [afa,zaI] at h;subst h;rfl
 | v::r,ys,h=>by
  simp only [afa] at h;split at h
  ·rename_i a ha
   split at h
   ·rename_i b hb
    simp only [zaI] at h;subst h;rw [x.hx v a ha,KK hb];rfl
   ·cases h
  ·cases h
def xK (x:XT)(xs:List (List Value))(f:List x.X->Option α):Option α:=match afa x xs with | some ys=>f ys | none=>none
structure Nw:Type 1 where
 x:XT
 p:PT St
 F:(α:Type)->(Exit->St->Option α)->List x.X->p.Cur (Option α)
inductive ah:Type 1 where
 | skip
 | ret
 | exit (id:Nat)
 | region (ops:List bp) (prs:List (Nat × Nat)) (td:Option bX)
 | seq (a b:ah)
 | cond (c:Operand) (a b:ah)
 | block (id:Nat) (b:ah)
 | loop (td:Option bX) (l:List tR) (b:ah)
 | mark (l:List tR) (c:ah)
 | rangeF (g:Operand) (ps:List Nat) (td:Option bX) (l:List Nw) (a b:ah)
 | loopU (n:Nat) (td:Option bX) (b:ah)
def ah.erase:ah->aq
 | .skip=>.skip
 | .ret=>.ret
 | .exit id=>.exit id
 | .region ops prs td=>.region ops prs td
 | .seq a b=>.seq a.erase b.erase
 | .cond c a b=>.cond c a.erase b.erase
 | .block id b=>.block id b.erase
 | .loop td _ b=>.loop td b.erase
 | .mark _ c=>c.erase
 | .rangeF g ps td _ a b=>.rangeF g ps td a.erase b.erase
 | .loopU _ td b=>.loop td b.erase
def abU (p:PT St)(f:p.Cur (Option α))(σ:St)(r:Option α):Option α:=match p.dec σ f with | some o=>o | none=>r
def OI (K:Exit->St->Option α)(σ:St)(r:Option α):List tR->Option α
 | []=>r
 | m::l=>abU m.p (m.F α K) σ (OI K σ r l)
def Pb (K:Exit->St->Option α)(xs:List (List Value))(σ:St)(r:Option α):List Nw->Option α
 | []=>r
 | m::l=>match m.p.dec σ (m.p.unc fun _=>()) with
  | some _=>xK m.x xs fun ys=>abU m.p (m.F α K ys) σ none
  | none=>Pb K xs σ r l
def aJ (f:(Exit->St->Option α)->St->Option α)(td:Option bX)(Q:Exit->St->Option α):Nat->St->Option α
 | 0,_=>none
 | k+1,σ=>f (bI (fun σ=>br td σ (aJ f td Q k)) Q) σ
def az (P:Program)(E:aF)(sh:List (Nat × List Sh)):ah->(Exit->St->Option α)->St->Option α
 | .skip,K,σ=>K .normal σ
 | .ret,K,σ=>K .ret σ
 | .exit id,K,σ=>K (.exit id) σ
 | .region ops prs td,K,σ=>mS P E sh ops prs (fun σ'=>br td σ' (K .normal)) σ
 | .seq a b,K,σ=>az P E sh a (bI (az P E sh b K) K) σ
 | .cond c a b,K,σ=>Ck (ik (evO σ.tmps c)) (az P E sh a K σ) (az P E sh b K σ)
 | .block id b,K,σ=>az P E sh b (xZ id K) σ
 | .loop td l _,K,σ=>br td σ fun σ=>OI K σ none l
 | .mark l c,K,σ=>OI K σ (az P E sh c K σ) l
 | .rangeF g _ _ l _ _,K,σ=>CV (GZ E.env (evO σ.tmps g) σ.sv) fun xs=>Pb K xs σ none l
 | .loopU n td b,K,σ=>ir (az P E sh b) td K n σ
def bH {X:Type 1}:List X->(X->Prop)->Prop
 | [],_=>True
 | x::r,p=>p x/\bH r p
def ah.Good (P:Program)(E:aF)(sh:List (Nat × List Sh)):ah->Prop
 | .seq a b=>a.Good P E sh/\b.Good P E sh
 | .cond _ a b=>a.Good P E sh/\b.Good P E sh
 | .block _ b=>b.Good P E sh
 | .loop td l b=>b.Good P E sh/\bH l fun m=>∀ (α:Type) (K:Exit->St->Option α),m.F α K=m.p.unc fun σ=>aJ (az P E sh b) td K aE σ
 | .mark l c=>c.Good P E sh/\bH l fun m=>∀ (α:Type) (K:Exit->St->Option α),m.F α K=m.p.unc fun σ=>az P E sh c K σ
 | .rangeF _ ps td l a b=>(a.Good P E sh/\b.Good P E sh)/\bH l fun m=>∀ (α:Type) (K:Exit->St->Option α) (ys:List m.x.X),m.F α K ys=m.p.unc fun σ=>dO (az P E sh a) (az P E sh b) ps td K (ys.map m.x.ex) σ
 | .loopU n _ b=>b.Good P E sh/\n<=1000000
 | _=>True
theorem xf {g:(α:Type)->(Exit->St->Option α)->St->Option α}{K:Exit->St->Option α}{σ:St}{r:Option α}{a:α}:∀ {l:List tR},bH l (fun m=>∀ (α:Type) (K:Exit->St->Option α),m.F α K=m.p.unc (g α K))->OI K σ r l=some a->g α K σ=some a\/r=some a
 | [],_,h=>.inr h
 | m::l,hl,h=>by
  simp only [OI,abU] at h;rw [hl.1 α K] at h;rcases m.p.law σ with hL | hR
  ·rw [hL] at h;exact .inl h
  ·rw [hR] at h;exact xf hl.2 h
theorem GV {g:(α:Type)->(Exit->St->Option α)->List (List Value)->St->Option α}{K:Exit->St->Option α}{xs:List (List Value)}{σ:St}{r:Option α}{a:α}:∀ {l:List Nw},bH l (fun m=>∀ (α:Type) (K:Exit->St->Option α) (ys:List m.x.X),m.F α K ys=m.p.unc (g α K (ys.map m.x.ex)))->Pb K xs σ r l=some a->g α K xs σ=some a\/r=some a
 | [],_,h=>.inr h
 | m::l,hl,h=>by
  simp only [Pb] at h;rcases m.p.law σ with hL | hR
  ·rw [hL] at h
   simp only [xK] at h;split at h
   ·rename_i ys hy
    have hxs:=KK hy;simp only [abU] at h;rw [hl.1 α K ys,<- hxs,hL] at h;exact .inl h
   ·cases h
  ·rw [hR] at h;exact GV hl.2 h
theorem yn {g:(α:Type)->(Exit->St->Option α)->St->Option α}{K:Exit->St->Option α}{gg:α->Option β}{σ:St}{r:Option α}(hg:∀ σ,(g α K σ).bind gg=g β (fun e σ=>(K e σ).bind gg) σ) :
  ∀ {l:List tR},bH l (fun m=>∀ (α:Type) (K:Exit->St->Option α),m.F α K=m.p.unc (g α K))->(OI K σ r l).bind gg=OI (fun e σ=>(K e σ).bind gg) σ (r.bind gg) l
 | [],_=>rfl
 | m::l,hl=>by
  simp only [OI,abU];rw [hl.1 α K,hl.1 β];rcases m.p.law σ with hL | hR
  ·rw [hL,hL];exact hg σ
  ·rw [hR,hR];exact yn hg hl.2
theorem G0 {g:(α:Type)->(Exit->St->Option α)->List (List Value)->St->Option α}{K:Exit->St->Option α}{xs:List (List Value)}{gg:α->Option β}{σ:St}{r:Option α}(hg:∀ σ,(g α K xs σ).bind gg=g β (fun e σ=>(K e σ).bind gg) xs σ) :
  ∀ {l:List Nw},bH l (fun m=>∀ (α:Type) (K:Exit->St->Option α) (ys:List m.x.X),m.F α K ys=m.p.unc (g α K (ys.map m.x.ex)))->(Pb K xs σ r l).bind gg=Pb (fun e σ=>(K e σ).bind gg) xs σ (r.bind gg) l
 | [],_=>rfl
 | m::l,hl=>by
  simp only [Pb];rcases m.p.law σ with hL | hR
  ·rw [hL]
   simp only [xK];split
   ·rename_i ys hy
    have hxs:=KK hy;simp only [abU];rw [hl.1 α K,hl.1 β,<- hxs,hL,hL];exact hg σ
   ·rfl
  ·rw [hR];exact G0 hg hl.2
theorem RO {f:(Exit->St->Option α)->St->Option α}{td:Option bX}{Q:Exit->St->Option α}:∀ n σ,ir f td Q n σ=br td σ (aJ f td Q n)
 | 0,σ=>by unfold br;split <;> rfl
 | n+1,σ=>by
  have:ir f td Q n=fun σ=>br td σ (aJ f td Q n):=funext (RO n);simp only [ir,this];rfl
theorem atr (hE:E.Nat'):∀ (c:ah),c.Good P E sh->∀ {α:Type} {K:Exit->St->Option α} {σ:St} {a:α},az P E sh c K σ=some a->ej P E sh c.erase K σ=some a:=by
 have mono:∀ (c:aq) {α:Type} {K K':Exit->St->Option α} {σ:St} {a:α},(∀ e σ,K e σ=some a->K' e σ=some a)->ej P E sh c K σ=some a->ej P E sh c K' σ=some a:=by
  intro c α K K' σ a hK h;have h1:=qL (g:=(some:Exit × St->Option (Exit × St))) hE c (K:=fun e σ=>some (e,σ)) (σ:=σ) (P:=P) (sh:=sh);have h2:=qL (g:=fun p:Exit × St=>K p.1 p.2) hE c (K:=fun e σ=>some (e,σ)) (σ:=σ) (P:=P) (sh:=sh);have h3:=qL (g:=fun p:Exit × St=>K' p.1 p.2) hE c (K:=fun e σ=>some (e,σ)) (σ:=σ) (P:=P) (sh:=sh);simp only [Option.bind_some] at h2 h3;rw [<- h2] at h;rw [<- h3];obtain⟨p,hp,hk⟩:=Option.bind_eq_some_iff.1 h;rw [hp];exact hK _ _ hk
 intro c
 induction c with
 | skip=>intro _ α K σ a h;exact h
 | ret=>intro _ α K σ a h;exact h
 | exit id=>intro _ α K σ a h;exact h
 | region ops prs td=>intro _ α K σ a h;exact h
 | seq x y ihx ihy=>
  intro hg α K σ a h;simp only [az] at h;have h1:=ihx hg.1 h;simp only [ah.erase,ej];refine mono x.erase (fun e σ hs=>?_) h1;cases e with
  | normal=>exact ihy hg.2 hs
  | ret=>exact hs
  | exit id=>exact hs
  | _=>cases hs
 | cond c x y ihx ihy=>
  intro hg α K σ a h;simp only [az,Ck] at h;simp only [ah.erase,ej,Ck];split at h
  ·rename_i b hb
   cases b with
   | true=>exact ihx hg.1 h
   | false=>exact ihy hg.2 h
  ·cases h
 | block id b ih=>intro hg α K σ a h;exact ih hg h
 | mark l c ih=>
  intro hg α K σ a h;simp only [az] at h;rcases xf (g:=fun α K=>az P E sh c K) hg.2 h with h | h <;> exact ih hg.1 h
 | loop td l b ih=>
  intro hg α K σ a h;simp only [az,br] at h;simp only [ah.erase,ej];rw [RO];unfold br;split at h
  ·rename_i σ1 h1
   have h2:=(xf (g:=fun α K=>aJ (az P E sh b) td K aE) hg.2 h).resolve_right nofun;have key:∀ n σ,aJ (az P E sh b) td K n σ=some a->aJ (ej P E sh b.erase) td K n σ=some a:=by
    intro n
    induction n with
    | zero=>intro σ h;cases h
    | succ n ihn=>
     intro σ h;refine mono _ (fun e σ hs=>?_) (ih hg.1 h);cases e with
     | normal=>
      simp only [bI,br] at hs ⊢;split at hs
      ·rename_i σ' h';exact ihn _ hs
      ·cases hs
     | ret=>exact hs
     | exit id=>exact hs
     | _=>cases hs
   exact key _ _ h2
  ·cases h
 | rangeF g ps td l x y ihx ihy=>
  intro hg α K σ a h;simp only [az,CV] at h;simp only [ah.erase,ej,CV];split at h
  ·rename_i xs hxs
   have h2:=(GV (g:=fun α K xs=>dO (az P E sh x) (az P E sh y) ps td K xs) hg.2 h).resolve_right nofun;have key:∀ xs σ,dO (az P E sh x) (az P E sh y) ps td K xs σ=some a->dO (ej P E sh x.erase) (ej P E sh y.erase) ps td K xs σ=some a:=by
    intro xs
    induction xs with
    | nil=>intro σ h;exact h
    | cons v xs ihn=>
     intro σ h;simp only [dO] at h ⊢;split at h
     ·rename_i hl
      rw [if_pos hl];refine mono _ (fun e σ hs=>?_) (ihx hg.1.1 h);cases e with
      | normal=>
       refine mono _ (fun e σ hs=>?_) (ihy hg.1.2 hs);cases e with
       | normal=>
        simp only [DI,br] at hs ⊢;split at hs
        ·exact ihn _ hs
        ·cases hs
       | ret=>exact hs
       | exit id=>exact hs
       | _=>cases hs
      | ret=>exact hs
      | exit id=>exact hs
      | _=>cases hs
     ·cases h
   exact key _ _ h2
  ·cases h
 | loopU n td b ih=>
  intro hg α K σ a h;simp only [az] at h;simp only [ah.erase,ej];have key:∀ n m σ,n<=m->ir (az P E sh b) td K n σ=some a->ir (ej P E sh b.erase) td K m σ=some a:=by
   intro n
   induction n with
   | zero=>intro m σ _ h;cases h
   | succ n ihn=>
    intro m σ hm h;obtain⟨m,rfl⟩:∃ z,m=z+1:=⟨m - 1,by omega⟩
    simp only [ir,br] at h ⊢;split at h
    ·rename_i σ1 h1
     refine mono _ (fun e σ hs=>?_) (ih hg.1 h);cases e with
     | normal=>exact ihn _ _ (by omega) hs
     | ret=>exact hs
     | exit id=>exact hs
     | _=>cases hs
    ·cases h
  exact key n aE σ (by have:=hg.2;have:=bz;omega) h
theorem ZE (hE:E.Nat'):∀ (c:ah),c.Good P E sh->∀ {α β:Type} {g:α->Option β} {K:Exit->St->Option α} {σ:St},(az P E sh c K σ).bind g=az P E sh c (fun e σ=>(K e σ).bind g) σ:=by
 intro c
 induction c with
 | skip=>intro _ α β g K σ;rfl
 | ret=>intro _ α β g K σ;rfl
 | exit id=>intro _ α β g K σ;rfl
 | region ops prs td=>intro _ α β g K σ;simp only [az];rw [sV hE];congr 1;funext σ;exact fj
 | seq x y ihx ihy=>intro hg α β g K σ;simp only [az];rw [ihx hg.1,gk];congr 2;funext σ;exact ihy hg.2
 | cond c x y ihx ihy=>
  intro hg α β g K σ;simp only [az,Ck];split
  ·rw [ko,ihx hg.1,ihy hg.2]
  ·rfl
 | block id b ih=>intro hg α β g K σ;simp only [az];rw [ih hg,zo]
 | mark l c ih=>
  intro hg α β g K σ;simp only [az];rw [yn (g:=fun α K=>az P E sh c K) (fun σ=>ih hg.1) hg.2,ih hg.1]
 | loop td l b ih=>
  intro hg α β g K σ;simp only [az];rw [fj];congr 1;funext σ;refine (yn (r:=none) (g:=fun α K=>aJ (az P E sh b) td K aE) (fun σ=>?_) hg.2).trans rfl;have key:∀ n σ,(aJ (az P E sh b) td K n σ).bind g=aJ (az P E sh b) td (fun e σ=>(K e σ).bind g) n σ:=by
   intro n
   induction n with
   | zero=>intro σ;rfl
   | succ n ihn=>
    intro σ;simp only [aJ];rw [ih hg.1,gk];congr 2;funext σ;rw [fj];congr 1;funext σ;exact ihn σ
  exact key aE σ
 | rangeF gg ps td l x y ihx ihy=>
  intro hg α β g K σ;simp only [az,CV];split
  ·rename_i xs hxs
   refine (G0 (r:=none) (g:=fun α K xs=>dO (az P E sh x) (az P E sh y) ps td K xs) (fun σ=>?_) hg.2).trans rfl;have key:∀ xs σ,(dO (az P E sh x) (az P E sh y) ps td K xs σ).bind g=dO (az P E sh x) (az P E sh y) ps td (fun e σ=>(K e σ).bind g) xs σ:=by
    intro xs
    induction xs with
    | nil=>intro σ;rfl
    | cons v xs ihn=>
     intro σ;simp only [dO];rw [js,ihx hg.1.1,gk];congr 3;funext σ;rw [ihy hg.1.2];congr 1;funext e σ;cases e with
     | normal=>simp only [DI];rw [fj];congr 1;funext σ;exact ihn σ
     | _=>rfl
   exact key xs σ
  ·rfl
 | loopU n td b ih=>
  intro hg α β g K σ;simp only [az];have key:∀ n σ,(ir (az P E sh b) td K n σ).bind g=ir (az P E sh b) td (fun e σ=>(K e σ).bind g) n σ:=by
   intro n
   induction n with
   | zero=>intro σ;rfl
   | succ n ihn=>
    intro σ;simp only [ir];rw [fj];congr 1;funext σ;rw [ih hg.1,gk];congr 2;funext σ;exact ihn σ
  exact key n σ
def fnM (P:Program)(E:aF)(sh:List (Nat × List Sh))(c:ah)(rs:List dZ)(k:List RV->Option α)(ds:List DV):Option α:=match akU ds c.erase with
 | true=>az P E sh c (Oe (rs++gJ 0 ds) k) (DN ds)
 | false=>none
def ajx (p:PT (List DV))(f:p.Cur (Option α))(ds:List DV)(r:Option α):Option α:=match p.dec ds f with | some o=>o | none=>r
def su (k:List RV->Option α)(ds:List DV):List (Sigma fun p:PT (List DV)=>(α:Type)->(List RV->Option α)->p.Cur (Option α))->Option α
 | []=>none
 | x::r=>ajx x.1 (x.2 α k) ds (su k ds r)
structure aw3 (P:Program)(E:aF)(rs:List dZ)(ac:aq)(x:Sigma fun p:PT (List DV)=>(α:Type)->(List RV->Option α)->p.Cur (Option α)):Prop where
 ex:∃ (sh:List (Nat × List Sh)) (c:ah),c.erase=ac/\c.Good P E sh/\∀ (α:Type) (k:List RV->Option α),x.2 α k=x.1.unc fun ds=>fnM P E sh c rs k ds
abbrev OZ:Type 1:=Sigma fun p:PT (List DV)=>(α:Type)->(List RV->Option α)->p.Cur (Option α)
structure ak (P:Program)(f nt:Nat)(x:OZ):Prop where
 nat:∀ (α β:Type) (k:List RV->Option α) (g:α->Option β) (ds:List DV),(∃ r,x.1.dec ds (x.2 α k)=some r/\x.1.dec ds (x.2 β fun r=>(k r).bind g)=some (r.bind g))\/(x.1.dec ds (x.2 α k)=none/\x.1.dec ds (x.2 β fun r=>(k r).bind g)=none)
 ok:∀ (ds:List DV) (res:List RV),ds.length<=nt->x.1.dec ds (x.2 _ some)=some (some res)->eu P f ds res/\ge P f
theorem auS (hE:E.Ok P)(hm:P.follows .mixedOrders=true){f:FuncId}{nt:Nat}{tr tl:List (Nat × bX)}{ac:aq}{rs:List dZ}(hf:tI P f nt tr tl ac rs){x:OZ}(hx:aw3 P E rs ac x):ak P f nt x:=by
 obtain⟨sh,c,h1,h2,h3⟩:=hx.ex;refine⟨fun α β k g ds=>?_,fun ds res hn h=>?_⟩
 ·rcases x.1.law ds with hL | hR
  ·refine .inl ⟨fnM P E sh c rs k ds,?_,?_⟩
   ·rw [h3,hL]
   ·rw [h3,hL]
    simp only [fnM];split
    ·rw [ZE hE.nat c h2,Gq]
    ·rfl
  ·exact .inr ⟨hR _ _,hR _ _⟩
 ·rw [h3] at h
  rcases x.1.law ds with hL | hR
  ·rw [hL] at h
   simp only [zaI,fnM] at h;split at h
   ·rename_i hio
    have:=atr hE.nat c h2 h;rw [h1] at this hio;exact ur (sh:=sh) hE hm hf hn (by unfold fnK;rw [hio];exact this)
   ·cases h
  ·rw [hR] at h;cases h
theorem Xj {f nt:Nat}{x:OZ}{r:List DV->Option (List RV)}(h:∀ (α:Type) (k:List RV->Option α),x.2 α k=x.1.unc fun ds=>(r ds).bind k)(hc:∀ ds res,r ds=some res->eu P f ds res/\ge P f):ak P f nt x:=by
 refine⟨fun α β k g ds=>?_,fun ds res _ hr=>?_⟩
 ·rw [h,h]
  rcases x.1.law ds with hL | hR
  ·refine .inl ⟨(r ds).bind k,hL _ _,?_⟩
   rw [hL];cases r ds <;> rfl
  ·exact .inr ⟨hR _ _,hR _ _⟩
 ·rw [h] at hr
  rcases x.1.law ds with hL | hR
  ·rw [hL] at hr
   simp only [zaI] at hr;refine hc ds res ?_;cases hq:r ds with
   | none=>rw [hq] at hr;cases hr
   | some y=>rw [hq] at hr;exact hr
  ·rw [hR] at hr;cases hr
structure bC:Type 1 where
 f:Nat
 nt:Nat
 l:List OZ
def Lw (k:List RV->Option α)(f:Nat)(ds:List DV):List bC->Option α
 | []=>none
 | c::r=>if c.f=f then (if ds.length<=c.nt then su k ds c.l else none) else Lw k f ds r
def aF.of (l:List bC)(sq:Nat->List DC->Option (List (List Value))):aF:=⟨fun _ f ds k=>Lw k f ds l,sq,fun _=>[]⟩
theorem aF.of_ok {sq:Nat->List DC->Option (List (List Value))}(hs:∀ f caps xs,sq f caps=some xs->ow P f caps xs/\ge P f){l:List bC}(h:bH l fun c=>bH c.l (ak P c.f c.nt)):(aF.of l sq).Ok P:=by
 have hN:∀ {f nt:Nat} (l:List OZ),bH l (ak P f nt)->∀ (α β:Type) (ds:List DV) (k:List RV->Option α) (g:α->Option β),(su k ds l).bind g=su (fun r=>(k r).bind g) ds l:=by
  intro f nt l
  induction l with
  | nil=>intro _ α β ds k g;rfl
  | cons x r ih=>
   intro hl α β ds k g;simp only [su,ajx];rcases hl.1.nat α β k g ds with ⟨r',h1,h2⟩ | ⟨h1,h2⟩
   ·rw [h1,h2]
   ·rw [h1,h2];exact ih hl.2 α β ds k g
 have hC:∀ {f nt:Nat} (l:List OZ),bH l (ak P f nt)->∀ (ds:List DV) (res:List RV),ds.length<=nt->su some ds l=some res->eu P f ds res/\ge P f:=by
  intro f nt l
  induction l with
  | nil=>intro _ ds res hn h;cases h
  | cons x r ih=>
   intro hl ds res hn h;simp only [su,ajx] at h;split at h
   ·rename_i o ho;subst h;exact hl.1.ok ds res hn ho
   ·exact ih hl.2 ds res hn h
 refine⟨fun α β f ds k g=>?_,fun f ds res hg=>?_,hs⟩
 ·simp only [aF.of]
  induction l with
  | nil=>rfl
  | cons c r ih=>
   simp only [Lw];split
   ·split
    ·exact hN _ h.1 α β ds k g
    ·rfl
   ·exact ih h.2
 ·simp only [aF.env,aF.of] at hg
  induction l with
  | nil=>cases hg
  | cons c r ih=>
   simp only [Lw] at hg;split at hg
   ·rename_i he
    subst he;split at hg
    ·rename_i hn;exact hC _ h.1 ds res hn hg
    ·cases hg
   ·exact ih h.2 hg
def aF.ofIO (l:List bC)(sq:Nat->List DC->Option (List (List Value)))(io:List (Nat × List Nat)):aF:=⟨fun _ f ds k=>Lw k f ds l,sq,fun f=>match an io f with | some x=>x | none=>[]⟩
theorem aF.ofIO_ok {sq:Nat->List DC->Option (List (List Value))}{io:List (Nat × List Nat)}(hs:∀ f caps xs,sq f caps=some xs->ow P f caps xs/\ge P f){l:List bC}(h:bH l fun c=>bH c.l (ak P c.f c.nt)):(aF.ofIO l sq io).Ok P:=
 have:=aF.of_ok hs h
 ⟨this.nat,this.ok.call,this.ok.seq⟩
def bu:Nat->List DC->Option (List (List Value)):=fun _ _=>none
theorem aN:∀ f caps xs,bu f caps=some xs->ow P f caps xs/\ge P f:=fun _ _ _ h=>nomatch h
end Go.AM

namespace Go.AM
set_option linter.unusedSimpArgs false
abbrev ae:=List (List DC)
def mT (k:IntKind)(a b:Int):Int:=k.wrap ((BitVec.ofInt k.bits a &&& BitVec.ofInt k.bits b).toNat)
def iOr (k:IntKind)(a b:Int):Int:=k.wrap ((BitVec.ofInt k.bits a ||| BitVec.ofInt k.bits b).toNat)
def AU (k:IntKind)(a b:Int):Int:=k.wrap ((BitVec.ofInt k.bits a &&& ~~~(BitVec.ofInt k.bits b)).toNat)
abbrev w64 (n:Int):Int:=IntKind.wrap .i64 n
abbrev vs (b:ByteArray):DC:=.v (.string b)
def dH (sz bytes:Nat)(rows rows2:ae):Bool:=decide (eS sz rows2=true/\(rows.length+rows2.length)*bytes<=140737488355328/\rows.length+rows2.length<=9223372036854775807)
end Go.AM

namespace Go.AM.K
open PT
def xI:PT C:=cD (dI .i64)
def xs (n:Nat):List (PT C):=List.replicate n xI
def aI:PT AV:=aV false [xI]
def sI (n:Nat):=sl n aI
def sP (n:Nat):=sl n (aV false [cE n 0])
def vI:=pV false [dI .i64]
def wI:=pR false [rD (dI .i64)]
abbrev I4 (t:Type):Type:=Int->Int->Int->Int->t
abbrev I5 (t:Type):Type:=Int->Int->Int->Int->Int->t
abbrev I6 (t:Type):Type:=Int->Int->Int->Int->Int->Int->t
abbrev I7 (t:Type):Type:=Int->Int->Int->Int->Int->Int->Int->t
abbrev I9 (t:Type):Type:=Int->Int->Int->Int->Int->Int->Int->Int->Int->t
abbrev I10 (t:Type):Type:=Int->Int->Int->Int->Int->Int->Int->Int->Int->Int->t
abbrev I11 (t:Type):Type:=Int->Int->Int->Int->Int->Int->Int->Int->Int->Int->Int->t
abbrev I13 (t:Type):Type:=Int->Int->Int->Int->Int->Int->Int->Int->Int->Int->Int->Int->Int->t
abbrev I14 (t:Type):Type:=Int->Int->Int->Int->Int->Int->Int->Int->Int->Int->Int->Int->Int->Int->t
abbrev I16 (t:Type):Type:=Int->Int->Int->Int->Int->Int->Int->Int->Int->Int->Int->Int->Int->Int->Int->Int->t
abbrev I17 (t:Type):Type:=Int->Int->Int->Int->Int->Int->Int->Int->Int->Int->Int->Int->Int->Int->Int->Int->Int->t
abbrev I20 (t:Type):Type:=Int->Int->Int->Int->Int->Int->Int->Int->Int->Int->Int->Int->Int->Int->Int->Int->Int->Int->Int->Int->t
abbrev I32 (t:Type):Type:=Int->Int->Int->Int->Int->Int->Int->Int->Int->Int->Int->Int->Int->Int->Int->Int->Int->Int->Int->Int->Int->Int->Int->Int->Int->Int->Int->Int->Int->Int->Int->Int->t
abbrev Op:=Option
abbrev KT (α:Type):=Exit->St->Option α
abbrev SK (α:Type):=St->Option α
abbrev RT (α:Type):=List RV->Option α
abbrev OT:=Option bX
abbrev SG:=List (Nat × List Sh)
abbrev TG:=List (Nat × bX)
abbrev BA:=ByteArray
def iT:List Sh:=[.int .i64]
def iS (n:Nat):List Sh:=List.replicate n (.int .i64)
end Go.AM.K

namespace Go.AM
def emb:aq->ah
 | .skip=>.skip
 | .ret=>.ret
 | .exit id=>.exit id
 | .region ops prs td=>.region ops prs td
 | .seq a b=>.seq (emb a) (emb b)
 | .cond c a b=>.cond c (emb a) (emb b)
 | .block id b=>.block id (emb b)
 | .loop td b=>.loop td [] (emb b)
 | .rangeF g ps td a b=>.rangeF g ps td [] (emb a) (emb b)
theorem aA:∀ a:aq,(emb a).erase=a
 | .skip | .ret | .exit _ | .region _ _ _=>rfl
 | .seq a b=>by simp only [emb,ah.erase,aA a,aA b]
 | .cond c a b=>by simp only [emb,ah.erase,aA a,aA b]
 | .block id b=>by simp only [emb,ah.erase,aA b]
 | .loop td b=>by simp only [emb,ah.erase,aA b]
 | .rangeF g ps td a b=>by simp only [emb,ah.erase,aA a,aA b]
theorem aD {P:Program}{E:aF}{sh:List (Nat × List Sh)}:∀ a:aq,(emb a).Good P E sh
 | .skip | .ret | .exit _ | .region _ _ _=>trivial
 | .seq a b=>⟨aD a,aD b⟩
 | .cond _ a b=>⟨aD a,aD b⟩
 | .block _ b=>aD b
 | .loop _ b=>⟨aD b,trivial⟩
 | .rangeF _ _ _ a b=>⟨⟨aD a,aD b⟩,trivial⟩
inductive Mk:Type 1 where
 | m (l:List tR)
 | r (l:List Nw)
 | u (n:Nat)
 | um (n:Nat) (l:List tR)
def ah.sub:List Nat->ah->ah
 | [],c=>c
 | 0::p,.seq a _=>a.sub p
 | 1::p,.seq _ b=>b.sub p
 | 0::p,.cond _ a _=>a.sub p
 | 1::p,.cond _ _ b=>b.sub p
 | 0::p,.block _ b=>b.sub p
 | 0::p,.loop _ _ b=>b.sub p
 | 0::p,.loopU _ _ b=>b.sub p
 | 0::p,.rangeF _ _ _ _ a _=>a.sub p
 | 1::p,.rangeF _ _ _ _ _ b=>b.sub p
 | 0::p,.mark _ b=>b.sub p
 | _,_=>.skip
def ah.put (mk:Mk):List Nat->ah->ah
 | [],.seq a b=>match mk with
  | .m l=>.seq (.mark l a) b
  | _=>.seq a b
 | [],.loop td [] b=>match mk with
  | .m l=>.loop td l b
  | .u n=>.loopU n td b
  | .um n l=>.loopU n td (.mark l b)
  | _=>.loop td [] b
 | [],.rangeF g ps td [] a b=>match mk with
  | .r l=>.rangeF g ps td l a b
  | _=>.rangeF g ps td [] a b
 | 0::p,.seq a b=>.seq (a.put mk p) b
 | 1::p,.seq a b=>.seq a (b.put mk p)
 | 0::p,.cond c a b=>.cond c (a.put mk p) b
 | 1::p,.cond c a b=>.cond c a (b.put mk p)
 | 0::p,.block id b=>.block id (b.put mk p)
 | 0::p,.loop td [] b=>.loop td [] (b.put mk p)
 | 0::p,.loopU n td b=>.loopU n td (b.put mk p)
 | 0::p,.rangeF g ps td [] a b=>.rangeF g ps td [] (a.put mk p) b
 | 1::p,.rangeF g ps td [] a b=>.rangeF g ps td [] a (b.put mk p)
 | _,c=>c
theorem am {mk:Mk}:∀ (p:List Nat) (c:ah),(c.put mk p).erase=c.erase:=by
 intro p c
 fun_induction ah.put mk p c <;> simp_all [ah.erase]
def aj4 (P:Program)(E:aF)(sh:List (Nat × List Sh))(mk:Mk):ah->Prop
 | .seq a _=>match mk with
  | .m l=>bH l fun m=>∀ (α:Type) (K:Exit->St->Option α),m.F α K=m.p.unc fun σ=>az P E sh a K σ
  | _=>True
 | .loop td _ b=>match mk with
  | .m l=>bH l fun m=>∀ (α:Type) (K:Exit->St->Option α),m.F α K=m.p.unc fun σ=>aJ (az P E sh b) td K aE σ
  | .u n=>n<=1000000
  | .um n l=>(n<=1000000)/\bH l fun m=>∀ (α:Type) (K:Exit->St->Option α),m.F α K=m.p.unc fun σ=>az P E sh b K σ
  | _=>True
 | .rangeF g ps td _ a b=>match mk with
  | .r l=>bH l fun m=>∀ (α:Type) (K:Exit->St->Option α) (ys:List m.x.X),m.F α K ys=m.p.unc fun σ=>dO (az P E sh a) (az P E sh b) ps td K (ys.map m.x.ex) σ
  | _=>True
 | _=>True
theorem BF {P:Program}{E:aF}{sh:List (Nat × List Sh)}{mk:Mk}:∀ (p:List Nat) (c:ah),c.Good P E sh->aj4 P E sh mk (c.sub p)->(c.put mk p).Good P E sh:=by
 intro p c
 fun_induction ah.put mk p c <;> intro hg hk <;> simp_all [ah.Good,ah.sub,aj4,bH]
noncomputable def aw (P:Program)(fn:Func)(tr tl:List (Nat × bX)):aq:=(fn.body.bind (mk P fn.ntmps tr tl true)).getD .skip
noncomputable def aKc (P:Program)(fn:Func):List dZ:=(gZ P fn.results.toList).getD []
def Gu:ah->Nat
 | .seq _ _=>1
 | .loop _ [] _=>2
 | .rangeF _ _ _ [] _ _=>3
 | _=>0
def tdC:ah->Option bX
 | .loop td _ _ | .loopU _ td _=>td
 | .rangeF _ _ td _ _ _=>td
 | _=>none
theorem Yq:∀ (p:List Nat) (c:ah) (i:Nat),Gu (c.sub p) ≠ 0->c.sub (p++[i])=(c.sub p).sub [i]:=by
 intro p c i
 fun_induction ah.sub p c <;> intro h <;> simp_all [ah.sub,Gu]
section
variable {P:Program}{E:aF}{sh:List (Nat × List Sh)}{p:List Nat}{c:ah}
theorem aM {l:List tR}(hk:Gu (c.sub p)=1)(hg:c.Good P E sh)(hm:bH l fun m=>∀ (α:Type) (K:Exit->St->Option α),m.F α K=m.p.unc fun σ=>az P E sh (c.sub (p++[0])) K σ):(c.put (.m l) p).Good P E sh:=by
 refine BF p c hg ?_;have e:=Yq p c 0 (by omega);generalize c.sub p=x at *;cases x <;> simp_all [Gu,ah.sub,aj4];split at hk <;> simp_all
theorem aW {l:List tR}{td:Option bX}(hk:(Gu (c.sub p),tdC (c.sub p))=(2,td))(hg:c.Good P E sh)(hm:bH l fun m=>∀ (α:Type) (K:Exit->St->Option α),m.F α K=m.p.unc fun σ=>aJ (az P E sh (c.sub (p++[0]))) td K aE σ):(c.put (.m l) p).Good P E sh:=by
 refine BF p c hg ?_;simp only [zbI] at hk;have e:=Yq p c 0 (by omega);generalize c.sub p=x at *;cases x <;> simp_all [Gu,ah.sub,aj4,tdC]
theorem GB {n:Nat}(hn:n<=1000000)(hg:c.Good P E sh):(c.put (.u n) p).Good P E sh:=by
 refine BF p c hg ?_;generalize c.sub p=x;cases x <;> simp_all [aj4]
end
theorem ag {P : Program} {f nt : Nat} {fn : Func} {tr tl : List (Nat × bX)} (h : P.funcs[f]? = some fn) (hk : ((fn.ntmps == nt) && ((fn.body.bind (mk P fn.ntmps tr tl true)).isSome && ((gZ P fn.results.toList).isSome && !(fn.name == "runtime.NumGoroutine")))) = true) :
  tI P f nt tr tl (aw P fn tr tl) (aKc P fn):=by
 simp only [Bool.and_eq_true,beq_iff_eq] at hk;obtain⟨h0,h1,h2,h3⟩:=hk;subst h0;obtain⟨x,hx⟩:=Option.isSome_iff_exists.1 h1;obtain⟨y,hy⟩:=Option.isSome_iff_exists.1 h2;refine⟨fn,h,rfl,?_,?_,by simpa using h3⟩
 ·show fn.body.bind (mk P fn.ntmps tr tl true)=some ((fn.body.bind (mk P fn.ntmps tr tl true)).getD .skip)
  rw [hx];rfl
 ·show gZ P fn.results.toList=some ((gZ P fn.results.toList).getD [])
  rw [hy];rfl
end Go.AM
