/- Texts of one kind, put together. -/
import Derived.Test.YtffcelhcekillaaGreatYb
namespace Go.AM.K
set_option linter.unusedVariables false
set_option linter.unusedSimpArgs false
variable {α:Type}
def wN {β:Type}(n:Int)(f:(m:Int)->n=m->β):β:=match n,f with
 | .ofNat 0,f=>f 0 rfl
 | .ofNat (m+1),f=>f (.ofNat (m+1)) rfl
 | .negSucc 0,f=>f (-1) rfl
 | .negSucc (m+1),f=>f (.negSucc (m+1)) rfl
theorem fY {β:Type}(n:Int)(f:(m:Int)->n=m->β):wN n f=f n rfl:=by
 unfold wN;split <;> rfl
theorem aCG {u:Bl}{x y r:Int}(hx:u.b.1=x)(hy:u.b.2.1=y)(hr:u.b.2.2=r):okS (x,y,r)=true:=by
 subst hx;subst hy;subst hr;exact u.ok
def bnd {β:Type}(u:Bl × Int)(f:Bl->Int->β):β:=
 wN u.1.b.1 fun x hx=>wN u.1.b.2.1 fun y hy=>wN u.1.b.2.2 fun r hr=>wN u.2 fun e _=>f ⟨(x,y,r),aCG hx hy hr⟩ e
theorem aP {β:Type}(u:Bl × Int)(f:Bl->Int->β):bnd u f=f u.1 u.2:=by
 unfold bnd;rw [fY,fY,fY,fY]
theorem gM {β γ:Type}(F:β->γ)(u:Bl × Int)(G:Bl->Int->β):F (bnd u G)=bnd u fun a e=>F (G a e):=by
 rw [aP,aP]
abbrev Q4:=Int × Int × Int × Int
def iQ {β:Type}(u:Q4 × Int)(f:Int->Int->Int->Int->Int->β):β:=
 wN u.1.1 fun a _=>wN u.1.2.1 fun b _=>wN u.1.2.2.1 fun c _=>wN u.1.2.2.2 fun d _=>wN u.2 fun e _=>f a b c d e
theorem cV {β:Type}(u:Q4 × Int)(f:Int->Int->Int->Int->Int->β):iQ u f=f u.1.1 u.1.2.1 u.1.2.2.1 u.1.2.2.2 u.2:=by
 unfold iQ;rw [fY,fY,fY,fY,fY]
theorem ql {β γ:Type}(F:β->γ)(u:Q4 × Int)(G:Int->Int->Int->Int->Int->β):F (iQ u G)=iQ u fun a b c d e=>F (G a b c d e):=by
 rw [cV,cV]
def kR {β:Type}(u:Int × Int × Int)(f:Int->Int->Int->β):β:=
 wN u.1 fun a _=>wN u.2.1 fun b _=>wN u.2.2 fun c _=>f a b c
theorem kt {β:Type}(u:Int × Int × Int)(f:Int->Int->Int->β):kR u f=f u.1 u.2.1 u.2.2:=by
 unfold kR;rw [fY,fY,fY]
theorem xe {β γ:Type}(F:β->γ)(u:Int × Int × Int)(G:Int->Int->Int->β):F (kR u G)=kR u fun a b c=>F (G a b c):=by
 rw [kt,kt]
def zA {β:Type}(u:Bl × Bool × Int)(f:Bl->Bool->Int->β):β:=
 match u with
 | (q,true,e)=>f q true e
 | (q,false,e)=>f q false e
theorem fx {β:Type}(u:Bl × Bool × Int)(f:Bl->Bool->Int->β):zA u f=f u.1 u.2.1 u.2.2:=by
 obtain⟨q,b,e⟩:=u;cases b <;> rfl
theorem yD {β γ:Type}(F:β->γ)(u:Bl × Bool × Int)(G:Bl->Bool->Int->β):F (zA u G)=zA u fun a b e=>F (G a b e):=by
 rw [fx,fx]
abbrev Mt:=Bl × Bl × Bl × Bl
def nZ {β:Type}(u:Mt × Int)(f:Mt->Int->β):β:=match u with
 | ((a,b,c,d),e)=>f (a,b,c,d) e
theorem vR {β:Type}(u:Mt × Int)(f:Mt->Int->β):nZ u f=f u.1 u.2:=rfl
theorem aba {β γ:Type}(F:β->γ)(u:Mt × Int)(G:Mt->Int->β):F (nZ u G)=nZ u fun a e=>F (G a e):=rfl
def aic {β:Type}(u:(Mt × Bl) × Int)(f:Mt->Bl->Int->β):β:=match u with
 | (((a,b,c,d),g),e)=>f (a,b,c,d) g e
theorem RL {β:Type}(u:(Mt × Bl) × Int)(f:Mt->Bl->Int->β):aic u f=f u.1.1 u.1.2 u.2:=rfl
theorem abH {β γ:Type}(F:β->γ)(u:(Mt × Bl) × Int)(G:Mt->Bl->Int->β):F (aic u G)=aic u fun a g e=>F (G a g e):=rfl
theorem bo {x:Int}{a b:Option α}:cK (x != 0) a b=if x=0 then b else a:=by
 by_cases h:x=0
 ·rw [if_pos h,h];rfl
 ·rw [if_neg h,bne_iff_ne.2 h,ap]
theorem gz {x:Int}{a b:Option α}:cK (x == 0) a b=if x=0 then a else b:=by
 by_cases h:x=0
 ·rw [if_pos h,h];rfl
 ·rw [if_neg h,beq_eq_false_iff_ne.2 h,al]
theorem oA {x:Bool}{a b:Option α}:cK x a b=if x=true then a else b:=by cases x <;> rfl
def KN (k:Nat->Nat->Int->Bool->Int->Option α)(u:Bl × Bool × Int):Option α:=k u.1.n1 u.1.n2 u.1.r u.2.1 u.2.2
def KP (k:Int->Int->Int->Int->Int->Option α)(u:Q4 × Int):Option α:=k u.1.1 u.1.2.1 u.1.2.2.1 u.1.2.2.2 u.2
def KMt (k:Nat->Nat->Int->Nat->Nat->Int->Nat->Nat->Int->Nat->Nat->Int->Int->Option α)(u:Mt × Int):Option α:=
 k u.1.1.n1 u.1.1.n2 u.1.1.r u.1.2.1.n1 u.1.2.1.n2 u.1.2.1.r u.1.2.2.1.n1 u.1.2.2.1.n2 u.1.2.2.1.r u.1.2.2.2.n1 u.1.2.2.2.n2 u.1.2.2.2.r u.2
theorem ant {k:Nat->Nat->Int->Int->Option α}{a:Bl}{e:Int}:KB k (a,e)=k a.n1 a.n2 a.r e:=rfl
theorem aK4 {k:Nat->Nat->Int->Bool->Int->Option α}{a:Bl}{b:Bool}{e:Int}:KN k (a,b,e)=k a.n1 a.n2 a.r b e:=rfl
theorem avU {k:Nat->Nat->Int->Nat->Nat->Int->Nat->Nat->Int->Nat->Nat->Int->Int->Option α}{a b c d:Bl}{e:Int} :
  KMt k ((a,b,c,d),e)=k a.n1 a.n2 a.r b.n1 b.n2 b.r c.n1 c.n2 c.r d.n1 d.n2 d.r e:=rfl
def two (op:Bl->Bl->Bl × Int)(e:Int)(a b:Bl):Bl × Int:=if e=0 then op a b else (Bl0,e)
theorem yd {e:Int}{u:Bl × Int}{k:Nat->Nat->Int->Int->Option α}:cK (e != 0) (k 0 0 0 e) (KB k u)=bnd (if e=0 then u else (Bl0,e)) fun u e=>k u.n1 u.n2 u.r e:=by
 rw [aP,bo];by_cases h:e=0
 ·simp only [if_pos h];rfl
 ·simp only [if_neg h,DH,Ew,Ow]
theorem AG (e:Int)(a b:Bl){k:Nat->Nat->Int->Int->Option α}:fA α e a.n1 a.n2 a.r b.n1 b.n2 b.r k=bnd (two fD e a b) fun u e=>k u.n1 u.n2 u.r e:=by
 simp only [fA,af,WD,IH,af,U4,dV,af,ib,anA];exact yd
theorem kl (e:Int)(a b:Bl){k:Nat->Nat->Int->Int->Option α}:cS α e a.n1 a.n2 a.r b.n1 b.n2 b.r k=bnd (two bD e a b) fun u e=>k u.n1 u.n2 u.r e:=by
 simp only [cS,af,Ri,Jb,af,QF,dV,af,ib,aqX];exact yd
theorem Jo (e:Int)(a b:Bl){k:Nat->Nat->Int->Int->Option α}:nV α e a.n1 a.n2 a.r b.n1 b.n2 b.r k=bnd (two jW e a b) fun u e=>k u.n1 u.n2 u.r e:=by
 simp only [nV,af,Yr,II,af,XI,dV,af,ib,apK];exact yd
theorem Kv (e:Int)(a b:Bl){k:Nat->Nat->Int->Int->Option α}:pP α e a.n1 a.n2 a.r b.n1 b.n2 b.r k=bnd (two wO e a b) fun u e=>k u.n1 u.n2 u.r e:=by
 simp only [pP,af,Ww,Il,af,TU,dV,af,ib,asM];exact yd
def Bl1:Bl:=⟨(1048576,0,0),by decide⟩
def Blc:Bl:=⟨(0,0,1048576),by decide⟩
theorem aJk:FloatKind.nearest .f64 1048576=4697254411347427328:=by decide +kernel
theorem Po:Bl1.n1=4697254411347427328:=aJk
theorem PC:Bl1.n2=0:=aez
theorem aiP:Bl1.r=0:=rfl
theorem awT:Blc.n1=0:=aez
theorem awC:Blc.n2=0:=aez
theorem aCn:Blc.r=1048576:=rfl
theorem akd (e:Int)(b:Bl){k:Nat->Nat->Int->Int->Option α}:fA α e 4697254411347427328 0 0 b.n1 b.n2 b.r k=bnd (two fD e Bl1 b) fun u e=>k u.n1 u.n2 u.r e:=by
 rw [<- AG,Po,PC,aiP]
theorem agS (e:Int)(b:Bl){k:Nat->Nat->Int->Int->Option α}:nV α e 4697254411347427328 0 0 b.n1 b.n2 b.r k=bnd (two jW e Bl1 b) fun u e=>k u.n1 u.n2 u.r e:=by
 rw [<- Jo,Po,PC,aiP]
theorem ay8 (e:Int)(b:Bl){k:Nat->Nat->Int->Int->Option α}:cS α e 0 0 1048576 b.n1 b.n2 b.r k=bnd (two bD e Blc b) fun u e=>k u.n1 u.n2 u.r e:=by
 rw [<- kl,awT,awC,aCn]
def iK (e lo hi:Int):Bl × Int:=if e=0 then cL lo hi else (Bl0,e)
def u9 (e n d:Int):Bl × Int:=if e=0 then yZ n d else (Bl0,e)
theorem IF {e lo hi:Int}{k:Nat->Nat->Int->Int->Option α}:pd α e lo hi k=bnd (iK e lo hi) fun u e=>k u.n1 u.n2 u.r e:=by
 simp only [pd,af,TK,dV,af,ib,J2];exact yd
theorem T9 {e n d:Int}{k:Nat->Nat->Int->Int->Option α}:yR α e n d k=bnd (u9 e n d) fun u e=>k u.n1 u.n2 u.r e:=by
 simp only [yR,af,Rm,dV,af,ib,amW];exact yd
theorem anE (a:Bl){k:Nat->Nat->Int->Int->Option α}:rI α a.n1 a.n2 a.r 1 k=bnd (Ev a) fun u e=>k u.n1 u.n2 u.r e:=by
 rw [VZ,aP];rfl
theorem are (a:Bl){k:Nat->Nat->Int->Int->Option α}:yz α a.n1 a.n2 a.r k=bnd (o6 a) fun u e=>k u.n1 u.n2 u.r e:=by
 rw [auH,aP];rfl
theorem atV {lo hi:Int}{k:Nat->Nat->Int->Int->Option α}:xx α lo hi k=bnd (jX lo hi) fun u e=>k u.n1 u.n2 u.r e:=by
 rw [amr,aP];rfl
theorem atq {lo hi:Int}{k:Nat->Nat->Int->Int->Option α}:xR α lo hi k=bnd (CL lo hi) fun u e=>k u.n1 u.n2 u.r e:=by
 rw [ao1,aP];rfl
theorem asp {lo hi:Int}{k:Int->Int->Int->Option α}:si α lo hi k=kR (jx lo hi) k:=by
 rw [atK,kt]
def jY (e:Int)(a:Bl):Q4 × Int:=if e=0 then ((a.lo1,a.hi1,a.lo2,a.hi2),0) else ((0,0,0,0),e)
theorem KF (e:Int)(a:Bl){k:Int->Int->Int->Int->Int->Option α}:oW α e a.n1 a.n2 a.r k=iQ (jY e a) k:=by
 simp only [oW,af,Xs,atu];rw [cV,bo];unfold jY;by_cases h:e=0
 ·simp only [if_pos h]
 ·simp only [if_neg h]
def nD (a:Bl):Int × Int × Int:=(a.eLo,a.eHi,0)
theorem XY (a:Bl){k:Int->Int->Int->Option α}:r9 α a.n1 a.n2 a.r k=kR (nD a) k:=by
 rw [auV,kt];rfl
def dnI (n d:Int):Int:=w64 (Int.tdiv n d)
def upI (n d:Int):Int:=w64 (Int.tdiv (w64 (w64 (n+d) - 1)) d)
theorem ve {n d:Int}(h:d ≠ 0){k:Int->Option α}:jP α n d k=k (dnI n d):=by
 simp only [jP,af,WV];rw [bO (bne_iff_ne.2 h)];rfl
theorem wm {n d:Int}(h:d ≠ 0){k:Int->Option α}:nx α n d k=k (upI n d):=by
 simp only [nx,af,ajC];rw [bO (bne_iff_ne.2 h)];rfl
def pos (x:Int):Int:=if x > 0 then x else 0
theorem UJ {x y:Int}{k:Int->Int->Option α}:nd α x y k=k (pos x) (pos y):=by rw [nd,af,Sq];rfl
abbrev L5:=Int × Int × Int × Int × Int
abbrev rL (l:L5):List DC:=[.v (.int .i64 l.1),.v (.int .i64 l.2.1),.v (.int .i64 l.2.2.1),.v (.int .i64 l.2.2.2.1),.v (.int .i64 l.2.2.2.2)]
structure Ask where
 ix:Int
 s1:Int
 s2:Int
 pol:Int
 w1:Int
 w2:Int
 ls:List L5
 oi:Int
 ol:Int
theorem aif {ls:List L5}{i:Nat}{l:L5}(h:ls[i]?=some l)(hi:i < 1000000){f:Int->Int->Int->Int->Int->Option α} :
  dT (ls.map rL) (w64 (((i+1:Nat):Int) - 1)) [.int .i64,.int .i64,.int .i64,.int .i64,.int .i64] f=f l.1 l.2.1 l.2.2.1 l.2.2.2.1 l.2.2.2.2:=by
 rw [show w64 (((i+1:Nat):Int) - 1)=(i:Int) by rw [aj (by omega) (by omega)];omega];refine (o5 (r:=rL l) ?_).trans rfl;rw [List.getElem?_map,h];rfl
theorem PH {ls:List L5}{i:Nat}{l:L5}(h:ls[i]?=some l){f:Int->Int->Int->Int->Int->Option α} :
  dT (ls.map rL) (i:Int) [.int .i64,.int .i64,.int .i64,.int .i64,.int .i64] f=f l.1 l.2.1 l.2.2.1 l.2.2.2.1 l.2.2.2.2:=by
 refine (o5 (r:=rL l) ?_).trans rfl;rw [List.getElem?_map,h];rfl
def eO (A:Ask)(n:Nat):Int × Int × Int:=match n with
 | 0=>(A.ix,A.ix,0)
 | n+1=>match A.ls[n]? with
  | some l=>(l.1,l.2.1,l.2.2.2.2)
  | none=>(A.oi,A.oi,A.ol)
theorem lK {A:Ask}{n:Nat}{l:L5}(h:A.ls[n]?=some l):eO A (n+1)=(l.1,l.2.1,l.2.2.2.2):=by
 show (match A.ls[n]? with
  | some l=>(l.1,l.2.1,l.2.2.2.2)
  | none=>(A.oi,A.oi,A.ol))=_
 rw [h]
theorem qE {A:Ask}{n:Nat}(h:A.ls[n]?=none):eO A (n+1)=(A.oi,A.oi,A.ol):=by
 show (match A.ls[n]? with
  | some l=>(l.1,l.2.1,l.2.2.2.2)
  | none=>(A.oi,A.oi,A.ol))=_
 rw [h]
theorem Ja (A:Ask){n:Nat}(hn:n < 1000000){k:Int->Int->Int->Option α} :
  rY α A.ix (A.ls.map rL) A.oi A.ol (n:Int) k=k (eO A n).1 (eO A n).2.1 (eO A n).2.2:=by
 simp only [rY,af,Rv,gz,aK,List.length_map];cases n with
 | zero=>rw [if_pos (show ((0:Nat):Int)=0 from rfl)];rfl
 | succ n=>
  rw [if_neg (by omega)];cases h:A.ls[n]? with
  | some l=>
   have hl:n < A.ls.length:=(List.getElem?_eq_some_iff.1 h).1;rw [if_pos (by omega),aif h (by omega),lK h]
  | none=>
   have hl:A.ls.length<=n:=List.getElem?_eq_none_iff.1 h;rw [if_neg (by omega),qE h]
def eF (A:Ask)(n:Nat)(e:Int):Bl × Int:=
 bnd (iK e (dnI (w64 ((eO A n).1*1048576)) 10000) (upI (w64 ((eO A n).2.1*1048576)) 10000)) fun u e1=>
 if (eO A n).2.2=0 then (u,e1) else
 bnd (u9 e1 (eO A n).2.2 10000) fun f e2=>
 if e2=0 then bnd (Ev f) fun t e3=>bnd (two fD e3 u t) fun v e4=>(v,e4)
 else bnd (two fD e2 u f) fun v e4=>(v,e4)
theorem Vv (A:Ask){n:Nat}(hn:n < 1000000)(e:Int){k:Nat->Nat->Int->Int->Option α} :
  xn α e A.ix (A.ls.map rL) A.oi A.ol (n:Int) k=bnd (eF A n e) fun u e=>k u.n1 u.n2 u.r e:=by
 rw [aP];show _=KB k (eF A n e);unfold eF;simp only [xn,af,TA,t9,af,Hf,Ja A hn,ve (d:=10000) (by decide),wm (d:=10000) (by decide),IF,T9,anE,dV,af,ib,AG,gz,gM (KB k),apply_ite (KB k),ant]
def bK (A:Ask)(n:Nat)(e:Int):Bl × Bool × Int:=
 bnd (eF A n e) fun u e1=>
 bnd (iK e1 (dnI (w64 ((w64 (A.ix*A.s1))*1048576)) 100000000) (upI (w64 ((w64 (A.ix*A.s2))*1048576)) 100000000)) fun b e2=>
 bnd (two bD e2 u u) fun v e3=>bnd (two bD e3 b b) fun c e4=>bnd (two jW e4 v c) fun d e5=>
 if (eO A n).2.2=0 then
  iQ (jY e5 d) fun lo hi _ _ e6=>if e6=0 then bnd (jX lo hi) fun q e7=>(q,decide (lo < 0),e7) else (Bl0,false,e6)
 else if e5=0 then bnd (o6 d) fun q e6=>(q,false,e6) else (Bl0,false,e5)
theorem Kf (A:Ask){n:Nat}(hn:n < 1000000)(e:Int){k:Nat->Nat->Int->Bool->Int->Option α} :
  r6 α e A.ix A.s1 A.s2 (A.ls.map rL) A.oi A.ol (n:Int) k=zA (bK A n e) fun u s e=>k u.n1 u.n2 u.r s e:=by
 rw [fx];show _=KN k (bK A n e);unfold bK;simp only [r6,af,Wu,Vv A hn,Ja A hn,ve (d:=100000000) (by decide),wm (d:=100000000) (by decide),IF,kl,Jo,KF,are,atV,dV,af,ib,bo,gM (KN k),ql (KN k),apply_ite (KN k),aK4,DH,Ew,Ow]
def ck (A:Ask)(n:Nat)(e:Int):Bl × Int:=
 zA (bK A n e) fun q _ e1=>if A.pol=0 then (q,e1) else
 bnd (eF A n e1) fun u e2=>bnd (two bD e2 u u) fun v e3=>bnd (two wO e3 v q) fun w e4=>(w,e4)
theorem wF (A:Ask){n:Nat}(hn:n < 1000000)(e:Int){k:Nat->Nat->Int->Int->Option α} :
  jt α e A.ix A.s1 A.s2 A.pol (A.ls.map rL) A.oi A.ol (n:Int) k=bnd (ck A n e) fun u e=>k u.n1 u.n2 u.r e:=by
 rw [aP];show _=KB k (ck A n e);unfold ck;simp only [jt,af,Xh,Kf A hn,Vv A hn,kl,Kv,gz,gM (KB k),yD (KB k),apply_ite (KB k),ant]
def rP (A:Ask)(l:L5)(a b c d e:Int):Q4 × Int:=
 ((dnI (w64 ((w64 (4*pos a))*l.2.2.1)) A.w2,upI (w64 ((w64 (4*pos b))*l.2.2.2.1)) A.w1,dnI (w64 ((w64 (4*pos c))*l.2.2.1)) A.w2,upI (w64 ((w64 (4*pos d))*l.2.2.2.1)) A.w1),e)
def g4 (A:Ask)(l:L5)(n:Nat)(e:Int):Q4 × Int:=
 zA (bK A n e) fun q s e1=>iQ (jY e1 q) fun a b c d e2=>
 if l.2.2.2.2=0 then (if s=true then rP A l 0 0 c d e2 else rP A l a b 0 0 e2) else rP A l a b c d e2
theorem aK8 {A:Ask}{l:L5}{a b c d e:Int}{k:Int->Int->Int->Int->Int->Option α}:KP k (rP A l a b c d e)=
  k (dnI (w64 ((w64 (4*pos a))*l.2.2.1)) A.w2) (upI (w64 ((w64 (4*pos b))*l.2.2.2.1)) A.w1) (dnI (w64 ((w64 (4*pos c))*l.2.2.1)) A.w2) (upI (w64 ((w64 (4*pos d))*l.2.2.2.1)) A.w1) e:=by
 simp only [KP,rP]
theorem apG (A:Ask){i:Nat}{l:L5}(h:A.ls[i]?=some l)(hi:i < 100000)(h1:A.w1 ≠ 0)(h2:A.w2 ≠ 0)(e:Int){k:Int->Int->Int->Int->Int->Option α} :
  CS α e A.ix A.s1 A.s2 A.w1 A.w2 (A.ls.map rL) A.oi A.ol ((i+1:Nat):Int) k=iQ (g4 A l (i+1) e) k:=by
 rw [cV];show _=KP k (g4 A l (i+1) e);unfold g4;simp only [CS,af,VY,vQ,af,Hh,Kf A (n:=i+1) (by omega),KF,aif h (by omega),ve h2,wm h1,UJ,bo,yD (KP k),ql (KP k),apply_ite (KP k),aK8];simp only [oA]
def eA (A:Ask)(l:L5)(n:Nat)(t e:Int):Bl × Int:=
 iQ (g4 A l n e) fun a b c d e1=>if e1=0 then
  (if w64 (w64 (t*b) - w64 (t*a)) < 1048576 then
   bnd (CL (w64 (t*a)) (w64 (t*b))) fun z e2=>if e2=0 then
    kR (jx (w64 (t*c)) (w64 (t*d))) fun p q e3=>if e3=0 then bnd (iK e3 p q) fun s e4=>bnd (two bD e4 z s) fun v e5=>(v,e5) else (Bl0,e3)
   else (Bl0,e2)
  else if e1=0 then
    kR (jx (w64 (t*c)) (w64 (t*d))) fun p q e3=>if e3=0 then bnd (iK e3 p q) fun s e4=>bnd (two bD e4 Blc s) fun v e5=>(v,e5) else (Bl0,e3)
   else (Bl0,e1))
  else (Bl0,e1)
theorem apU (A:Ask){i:Nat}{l:L5}(h:A.ls[i]?=some l)(hi:i < 100000)(h1:A.w1 ≠ 0)(h2:A.w2 ≠ 0)(t e:Int){k:Nat->Nat->Int->Int->Option α} :
  xN α e A.ix A.s1 A.s2 A.w1 A.w2 (A.ls.map rL) A.oi A.ol ((i+1:Nat):Int) t k=bnd (eA A l (i+1) t e) fun u e=>k u.n1 u.n2 u.r e:=by
 rw [aP];show _=KB k (eA A l (i+1) t e);unfold eA;simp only [xN,af,Zn,v8,af,HN,apG A h hi h1 h2,atq,asp,IF,kl,ay8,dV,af,ib,bo,aK,gM (KB k),ql (KB k),xe (KB k),apply_ite (KB k),ant,DH,Ew,Ow]
def ya (e:Int)(y g:Bl):Mt × Int:=
 bnd (u9 e 1 2) fun h e1=>bnd (two fD e1 Bl1 g) fun a e2=>bnd (two bD e2 a h) fun u e3=>
 bnd (two jW e3 Bl1 g) fun b e4=>bnd (two bD e4 b h) fun c e5=>bnd (two wO e5 c y) fun v e6=>bnd (two bD e6 c y) fun w e7=>((u,v,w,u),e7)
theorem ane (e:Int)(y g:Bl){k:Nat->Nat->Int->Nat->Nat->Int->Nat->Nat->Int->Nat->Nat->Int->Int->Option α} :
  yk α e y.n1 y.n2 y.r g.n1 g.n2 g.r k=nZ (ya e y g) fun m e=>k m.1.n1 m.1.n2 m.1.r m.2.1.n1 m.2.1.n2 m.2.1.r m.2.2.1.n1 m.2.2.1.n2 m.2.2.1.r m.2.2.2.n1 m.2.2.2.n2 m.2.2.2.r e:=by
 rw [vR];show _=KMt k (ya e y g);unfold ya;simp only [yk,af,V8,mJ,af,KM,T9,akd,agS,kl,Kv,gM (KMt k),avU]
def yQ (e:Int)(p m:Mt):Mt × Int:=
 bnd (two bD e p.1 m.1) fun a1 e1=>bnd (two bD e1 p.2.1 m.2.2.1) fun a2 e2=>bnd (two fD e2 a1 a2) fun a e3=>
 bnd (two bD e3 p.1 m.2.1) fun b1 e4=>bnd (two bD e4 p.2.1 m.2.2.2) fun b2 e5=>bnd (two fD e5 b1 b2) fun b e6=>
 bnd (two bD e6 p.2.2.1 m.1) fun c1 e7=>bnd (two bD e7 p.2.2.2 m.2.2.1) fun c2 e8=>bnd (two fD e8 c1 c2) fun c e9=>
 bnd (two bD e9 p.2.2.1 m.2.1) fun d1 e10=>bnd (two bD e10 p.2.2.2 m.2.2.2) fun d2 e11=>bnd (two fD e11 d1 d2) fun d e12=>((a,b,c,d),e12)
theorem anH (e:Int)(p m:Mt){k:Nat->Nat->Int->Nat->Nat->Int->Nat->Nat->Int->Nat->Nat->Int->Int->Option α} :
  xj α e p.1.n1 p.1.n2 p.1.r p.2.1.n1 p.2.1.n2 p.2.1.r p.2.2.1.n1 p.2.2.1.n2 p.2.2.1.r p.2.2.2.n1 p.2.2.2.n2 p.2.2.2.r
   m.1.n1 m.1.n2 m.1.r m.2.1.n1 m.2.1.n2 m.2.1.r m.2.2.1.n1 m.2.2.1.n2 m.2.2.1.r m.2.2.2.n1 m.2.2.2.n2 m.2.2.2.r k=
   nZ (yQ e p m) fun m e=>k m.1.n1 m.1.n2 m.1.r m.2.1.n1 m.2.1.n2 m.2.1.r m.2.2.1.n1 m.2.2.1.n2 m.2.2.1.r m.2.2.2.n1 m.2.2.2.n2 m.2.2.2.r e:=by
 rw [vR];show _=KMt k (yQ e p m);unfold yQ;simp only [xj,af,S3,kl,AG,gM (KMt k),avU]
def zr (A:Ask)(fs:Bool):List L5->Nat->Mt->Bl->Int->(Mt × Bl) × Int
 | [],_,p,a,e=>((p,a),e)
 | l::ls,n,p,a,e=>if e=0 then
   bnd (ck A n e) fun y e1=>bnd (eA A l n 2 e1) fun g e2=>
   if fs=true then
    bnd (eA A l n 1 e2) fun h e3=>bnd (two bD e3 a h) fun b e4=>nZ (ya e4 y g) fun m e5=>nZ (yQ e5 p m) fun q e6=>zr A fs ls (n+1) q b e6
   else nZ (ya e2 y g) fun m e3=>nZ (yQ e3 p m) fun q e4=>zr A fs ls (n+1) q a e4
  else ((p,a),e)
theorem Hw (A:Ask)(fs:Bool)(l:L5)(ls:List L5)(n:Nat)(p:Mt)(a:Bl)(e:Int):zr A fs (l::ls) n p a e=if e=0 then
   bnd (ck A n e) fun y e1=>bnd (eA A l n 2 e1) fun g e2=>
   if fs=true then
    bnd (eA A l n 1 e2) fun h e3=>bnd (two bD e3 a h) fun b e4=>nZ (ya e4 y g) fun m e5=>nZ (yQ e5 p m) fun q e6=>zr A fs ls (n+1) q b e6
   else nZ (ya e2 y g) fun m e3=>nZ (yQ e3 p m) fun q e4=>zr A fs ls (n+1) q a e4
  else ((p,a),e):=rfl
def KTh (k:Nat->Nat->Int->Nat->Nat->Int->Nat->Nat->Int->Nat->Nat->Int->Nat->Nat->Int->Int->Option α)(u:(Mt × Bl) × Int):Option α:=
 k u.1.1.1.n1 u.1.1.1.n2 u.1.1.1.r u.1.1.2.1.n1 u.1.1.2.1.n2 u.1.1.2.1.r u.1.1.2.2.1.n1 u.1.1.2.2.1.n2 u.1.1.2.2.1.r u.1.1.2.2.2.n1 u.1.1.2.2.2.n2 u.1.1.2.2.2.r u.1.2.n1 u.1.2.n2 u.1.2.r u.2
theorem aHu {k:Nat->Nat->Int->Nat->Nat->Int->Nat->Nat->Int->Nat->Nat->Int->Nat->Nat->Int->Int->Option α}{m:Mt}{a:Bl}{e:Int} :
  KTh k ((m,a),e)=k m.1.n1 m.1.n2 m.1.r m.2.1.n1 m.2.1.n2 m.2.1.r m.2.2.1.n1 m.2.2.1.n2 m.2.2.1.r m.2.2.2.n1 m.2.2.2.n2 m.2.2.2.r a.n1 a.n2 a.r e:=rfl
theorem asr {A:Ask}{fs:Bool}(hA:A.ls.length<=40)(h1:A.w1 ≠ 0)(h2:A.w2 ≠ 0)
  {K:Nat->Nat->Int->Nat->Nat->Int->Nat->Nat->Int->Nat->Nat->Int->Nat->Nat->Int->Int->Option α}
  {k1:Int->Bool->Int->Nat->Nat->Int->Nat->Nat->Int->Nat->Nat->Int->Nat->Nat->Int->Nat->Nat->Int->Option α}
  (hk:∀ x b (m:Mt) (a:Bl) e,k1 x b e m.1.n1 m.1.n2 m.1.r m.2.1.n1 m.2.1.n2 m.2.1.r m.2.2.1.n1 m.2.2.1.n2 m.2.2.1.r m.2.2.2.n1 m.2.2.2.n2 m.2.2.2.r a.n1 a.n2 a.r=KTh K ((m,a),e)) :
  ∀ (rest:List L5) (i n:Nat) (m:Mt) (a:Bl) (e:Int),A.ls.drop i=rest->i<=A.ls.length->rest.length < n ->
  lO α fs A.ix A.s1 A.s2 A.pol A.w1 A.w2 (A.ls.map rL) A.oi A.ol k1 n ((i+1:Nat):Int) e m.1.n1 m.1.n2 m.1.r m.2.1.n1 m.2.1.n2 m.2.1.r m.2.2.1.n1 m.2.2.1.n2 m.2.2.1.r m.2.2.2.n1 m.2.2.2.n2 m.2.2.2.r a.n1 a.n2 a.r=
   KTh K (zr A fs rest (i+1) m a e):=by
 intro rest
 induction rest with
 | nil=>
  intro i n m a e hd hi hn;obtain⟨n,rfl⟩:∃ n',n=n'+1:=⟨n - 1,by simp only [List.length_nil] at hn;omega⟩
  have hl:A.ls.length<=i:=List.drop_eq_nil_iff.1 hd;simp only [lO,pn,List.length_map];rw [decide_eq_false (by omega),al,hk];rfl
 | cons l ls ih=>
  intro i n m a e hd hi hn;obtain⟨n,rfl⟩:∃ n',n=n'+1:=⟨n - 1,by omega⟩
  have hl:i < A.ls.length:=by
   by_cases h:i < A.ls.length
   ·exact h
   ·rw [List.drop_eq_nil_of_le (by omega)] at hd;cases hd
  have hg:A.ls[i]?=some l:=by
   have:=congrArg List.head? hd;rw [List.head?_drop] at this;exact this
  have hd':A.ls.drop (i+1)=ls:=by
   have:=congrArg List.tail hd;rw [List.tail_drop] at this;exact this
  have hw:w64 (((i+1:Nat):Int)+1)=((i+1+1:Nat):Int):=by rw [aj (by omega) (by omega)];omega
  have hi1:i+1 < 1000000:=by omega
  have hi2:i < 100000:=by omega
  have hn':ls.length < n:=by simp only [List.length_cons] at hn;omega
  have ih':∀ (m:Mt) (a:Bl) (e:Int),_:=fun m a e=>ih (i+1) n m a e hd' (by omega) hn';simp only [lO,pn,List.length_map];rw [decide_eq_true (by omega),ap];simp only [nN,af,Gr,wF A hi1,apU A hg hi2 h1 h2,kl,ane,anH,hw,ih',hk];rw [Hw];simp only [gz,apply_ite (KTh K),gM (KTh K),aba (KTh K),aHu];simp only [oA]
def fL (A:Ask)(fs:Bool)(e:Int):(Mt × Bl) × Int:=zr A fs A.ls 1 (Bl1,Bl0,Bl0,Bl1) Bl1 e
theorem aqG (A:Ask)(fs:Bool)(hA:A.ls.length<=40)(h1:A.w1 ≠ 0)(h2:A.w2 ≠ 0)(e:Int)
  {k:Nat->Nat->Int->Nat->Nat->Int->Nat->Nat->Int->Nat->Nat->Int->Nat->Nat->Int->Int->Option α} :
  Cp α e A.ix A.s1 A.s2 A.pol A.w1 A.w2 (A.ls.map rL) A.oi A.ol fs k=aic (fL A fs e) fun m a e=>
   k m.1.n1 m.1.n2 m.1.r m.2.1.n1 m.2.1.n2 m.2.1.r m.2.2.1.n1 m.2.2.1.n2 m.2.2.1.r m.2.2.2.n1 m.2.2.2.n2 m.2.2.2.r a.n1 a.n2 a.r e:=by
 rw [RL];show _=KTh k (fL A fs e);have hf:A.ls.length < aE:=by have:=bz;omega
 have:=asr (α:=α) (A:=A) (fs:=fs) hA h1 h2 (K:=k) (k1:=fun _ _ e a b c d e' f g h i j l m n o p=>k a b c d e' f g h i j l m n o p e) (fun _ _ _ _ _=>rfl) A.ls 0 aE (Bl1,Bl0,Bl0,Bl1) Bl1 e rfl (Nat.zero_le _) hf;simp only [Po,PC,aiP,DH,Ew,Ow] at this;simp only [Cp,af,So,mJ,af,KM,BE,af,Wv,uf,af,H0];exact this
def eK (A:Ask)(tr:Bool)(e:Int):Bl × Int:=
 bnd (ck A 0 e) fun f e1=>aic (fL A tr e1) fun p g e2=>bnd (ck A (A.ls.length+1) e2) fun l e3=>
 bnd (two bD e3 p.2.1 l) fun t1 e4=>bnd (two fD e4 p.1 t1) fun b e5=>bnd (two bD e5 p.2.2.2 l) fun t2 e6=>bnd (two fD e6 p.2.2.1 t2) fun c e7=>
 bnd (two bD e7 f b) fun a e8=>bnd (two fD e8 a c) fun d e9=>
 if tr=true then bnd (two fD e9 f f) fun s e10=>bnd (two bD e10 s g) fun z e11=>bnd (two wO e11 z d) fun v e12=>(v,e12)
 else bnd (two jW e9 a c) fun z e10=>bnd (two wO e10 z d) fun v e11=>(v,e11)
theorem aq4 (A:Ask)(tr:Bool)(hA:A.ls.length<=40)(h1:A.w1 ≠ 0)(h2:A.w2 ≠ 0)(e:Int){k:Nat->Nat->Int->Int->Option α} :
  xF α e A.ix A.s1 A.s2 A.pol A.w1 A.w2 (A.ls.map rL) A.oi A.ol tr k=bnd (eK A tr e) fun u e=>k u.n1 u.n2 u.r e:=by
 rw [aP];show _=KB k (eK A tr e);have hw:w64 ((A.ls.length:Int)+1)=((A.ls.length+1:Nat):Int):=by rw [aj (by omega) (by omega)];omega
 have hl:A.ls.length+1 < 1000000:=by omega
 have h0:∀ (e:Int) (k:Nat->Nat->Int->Int->Option α),jt α e A.ix A.s1 A.s2 A.pol (A.ls.map rL) A.oi A.ol 0 k=bnd (ck A 0 e) fun u e=>k u.n1 u.n2 u.r e:=fun e k=>wF A (n:=0) (by decide) e;unfold eK;simp only [xF,af,QS,List.length_map,hw,h0,wF A hl,aqG A tr hA h1 h2,kl,AG,Jo,Kv,gM (KB k),abH (KB k),apply_ite (KB k),ant];simp only [oA]
def lsy (A:Ask):Nat->Nat->Bool
 | 0,_=>false
 | m+1,n=>if (eO A n).2.2=0 then lsy A m (n+1) else true
theorem aoI {A:Ask}(hA:A.ls.length<=40){k1 Y:Option α}{k2:Int->Bool->Option α}(hk:∀ x b,k2 x b=Y) :
  ∀ (m n f:Nat),n+m=A.ls.length+2->m < f->l9 α ((A.ls.length+2:Nat):Int) A.ix (A.ls.map rL) A.oi A.ol k1 k2 f (n:Int)=if lsy A m n=true then k1 else Y:=by
 intro m
 induction m with
 | zero=>
  intro n f h hf;obtain⟨f,rfl⟩:∃ f',f=f'+1:=⟨f - 1,by omega⟩
  rw [l9];simp only [pm];rw [decide_eq_false (by omega),al,hk];rfl
 | succ m ih=>
  intro n f h hf;obtain⟨f,rfl⟩:∃ f',f=f'+1:=⟨f - 1,by omega⟩
  rw [l9];simp only [pm];rw [decide_eq_true (by omega),ap,Ja A (by omega),bo];have hw:w64 ((n:Int)+1)=((n+1:Nat):Int):=by rw [aj (by omega) (by omega)];omega
  rw [hw,ih (n+1) f (by omega) (by omega)];unfold lsy;by_cases c:(eO A n).2.2=0
  ·rw [if_pos c,if_pos c]
   cases m <;> rfl
  ·rw [if_neg c,if_neg c,if_pos rfl]
def Nc (A:Ask):Bool:=lsy A (A.ls.length+2) 0
theorem aoL (A:Ask)(hA:A.ls.length<=40){k:Bool->Option α}:n7 α A.ix (A.ls.map rL) A.oi A.ol k=if Nc A=true then k true else k false:=by
 have hw:w64 ((A.ls.length:Int)+2)=((A.ls.length+2:Nat):Int):=by rw [aj (by omega) (by omega)];omega
 have hf:A.ls.length+2 < aE:=by have:=bz;omega
 simp only [n7,af,Sl,List.length_map,hw,uJ,af,G3];exact aoI hA (fun _ _=>rfl) (A.ls.length+2) 0 aE (by omega) hf
theorem pY {n lo hi:Int}{k:Bool->Option α}:ov α n lo hi k=k (decide (lo<=n/\n<=hi)):=by
 simp only [ov,af,air];by_cases h:lo<=n
 ·rw [decide_eq_true h,ap]
  by_cases h2:n<=hi
  ·rw [decide_eq_true h2,decide_eq_true ⟨h,h2⟩]
  ·rw [decide_eq_false h2,decide_eq_false (fun q=>h2 q.2)]
 ·rw [decide_eq_false h,al,decide_eq_false (fun q=>h q.1)]
theorem cI {p:Prop}[Decidable p]{a b:Option α}:cK (!decide p) a b=if p then b else a:=by
 by_cases h:p
 ·rw [if_pos h,decide_eq_true h];rfl
 ·rw [if_neg h,decide_eq_false h];rfl
def fJ (lo hi a b:Int):Int:=if (a<=lo/\lo<=b)/\a<=hi/\hi<=b then (if hi < lo then 10 else 0) else 2
theorem asI {lo hi:Int}{k:Int->Option α}:ES α lo hi k=k (fJ lo hi 0 9999):=by
 simp only [ES,af,Yd,wr,af,FZ,Ei,af,Rl,pY,cI];unfold fJ;by_cases h1:(0:Int)<=lo/\lo<=9999
 ·rw [if_pos h1]
  by_cases h2:(0:Int)<=hi/\hi<=9999
  ·rw [if_pos h2,aK,if_pos (And.intro h1 h2)]
   by_cases h3:hi < lo
   ·rw [if_pos h3,if_pos h3]
   ·rw [if_neg h3,if_neg h3]
  ·rw [if_neg h2,if_neg (fun h=>h2 h.2)]
 ·rw [if_neg h1,ap,if_neg (fun h=>h1 h.1)]
theorem aaA {lo hi:Int}{k:Int->Option α}:Es α lo hi k=k (fJ lo hi 1000 200000):=by
 simp only [Es,af,XX,v7,af,GM,DB,af,XB,pY,cI];unfold fJ;by_cases h1:(1000:Int)<=lo/\lo<=200000
 ·rw [if_pos h1]
  by_cases h2:(1000:Int)<=hi/\hi<=200000
  ·rw [if_pos h2,aK,if_pos (And.intro h1 h2)]
   by_cases h3:hi < lo
   ·rw [if_pos h3,if_pos h3]
   ·rw [if_neg h3,if_neg h3]
  ·rw [if_neg h2,if_neg (fun h=>h2 h.2)]
 ·rw [if_neg h1,ap,if_neg (fun h=>h1 h.1)]
def aaR (l:L5):Bool:=decide (((5000<=l.1/\l.1<=80000)/\5000<=l.2.1/\l.2.1<=80000)/\((0<=l.2.2.1/\l.2.2.1<=1000000)/\0<=l.2.2.2.1/\l.2.2.2.1<=1000000)/\0<=l.2.2.2.2/\l.2.2.2.2<=80000)
def uC (l:L5):Int:=if aaR l=true then (if l.2.1 < l.1 then 10 else if l.2.2.2.1 < l.2.2.1 then 10 else 0) else 2
theorem azw (l:L5){k:Bool->Option α}:qw α l.1 l.2.1 l.2.2.1 l.2.2.2.1 l.2.2.2.2 k=if aaR l=true then k false else k true:=by
 simp only [qw,af,NX,ro,af,Iv,CM,af,Pt,y8,af,KL,pY,cI];unfold aaR;by_cases h1:5000<=l.1/\l.1<=80000
 ·rw [if_pos h1]
  by_cases h2:5000<=l.2.1/\l.2.1<=80000
  ·rw [if_pos h2]
   by_cases h3:0<=l.2.2.1/\l.2.2.1<=1000000
   ·rw [if_pos h3]
    by_cases h4:0<=l.2.2.2.1/\l.2.2.2.1<=1000000
    ·rw [if_pos h4]
     by_cases h5:0<=l.2.2.2.2/\l.2.2.2.2<=80000
     ·rw [decide_eq_true h5,if_pos (decide_eq_true ⟨⟨h1,h2⟩,⟨h3,h4⟩,h5⟩)];rfl
     ·rw [decide_eq_false h5,if_neg (fun h=>h5 (of_decide_eq_true h).2.2)];rfl
    ·rw [if_neg h4,if_neg (fun h=>h4 (of_decide_eq_true h).2.1.2)]
   ·rw [if_neg h3,if_neg (fun h=>h3 (of_decide_eq_true h).2.1.1)]
  ·rw [if_neg h2,if_neg (fun h=>h2 (of_decide_eq_true h).1.2)]
 ·rw [if_neg h1,if_neg (fun h=>h1 (of_decide_eq_true h).1.1)]
def lsE:List L5->Int
 | []=>0
 | l::ls=>if uC l=0 then lsE ls else uC l
theorem ax4 {ls:List L5}(hA:ls.length<=40){k1:Int->Int->Option α}{k2:Int->Bool->Option α}{Y:Option α}{K:Int->Option α}(h1:∀ x e,k1 x e=K e)(h2:∀ x b,k2 x b=Y) :
  ∀ (rest:List L5) (i n:Nat),ls.drop i=rest->i<=ls.length->rest.length < n ->
  p9 α (ls.map rL) (ls.length:Int) k1 k2 n (i:Int)=if lsE rest=0 then Y else K (lsE rest):=by
 intro rest
 induction rest with
 | nil=>
  intro i n hd hi hn;obtain⟨n,rfl⟩:∃ n',n=n'+1:=⟨n - 1,by simp only [List.length_nil] at hn;omega⟩
  have hl:ls.length<=i:=List.drop_eq_nil_iff.1 hd;rw [p9];simp only [uE];rw [decide_eq_false (by omega),al,h2];rfl
 | cons l rs ih=>
  intro i n hd hi hn;obtain⟨n,rfl⟩:∃ n',n=n'+1:=⟨n - 1,by omega⟩
  have hl:i < ls.length:=by
   by_cases h:i < ls.length
   ·exact h
   ·rw [List.drop_eq_nil_of_le (by omega)] at hd;cases hd
  have hg:ls[i]?=some l:=by
   have:=congrArg List.head? hd;rw [List.head?_drop] at this;exact this
  have hd':ls.drop (i+1)=rs:=by
   have:=congrArg List.tail hd;rw [List.tail_drop] at this;exact this
  have hw:w64 ((i:Int)+1)=((i+1:Nat):Int):=by rw [aj (by omega) (by omega)];omega
  have hn':rs.length < n:=by simp only [List.length_cons] at hn;omega
  rw [p9];simp only [uE];rw [decide_eq_true (by omega),ap,PH hg,azw];simp only [ap,al,aK,h1,hw];rw [ih (i+1) n hd' (by omega) hn'];unfold lsE uC;by_cases c1:aaR l=true
  ·simp only [if_pos c1]
   by_cases c2:l.2.1 < l.1
   ·simp only [if_pos c2];rfl
   ·simp only [if_neg c2]
    by_cases c3:l.2.2.2.1 < l.2.2.1
    ·simp only [if_pos c3];rfl
    ·simp only [if_neg c3,if_true]
     cases rs <;> rfl
  ·simp only [if_neg c1];rfl
def ckA (A:Ask):Int:=
 if 5000<=A.ix/\A.ix<=80000 then
  if fJ A.s1 A.s2 0 9999=0 then
   if 0<=A.pol/\A.pol<=1 then
    if fJ A.w1 A.w2 1000 200000=0 then
     if 40 < (A.ls.length:Int) then 8 else
     if lsE A.ls=0 then
      if 5000<=A.oi/\A.oi<=80000 then (if 0<=A.ol/\A.ol<=80000 then 0 else 2) else 2
     else lsE A.ls
    else fJ A.w1 A.w2 1000 200000
   else 11
  else fJ A.s1 A.s2 0 9999
 else 2
theorem adO (A:Ask){k:Int->Option α}:Fu α A.ix A.s1 A.s2 A.pol A.w1 A.w2 (A.ls.map rL) A.oi A.ol (fun _ e=>k e)=k (ckA A):=by
 simp only [Fu,af,agn,ro,af,Iv,y8,af,KL,pY,cI,asI,aaA,bo,aK,List.length_map];unfold ckA;split
 ·split
  ·split
   ·split
    ·split
     ·rfl
     ·rename_i h
      have hf:A.ls.length < aE:=by have:=bz;omega
      rw [zN,af,Ov];refine (ax4 (K:=k) (by omega) (fun _ _=>rfl) (fun _ _=>rfl) A.ls 0 aE rfl (Nat.zero_le _) hf).trans ?_;by_cases c:lsE A.ls=0
      ·rw [if_pos c,if_pos c]
       split
       ·split <;> rfl
       ·rfl
      ·rw [if_neg c,if_neg c]
    ·rfl
   ·rfl
  ·rfl
 ·rfl
theorem JH {lo hi a b:Int}(h:fJ lo hi a b=0):(a<=lo/\lo<=b)/\(a<=hi/\hi<=b)/\lo<=hi:=by
 unfold fJ at h;split at h
 ·rename_i g
  split at h
  ·cases h
  ·omega
 ·cases h
theorem jA {A:Ask}(h:ckA A=0):(5000<=A.ix/\A.ix<=80000)/\fJ A.s1 A.s2 0 9999=0/\(0<=A.pol/\A.pol<=1)/\fJ A.w1 A.w2 1000 200000=0/\A.ls.length<=40/\lsE A.ls=0/\(5000<=A.oi/\A.oi<=80000)/\0<=A.ol/\A.ol<=80000:=by
 unfold ckA at h;by_cases c1:5000<=A.ix/\A.ix<=80000
 ·rw [if_pos c1] at h
  by_cases c2:fJ A.s1 A.s2 0 9999=0
  ·rw [if_pos c2] at h
   by_cases c3:0<=A.pol/\A.pol<=1
   ·rw [if_pos c3] at h
    by_cases c4:fJ A.w1 A.w2 1000 200000=0
    ·rw [if_pos c4] at h
     by_cases c5:40 < (A.ls.length:Int)
     ·rw [if_pos c5] at h;cases h
     ·rw [if_neg c5] at h
      by_cases c6:lsE A.ls=0
      ·rw [if_pos c6] at h
       by_cases c7:5000<=A.oi/\A.oi<=80000
       ·rw [if_pos c7] at h
        by_cases c8:0<=A.ol/\A.ol<=80000
        ·exact⟨c1,c2,c3,c4,by omega,c6,c7,c8⟩
        ·rw [if_neg c8] at h;cases h
       ·rw [if_neg c7] at h;cases h
      ·rw [if_neg c6] at h;exact absurd h c6
    ·rw [if_neg c4] at h;exact absurd h c4
   ·rw [if_neg c3] at h;cases h
  ·rw [if_neg c2] at h;exact absurd h c2
 ·rw [if_neg c1] at h;cases h
abbrev Q6:=Int × Int × Int × Int × Int × Int
def KS (k:Int->Int->Int->Int->Int->Int->Int->Option α)(u:Q6 × Int):Option α:=k u.1.1 u.1.2.1 u.1.2.2.1 u.1.2.2.2.1 u.1.2.2.2.2.1 u.1.2.2.2.2.2 u.2
theorem aEL {k:Int->Int->Int->Int->Int->Int->Int->Option α}{a b c d e f g:Int}:KS k ((a,b,c,d,e,f),g)=k a b c d e f g:=rfl
def iy (x:Int):Int:=if 1048576 < x then 1048576 else x
def Nu (x y:Int):Int:=pos (w64 (w64 (1048576 - x) - y))
theorem Zi {x y:Int}{k:Int->Int->Option α}:yC α x y k=k (iy x) (iy y):=by rw [yC,af,W5];rfl
theorem apg {a b c d:Int}{k:Int->Int->Option α}:od α a b c d k=k (Nu b d) (Nu a c):=by rw [od,af,UZ];rfl
def CR (A:Ask)(st:Bool)(a b c d:Int):Q6 × Int:=
 if st=true then (if Nc A=true then ((a,b,0,0,Nu b 0,Nu a 0),0) else ((a,b,0,0,0,0),0))
 else (if Nc A=true then ((a,b,c,d,Nu b d,Nu a c),0) else ((a,b,c,d,0,0),0))
def z6:Q6:=(0,0,0,0,0,0)
def gL (A:Ask):Q6 × Int:=
 if ckA A=0 then
  bnd (eK A false 0) fun r e1=>bnd (eK A true e1) fun t e2=>bnd (ck A (A.ls.length+1) e2) fun l e3=>
  iQ (jY e3 l) fun ul uh _ _ e4=>bnd (ck A 0 e4) fun f e5=>iQ (jY e5 f) fun fl fh _ _ e6=>
  zA (bK A (A.ls.length+1) e6) fun _ st e7=>
  if e7=0 then
   if fl<=0 then (z6,9) else
   kR (nD r) fun bl bh e8=>if e8=0 then
    kR (nD t) fun tl th e9=>if e9=0 then
     CR A st (iy bl) (iy bh) (iy (dnI (w64 (pos ul*tl)) fh)) (iy (upI (w64 (pos uh*th)) fl))
    else (z6,e9)
   else (z6,e8)
  else (z6,e7)
 else (z6,ckA A)
theorem rd {β:Type}{u:Bl × Int}{f g:Bl->Int->β}(h:∀ a e,f a e=g a e):bnd u f=bnd u g:=by rw [aP,aP,h]
theorem O7 {β:Type}{u:Q4 × Int}{f g:Int->Int->Int->Int->Int->β}(h:∀ a b c d e,f a b c d e=g a b c d e):iQ u f=iQ u g:=by rw [cV,cV,h]
theorem D9 {β:Type}{u:Int × Int × Int}{f g:Int->Int->Int->β}(h:∀ a b c,f a b c=g a b c):kR u f=kR u g:=by rw [kt,kt,h]
theorem PV {β:Type}{u:Bl × Bool × Int}{f g:Bl->Bool->Int->β}(h:∀ a b c,f a b c=g a b c):zA u f=zA u g:=by rw [fx,fx,h]
theorem am0 {e:Int}{a:Bl}(h:0 < (jY e a).1.1):(jY e a).1.2.1 ≠ 0:=by
 have g:=a.bd;unfold jY at *;by_cases c:e=0
 ·rw [if_pos c] at *
  unfold Bl.lo1 at h;show a.hi1 ≠ 0;unfold Bl.hi1;have h':0 < a.b.1 - a.b.2.2:=h;omega
 ·rw [if_neg c] at *
  exact absurd h (Int.lt_irrefl 0)
theorem akI {β:Type}{e:Int}{a:Bl}{f g:Int->Int->Int->Int->Int->β}(h:∀ x y c d e,(0 < x->y ≠ 0)->f x y c d e=g x y c d e):iQ (jY e a) f=iQ (jY e a) g:=by
 rw [cV,cV];exact h _ _ _ _ _ am0
theorem aym (A:Ask)(hA:A.ls.length<=40){st:Bool}{a b c d:Int}{k:Int->Int->Int->Int->Int->Int->Int->Option α} :
  be α st (n7 α A.ix (A.ls.map rL) A.oi A.ol fun x=>cK x (od α a b 0 0 fun x82 x83=>k a b 0 0 x82 x83 0) (k a b 0 0 0 0 0))
   (n7 α A.ix (A.ls.map rL) A.oi A.ol fun x=>cK x (od α a b c d fun x85 x86=>k a b c d x85 x86 0) (k a b c d 0 0 0))=KS k (CR A st a b c d):=by
 simp only [be,af,fu,aoL A hA,apg,ap,al];unfold CR;simp only [apply_ite (KS k),aEL];simp only [oA]
theorem aua (A:Ask){k:Int->Int->Int->Int->Int->Int->Int->Option α} :
  DP α A.ix A.s1 A.s2 A.pol A.w1 A.w2 (A.ls.map rL) A.oi A.ol k=KS k (gL A):=by
 simp only [DP,af,TI,JB,af,UW,adO,bo];unfold gL;by_cases c:ckA A=0
 ·rw [if_pos c,if_pos c]
  obtain⟨_,_,_,hw,hA,_⟩:=jA c;have hw':=JH hw;have h1:A.w1 ≠ 0:=by omega
  have h2:A.w2 ≠ 0:=by omega
  have hww:w64 ((A.ls.length:Int)+1)=((A.ls.length+1:Nat):Int):=by rw [aj (by omega) (by omega)];omega
  have hl:A.ls.length+1 < 1000000:=by omega
  have h0:∀ (e:Int) (k:Nat->Nat->Int->Int->Option α),jt α e A.ix A.s1 A.s2 A.pol (A.ls.map rL) A.oi A.ol 0 k=bnd (ck A 0 e) fun u e=>k u.n1 u.n2 u.r e:=fun e k=>wF A (n:=0) (by decide) e;simp only [List.length_map,hww,h0,aq4 A _ hA h1 h2,wF A hl,Kf A hl,KF,gM (KS k),ql (KS k),yD (KS k)];refine rd fun r e1=>rd fun t e2=>rd fun l e3=>O7 fun ul uh _ _ e4=>rd fun f e5=>akI fun fl fh _ _ e6 hf=>PV fun _ st e7=>?_;by_cases c7:e7=0
  ·rw [if_pos c7,if_pos c7,aK]
   by_cases cf:fl<=0
   ·rw [if_pos cf,if_pos cf];rfl
   ·rw [if_neg cf,if_neg cf,XY,xe (KS k)]
    refine D9 fun bl bh e8=>?_;by_cases c8:e8=0
    ·rw [if_pos c8,if_pos c8,XY,xe (KS k)]
     refine D9 fun tl th e9=>?_;by_cases c9:e9=0
     ·rw [if_pos c9,if_pos c9,UJ,Zi,ve (hf (by omega)),wm (by omega),Zi]
      exact aym A hA
     ·rw [if_neg c9,if_neg c9];rfl
    ·rw [if_neg c8,if_neg c8];rfl
  ·rw [if_neg c7,if_neg c7];rfl
 ·rw [if_neg c,if_neg c];rfl
theorem aw4 (a:Bl):(0<=(nD a).1/\(nD a).1<=8589934592)/\0<=(nD a).2.1/\(nD a).2.1<=34359738368:=by
 have g:=a.bd;have d:=a.dn_bd;have u:=a.up_bd;show (0<=a.eLo/\a.eLo<=8589934592)/\0<=a.eHi/\a.eHi<=34359738368;unfold Bl.eLo Bl.eHi cdv;simp only [];have hz:∀ z B:Int,0<=z->z<=B->0<=z*z/\z*z<=B*B:=fun z B h1 h2=>
  ⟨Int.mul_nonneg h1 h1,Int.mul_le_mul h2 h2 h1 (by omega)⟩
 have h1:=hz (if a.dn - a.b.2.2 > 0 then a.dn - a.b.2.2 else 0) 94906265 (by split <;> omega) (by split <;> omega);have h2:=hz (a.up+a.b.2.2) 162015130 (by omega) (by omega);generalize (if a.dn - a.b.2.2 > 0 then a.dn - a.b.2.2 else 0)=z1 at *;generalize a.up+a.b.2.2=z2 at *;generalize z1*z1=y1 at *;generalize z2*z2=y2 at *;omega
theorem Pm {x:Int}(h:x<=134217728):0<=pos x/\pos x<=134217728:=by unfold pos;split <;> omega
structure Dm where
 sh:Int
 pol:Int
 ix:Int
 s1:Int
 s2:Int
 w1:Int
 w2:Int
 lo:Int
 hi:Int
abbrev rD (d:Dm):List DC:=[.v (.int .i64 d.sh),.v (.int .i64 d.pol),.v (.int .i64 d.ix),.v (.int .i64 d.s1),.v (.int .i64 d.s2),.v (.int .i64 d.w1),.v (.int .i64 d.w2),.v (.int .i64 d.lo),.v (.int .i64 d.hi)]
theorem rx {ds:List Dm}{i:Nat}{d:Dm}(h:ds[i]?=some d){f:Int->Int->Int->Int->Int->Int->Int->Int->Int->Option α} :
  dT (ds.map rD) (i:Int) [.int .i64,.int .i64,.int .i64,.int .i64,.int .i64,.int .i64,.int .i64,.int .i64,.int .i64] f=f d.sh d.pol d.ix d.s1 d.s2 d.w1 d.w2 d.lo d.hi:=by
 refine (o5 (r:=rD d) ?_).trans rfl;rw [List.getElem?_map,h];rfl
theorem JV {n lo hi:Int}{k:Bool->Option α}:pf α n lo hi k=k (decide (lo<=n/\n<=hi)):=by
 simp only [pf,af,ahr];by_cases h:lo<=n
 ·rw [decide_eq_true h,ap]
  by_cases h2:n<=hi
  ·rw [decide_eq_true h2,decide_eq_true ⟨h,h2⟩]
  ·rw [decide_eq_false h2,decide_eq_false (fun q=>h2 q.2)]
 ·rw [decide_eq_false h,al,decide_eq_false (fun q=>h q.1)]
theorem Cc {p q:Prop}[Decidable p][Decidable q]{k:Bool->Option α}:cK (decide p) (k (decide q)) (k false)=k (decide (p/\q)):=by
 by_cases h:p
 ·rw [decide_eq_true h,ap]
  by_cases h2:q
  ·rw [decide_eq_true h2,decide_eq_true ⟨h,h2⟩]
  ·rw [decide_eq_false h2,decide_eq_false (fun q=>h2 q.2)]
 ·rw [decide_eq_false h,al,decide_eq_false (fun q=>h q.1)]
theorem ahX {p q:Prop}[Decidable p][Decidable q]{k:Bool->Option α}:cK (!decide p) (k true) (k (!decide q))=k (!decide (p/\q)):=by
 by_cases h:p
 ·rw [decide_eq_true h,Bool.not_true,al]
  by_cases h2:q
  ·rw [decide_eq_true h2,decide_eq_true ⟨h,h2⟩]
  ·rw [decide_eq_false h2,decide_eq_false (fun q=>h2 q.2)]
 ·rw [decide_eq_false h,Bool.not_false,ap,decide_eq_false (fun q=>h q.1),Bool.not_false]
theorem Uv {a b lo hi:Int}{k:Bool->Option α}:yN α a b lo hi k=k (decide ((lo<=a/\a<=hi)/\lo<=b/\b<=hi)):=by
 simp only [yN,af,YI,JV,Cc]
theorem aue {a b:Int}{k:Bool->Option α}:DL α a b k=k (decide ((0<=a/\a<=2)/\0<=b/\b<=1)):=by
 simp only [DL,af,Rk,JV,Cc]
theorem ZM {a b c:Int}{k:Bool->Option α}:nX α a b c k=k (!decide ((5000<=a/\a<=80000)/\(0<=b/\b<=9999)/\0<=c/\c<=9999)):=by
 simp only [nX,af,F6,JV,Uv,ahX]
theorem Z8 {a b:Int}{k:Bool->Option α}:p8 α a b k=k (!decide ((0<=a/\a<=10000)/\0<=b/\b<=10000)):=by
 simp only [p8,af,F0,JV,ahX]
def ckD (d:Dm):Int:=
 if (0<=d.sh/\d.sh<=2)/\0<=d.pol/\d.pol<=1 then
  if (5000<=d.ix/\d.ix<=80000)/\(0<=d.s1/\d.s1<=9999)/\0<=d.s2/\d.s2<=9999 then
   if d.s2 < d.s1 then 10 else
   if (1000<=d.w1/\d.w1<=200000)/\1000<=d.w2/\d.w2<=200000 then
    if d.w2 < d.w1 then 10 else
    if (0<=d.lo/\d.lo<=10000)/\0<=d.hi/\d.hi<=10000 then (if d.hi < d.lo then 24 else 0) else 2
   else 2
  else 2
 else 11
theorem aoR (d:Dm){k:Int->Option α}:Bi α d.sh d.pol d.ix d.s1 d.s2 d.w1 d.w2 d.lo d.hi k=k (ckD d):=by
 simp only [Bi,af,UK,aue,ZM,Z8,Uv,cI,aK];unfold ckD;by_cases c1:(0<=d.sh/\d.sh<=2)/\0<=d.pol/\d.pol<=1
 ·rw [if_pos c1,if_pos c1]
  by_cases c2:(5000<=d.ix/\d.ix<=80000)/\(0<=d.s1/\d.s1<=9999)/\0<=d.s2/\d.s2<=9999
  ·rw [if_pos c2,if_pos c2]
   by_cases c3:d.s2 < d.s1
   ·rw [if_pos c3,if_pos c3]
   ·rw [if_neg c3,if_neg c3]
    by_cases c4:(1000<=d.w1/\d.w1<=200000)/\1000<=d.w2/\d.w2<=200000
    ·rw [if_pos c4,if_pos c4]
     by_cases c5:d.w2 < d.w1
     ·rw [if_pos c5,if_pos c5]
     ·rw [if_neg c5,if_neg c5]
      by_cases c6:(0<=d.lo/\d.lo<=10000)/\0<=d.hi/\d.hi<=10000
      ·rw [if_pos c6,if_pos c6]
       by_cases c7:d.hi < d.lo
       ·rw [if_pos c7,if_pos c7]
       ·rw [if_neg c7,if_neg c7]
      ·rw [if_neg c6,if_neg c6]
    ·rw [if_neg c4,if_neg c4]
  ·rw [if_neg c2,if_neg c2]
 ·rw [if_neg c1,if_neg c1]
theorem Ps {d:Dm}(h:ckD d=0):((0<=d.sh/\d.sh<=2)/\0<=d.pol/\d.pol<=1)/\((5000<=d.ix/\d.ix<=80000)/\(0<=d.s1/\d.s1<=9999)/\0<=d.s2/\d.s2<=9999)/\¬ d.s2 < d.s1 /\
  ((1000<=d.w1/\d.w1<=200000)/\1000<=d.w2/\d.w2<=200000)/\¬ d.w2 < d.w1/\((0<=d.lo/\d.lo<=10000)/\0<=d.hi/\d.hi<=10000)/\¬ d.hi < d.lo:=by
 unfold ckD at h;by_cases c1:(0<=d.sh/\d.sh<=2)/\0<=d.pol/\d.pol<=1
 ·rw [if_pos c1] at h
  by_cases c2:(5000<=d.ix/\d.ix<=80000)/\(0<=d.s1/\d.s1<=9999)/\0<=d.s2/\d.s2<=9999
  ·rw [if_pos c2] at h
   by_cases c3:d.s2 < d.s1
   ·rw [if_pos c3] at h;cases h
   ·rw [if_neg c3] at h
    by_cases c4:(1000<=d.w1/\d.w1<=200000)/\1000<=d.w2/\d.w2<=200000
    ·rw [if_pos c4] at h
     by_cases c5:d.w2 < d.w1
     ·rw [if_pos c5] at h;cases h
     ·rw [if_neg c5] at h
      by_cases c6:(0<=d.lo/\d.lo<=10000)/\0<=d.hi/\d.hi<=10000
      ·rw [if_pos c6] at h
       by_cases c7:d.hi < d.lo
       ·rw [if_pos c7] at h;cases h
       ·exact⟨c1,c2,c3,c4,c5,c6,c7⟩
      ·rw [if_neg c6] at h;cases h
    ·rw [if_neg c4] at h;cases h
  ·rw [if_neg c2] at h;cases h
 ·rw [if_neg c1] at h;cases h
def dsE:List Dm->Int
 | []=>0
 | d::ds=>if ckD d=0 then dsE ds else ckD d
theorem ayt {ds:List Dm}(hA:ds.length<=8){k1:Int->Int->Option α}{k2:Int->Bool->Option α}{Y:Option α}{K:Int->Option α}(h1:∀ x e,k1 x e=K e)(h2:∀ x b,k2 x b=Y) :
  ∀ (rest:List Dm) (i n:Nat),ds.drop i=rest->i<=ds.length->rest.length < n ->
  qb α (ds.map rD) (ds.length:Int) k1 k2 n (i:Int)=if dsE rest=0 then Y else K (dsE rest):=by
 intro rest
 induction rest with
 | nil=>
  intro i n hd hi hn;obtain⟨n,rfl⟩:∃ n',n=n'+1:=⟨n - 1,by simp only [List.length_nil] at hn;omega⟩
  have hl:ds.length<=i:=List.drop_eq_nil_iff.1 hd;rw [qb];simp only [tz];rw [decide_eq_false (by omega),al,h2];rfl
 | cons d rs ih=>
  intro i n hd hi hn;obtain⟨n,rfl⟩:∃ n',n=n'+1:=⟨n - 1,by omega⟩
  have hl:i < ds.length:=by
   by_cases h:i < ds.length
   ·exact h
   ·rw [List.drop_eq_nil_of_le (by omega)] at hd;cases hd
  have hg:ds[i]?=some d:=by
   have:=congrArg List.head? hd;rw [List.head?_drop] at this;exact this
  have hd':ds.drop (i+1)=rs:=by
   have:=congrArg List.tail hd;rw [List.tail_drop] at this;exact this
  have hw:w64 ((i:Int)+1)=((i+1:Nat):Int):=by rw [aj (by omega) (by omega)];omega
  have hn':rs.length < n:=by simp only [List.length_cons] at hn;omega
  rw [qb];simp only [tz];rw [decide_eq_true (by omega),ap,rx hg,aoR,bo,h1,hw,ih (i+1) n hd' (by omega) hn'];show _=if (if ckD d=0 then dsE rs else ckD d)=0 then Y else K (if ckD d=0 then dsE rs else ckD d);by_cases c:ckD d=0
  ·rw [if_pos c,if_pos c]
  ·rw [if_neg c,if_neg c,if_neg c]
def dms (ds:List Dm):Int:=if ds.length=0 then 12 else if 8 < ds.length then 8 else dsE ds
theorem azk {ds:List Dm}{k:Int->Option α}:H2 α (ds.map rD) (fun _ e=>k e)=k (dms ds):=by
 simp only [H2,af,PA,List.length_map,gz,aK];unfold dms;by_cases c1:ds.length=0
 ·rw [if_pos (by omega),if_pos c1]
 ·rw [if_neg (by omega),if_neg c1]
  by_cases c2:8 < ds.length
  ·rw [if_pos (by omega),if_pos c2]
  ·rw [if_neg (by omega),if_neg c2,A6,af,Lx]
   have hf:ds.length < aE:=by have:=bz;omega
   refine (ayt (K:=k) (by omega) (fun _ _=>rfl) (fun _ _=>rfl) ds 0 aE rfl (Nat.zero_le _) hf).trans ?_;by_cases c:dsE ds=0
   ·rw [if_pos c,c]
   ·rw [if_neg c]
def j0 (d:Dm)(ls:List L5)(oi ol:Int):Ask:=⟨d.ix,d.s1,d.s2,d.pol,d.w1,d.w2,ls,oi,ol⟩
theorem azu {d:Dm}{ds:List Dm}{ls:List L5}{oi ol:Int}{k:Int->Option α} :
  B4 α ((d::ds).map rD) (ls.map rL) oi ol (fun _ e=>k e)=k (if dms (d::ds)=0 then ckA (j0 d ls oi ol) else dms (d::ds)):=by
 simp only [B4,af,Pf];refine (azk (k:=fun e=>_)).trans ?_;rw [bo];by_cases c:dms (d::ds)=0
 ·rw [if_pos c,if_pos c]
  refine (rx (i:=0) (d:=d) rfl).trans ?_;refine (rx (i:=0) (d:=d) rfl).trans ?_;rw [Fy,af,OM,G7,af,OS];exact adO (j0 d ls oi ol)
 ·rw [if_neg c,if_neg c]
def awk (d:Dm)(ds:List Dm)(ls:List L5)(oi ol:Int):Int:=if dms (d::ds)=0 then ckA (j0 d ls oi ol) else dms (d::ds)
def aur (s:Int)(q:Q6):Int × Int:=if s=2 then (q.2.2.2.2.1,q.2.2.2.2.2) else if s=1 then (q.2.2.1,q.2.2.2.1) else (q.1,q.2.1)
def rH (d:Dm)(ls:List L5)(oi ol:Int):(Int × Int) × Int:=
 if (gL (j0 d ls oi ol)).2=0 then (aur d.sh (gL (j0 d ls oi ol)).1,0) else ((0,0),(gL (j0 d ls oi ol)).2)
theorem awn {d:Dm}(hs:0<=d.sh/\d.sh<=2){ls:List L5}{oi ol:Int}{k:Int->Int->Int->Option α} :
  Ms α (ls.map rL) oi ol d.sh d.pol d.ix d.w1 d.w2 d.s1 d.s2 k=k (rH d ls oi ol).1.1 (rH d ls oi ol).1.2 (rH d ls oi ol).2:=by
 simp only [Ms,af,akJ,G7,af,OS];refine (aua (j0 d ls oi ol)).trans ?_;unfold KS rH aur;generalize gL (j0 d ls oi ol)=q;show cK (q.2 != 0) (k 0 0 q.2) (cK (d.sh == 2) (k q.1.2.2.2.2.1 q.1.2.2.2.2.2 0) (cK (d.sh == 1) (k q.1.2.2.1 q.1.2.2.2.1 0) (cK (d.sh == 0) (k q.1.1 q.1.2.1 0) none)))=_;rw [bo];by_cases c:q.2=0
 ·simp only [if_pos c]
  by_cases c2:d.sh=2
  ·simp only [if_pos c2]
   rw [beq_iff_eq.2 c2,ap]
  ·simp only [if_neg c2]
   rw [beq_eq_false_iff_ne.2 c2,al];by_cases c1:d.sh=1
   ·simp only [if_pos c1]
    rw [beq_iff_eq.2 c1,ap]
   ·simp only [if_neg c1]
    rw [beq_eq_false_iff_ne.2 c1,al,beq_iff_eq.2 (show d.sh=0 by omega),ap]
 ·simp only [if_neg c]
def gy (d:Dm)(ls:List L5)(oi ol:Int):Int:=
 if (rH d ls oi ol).2=0 then
  if w64 (d.lo*1048576)<=w64 ((rH d ls oi ol).1.1*10000)/\w64 ((rH d ls oi ol).1.2*10000)<=w64 (d.hi*1048576) then 2 else
  if w64 ((rH d ls oi ol).1.2*10000) < w64 (d.lo*1048576) then 0 else if w64 (d.hi*1048576) < w64 ((rH d ls oi ol).1.1*10000) then 0 else 1
 else 1
theorem ayC {a b c d:Int}{k:Bool->Option α}:wn α a b c d k=k (decide (c<=a/\b<=d)):=by
 rw [wn,af,Mi];exact Cc
theorem ajE {d:Dm}(hs:0<=d.sh/\d.sh<=2){ls:List L5}{oi ol:Int}{k:Int->Option α} :
  iI α (ls.map rL) oi ol d.sh d.pol d.ix d.lo d.hi d.w1 d.w2 d.s1 d.s2 k=k (gy d ls oi ol):=by
 simp only [iI,af,afU];rw [awn hs];unfold gy;generalize rH d ls oi ol=u;simp only [ayC];rw [bo,aK,aK,aK];by_cases c:u.2=0
 ·rw [if_pos c,if_pos c]
  by_cases c1:w64 (d.lo*1048576)<=w64 (u.1.1*10000)/\w64 (u.1.2*10000)<=w64 (d.hi*1048576)
  ·rw [if_pos c1,if_pos c1]
  ·rw [if_neg c1,if_neg c1]
   by_cases c2:w64 (u.1.2*10000) < w64 (d.lo*1048576)
   ·rw [if_pos c2,if_pos c2]
   ·rw [if_neg c2,if_neg c2]
    by_cases c3:w64 (d.hi*1048576) < w64 (u.1.1*10000)
    ·rw [if_pos c3,if_pos c3]
    ·rw [if_neg c3,if_neg c3]
 ·rw [if_neg c,if_neg c]
end Go.AM.K
