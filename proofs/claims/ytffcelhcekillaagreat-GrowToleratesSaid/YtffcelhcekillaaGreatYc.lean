/- Texts of one kind, put together. -/
import Derived.Test.YtffcelhcekillaaGreatYb
namespace Go.AM.K
set_option linter.unusedVariables false
set_option linter.unusedSimpArgs false
variable {α:Type}
def vz {β:Type}(n:Int)(f:(m:Int)->n=m->β):β:=match n,f with
 | .ofNat 0,f=>f 0 rfl
 | .ofNat (m+1),f=>f (.ofNat (m+1)) rfl
 | .negSucc 0,f=>f (-1) rfl
 | .negSucc (m+1),f=>f (.negSucc (m+1)) rfl
theorem fT {β:Type}(n:Int)(f:(m:Int)->n=m->β):vz n f=f n rfl:=by
 unfold vz;split <;> rfl
theorem aGX {u:Bl}{x y r:Int}(hx:u.b.1=x)(hy:u.b.2.1=y)(hr:u.b.2.2=r):okS (x,y,r)=true:=by
 subst hx;subst hy;subst hr;exact u.ok
def bnd {β:Type}(u:Bl × Int)(f:Bl->Int->β):β:=
 vz u.1.b.1 fun x hx=>vz u.1.b.2.1 fun y hy=>vz u.1.b.2.2 fun r hr=>vz u.2 fun e _=>f ⟨(x,y,r),aGX hx hy hr⟩ e
theorem aP {β:Type}(u:Bl × Int)(f:Bl->Int->β):bnd u f=f u.1 u.2:=by
 unfold bnd;rw [fT,fT,fT,fT]
theorem gP {β γ:Type}(F:β->γ)(u:Bl × Int)(G:Bl->Int->β):F (bnd u G)=bnd u fun a e=>F (G a e):=by
 rw [aP,aP]
abbrev Q4:=Int × Int × Int × Int
def iI {β:Type}(u:Q4 × Int)(f:Int->Int->Int->Int->Int->β):β:=
 vz u.1.1 fun a _=>vz u.1.2.1 fun b _=>vz u.1.2.2.1 fun c _=>vz u.1.2.2.2 fun d _=>vz u.2 fun e _=>f a b c d e
theorem cX {β:Type}(u:Q4 × Int)(f:Int->Int->Int->Int->Int->β):iI u f=f u.1.1 u.1.2.1 u.1.2.2.1 u.1.2.2.2 u.2:=by
 unfold iI;rw [fT,fT,fT,fT,fT]
theorem qC {β γ:Type}(F:β->γ)(u:Q4 × Int)(G:Int->Int->Int->Int->Int->β):F (iI u G)=iI u fun a b c d e=>F (G a b c d e):=by
 rw [cX,cX]
def kF {β:Type}(u:Int × Int × Int)(f:Int->Int->Int->β):β:=
 vz u.1 fun a _=>vz u.2.1 fun b _=>vz u.2.2 fun c _=>f a b c
theorem ki {β:Type}(u:Int × Int × Int)(f:Int->Int->Int->β):kF u f=f u.1 u.2.1 u.2.2:=by
 unfold kF;rw [fT,fT,fT]
theorem xC {β γ:Type}(F:β->γ)(u:Int × Int × Int)(G:Int->Int->Int->β):F (kF u G)=kF u fun a b c=>F (G a b c):=by
 rw [ki,ki]
def zA {β:Type}(u:Bl × Bool × Int)(f:Bl->Bool->Int->β):β:=
 match u with
 | (q,true,e)=>f q true e
 | (q,false,e)=>f q false e
theorem fq {β:Type}(u:Bl × Bool × Int)(f:Bl->Bool->Int->β):zA u f=f u.1 u.2.1 u.2.2:=by
 obtain⟨q,b,e⟩:=u;cases b <;> rfl
theorem yE {β γ:Type}(F:β->γ)(u:Bl × Bool × Int)(G:Bl->Bool->Int->β):F (zA u G)=zA u fun a b e=>F (G a b e):=by
 rw [fq,fq]
abbrev Mt:=Bl × Bl × Bl × Bl
def oO {β:Type}(u:Mt × Int)(f:Mt->Int->β):β:=match u with
 | ((a,b,c,d),e)=>f (a,b,c,d) e
theorem uD {β:Type}(u:Mt × Int)(f:Mt->Int->β):oO u f=f u.1 u.2:=rfl
theorem aaS {β γ:Type}(F:β->γ)(u:Mt × Int)(G:Mt->Int->β):F (oO u G)=oO u fun a e=>F (G a e):=rfl
def af9 {β:Type}(u:(Mt × Bl) × Int)(f:Mt->Bl->Int->β):β:=match u with
 | (((a,b,c,d),g),e)=>f (a,b,c,d) g e
theorem ST {β:Type}(u:(Mt × Bl) × Int)(f:Mt->Bl->Int->β):af9 u f=f u.1.1 u.1.2 u.2:=rfl
theorem abf {β γ:Type}(F:β->γ)(u:(Mt × Bl) × Int)(G:Mt->Bl->Int->β):F (af9 u G)=af9 u fun a g e=>F (G a g e):=rfl
theorem bo {x:Int}{a b:Option α}:cK (x != 0) a b=if x=0 then b else a:=by
 by_cases h:x=0
 ·rw [if_pos h,h];rfl
 ·rw [if_neg h,bne_iff_ne.2 h,ap]
theorem gS {x:Int}{a b:Option α}:cK (x == 0) a b=if x=0 then a else b:=by
 by_cases h:x=0
 ·rw [if_pos h,h];rfl
 ·rw [if_neg h,beq_eq_false_iff_ne.2 h,al]
theorem rH {x:Bool}{a b:Option α}:cK x a b=if x=true then a else b:=by cases x <;> rfl
def KN (k:Nat->Nat->Int->Bool->Int->Option α)(u:Bl × Bool × Int):Option α:=k u.1.n1 u.1.n2 u.1.r u.2.1 u.2.2
def KP (k:Int->Int->Int->Int->Int->Option α)(u:Q4 × Int):Option α:=k u.1.1 u.1.2.1 u.1.2.2.1 u.1.2.2.2 u.2
def KMt (k:Nat->Nat->Int->Nat->Nat->Int->Nat->Nat->Int->Nat->Nat->Int->Int->Option α)(u:Mt × Int):Option α:=
 k u.1.1.n1 u.1.1.n2 u.1.1.r u.1.2.1.n1 u.1.2.1.n2 u.1.2.1.r u.1.2.2.1.n1 u.1.2.2.1.n2 u.1.2.2.1.r u.1.2.2.2.n1 u.1.2.2.2.n2 u.1.2.2.2.r u.2
theorem arf {k:Nat->Nat->Int->Int->Option α}{a:Bl}{e:Int}:KB k (a,e)=k a.n1 a.n2 a.r e:=rfl
theorem aKh {k:Nat->Nat->Int->Bool->Int->Option α}{a:Bl}{b:Bool}{e:Int}:KN k (a,b,e)=k a.n1 a.n2 a.r b e:=rfl
theorem avA {k:Nat->Nat->Int->Nat->Nat->Int->Nat->Nat->Int->Nat->Nat->Int->Int->Option α}{a b c d:Bl}{e:Int} :
  KMt k ((a,b,c,d),e)=k a.n1 a.n2 a.r b.n1 b.n2 b.r c.n1 c.n2 c.r d.n1 d.n2 d.r e:=rfl
def two (op:Bl->Bl->Bl × Int)(e:Int)(a b:Bl):Bl × Int:=if e=0 then op a b else (Bl0,e)
theorem xg {e:Int}{u:Bl × Int}{k:Nat->Nat->Int->Int->Option α}:cK (e != 0) (k 0 0 0 e) (KB k u)=bnd (if e=0 then u else (Bl0,e)) fun u e=>k u.n1 u.n2 u.r e:=by
 rw [aP,bo];by_cases h:e=0
 ·simp only [if_pos h];rfl
 ·simp only [if_neg h,B7,Ez,Oa]
theorem AY (e:Int)(a b:Bl){k:Nat->Nat->Int->Int->Option α}:fw α e a.n1 a.n2 a.r b.n1 b.n2 b.r k=bnd (two fB e a b) fun u e=>k u.n1 u.n2 u.r e:=by
 simp only [fw,af,SN,Js,af,Qy,dM,af,hI,asA];exact xg
theorem kt (e:Int)(a b:Bl){k:Nat->Nat->Int->Int->Option α}:cO α e a.n1 a.n2 a.r b.n1 b.n2 b.r k=bnd (two bB e a b) fun u e=>k u.n1 u.n2 u.r e:=by
 simp only [cO,af,Yr,Kx,af,XR,dM,af,hI,apj];exact xg
theorem Ie (e:Int)(a b:Bl){k:Nat->Nat->Int->Int->Option α}:pD α e a.n1 a.n2 a.r b.n1 b.n2 b.r k=bnd (two jF e a b) fun u e=>k u.n1 u.n2 u.r e:=by
 simp only [pD,af,U2,IB,af,SX,dM,af,hI,asf];exact xg
theorem Ia (e:Int)(a b:Bl){k:Nat->Nat->Int->Int->Option α}:pu α e a.n1 a.n2 a.r b.n1 b.n2 b.r k=bnd (two uU e a b) fun u e=>k u.n1 u.n2 u.r e:=by
 simp only [pu,af,QN,Jq,af,YL,dM,af,hI,amF];exact xg
def Bl1:Bl:=⟨(1048576,0,0),by decide⟩
def Blc:Bl:=⟨(0,0,1048576),by decide⟩
theorem aJ1:FloatKind.nearest .f64 1048576=4697254411347427328:=by decide +kernel
theorem PC:Bl1.n1=4697254411347427328:=aJ1
theorem O0:Bl1.n2=0:=agr
theorem ahQ:Bl1.r=0:=rfl
theorem aza:Blc.n1=0:=agr
theorem axY:Blc.n2=0:=agr
theorem aCA:Blc.r=1048576:=rfl
theorem agT (e:Int)(b:Bl){k:Nat->Nat->Int->Int->Option α}:fw α e 4697254411347427328 0 0 b.n1 b.n2 b.r k=bnd (two fB e Bl1 b) fun u e=>k u.n1 u.n2 u.r e:=by
 rw [<- AY,PC,O0,ahQ]
theorem aeV (e:Int)(b:Bl){k:Nat->Nat->Int->Int->Option α}:pD α e 4697254411347427328 0 0 b.n1 b.n2 b.r k=bnd (two jF e Bl1 b) fun u e=>k u.n1 u.n2 u.r e:=by
 rw [<- Ie,PC,O0,ahQ]
theorem ax7 (e:Int)(b:Bl){k:Nat->Nat->Int->Int->Option α}:cO α e 0 0 1048576 b.n1 b.n2 b.r k=bnd (two bB e Blc b) fun u e=>k u.n1 u.n2 u.r e:=by
 rw [<- kt,aza,axY,aCA]
def iE (e lo hi:Int):Bl × Int:=if e=0 then cJ lo hi else (Bl0,e)
def t7 (e n d:Int):Bl × Int:=if e=0 then yW n d else (Bl0,e)
theorem In {e lo hi:Int}{k:Nat->Nat->Int->Int->Option α}:pJ α e lo hi k=bnd (iE e lo hi) fun u e=>k u.n1 u.n2 u.r e:=by
 simp only [pJ,af,WL,dM,af,hI,J4];exact xg
theorem WH {e n d:Int}{k:Nat->Nat->Int->Int->Option α}:yv α e n d k=bnd (t7 e n d) fun u e=>k u.n1 u.n2 u.r e:=by
 simp only [yv,af,YZ,dM,af,hI,aoY];exact xg
theorem atl (a:Bl){k:Nat->Nat->Int->Int->Option α}:so α a.n1 a.n2 a.r 1 k=bnd (CD a) fun u e=>k u.n1 u.n2 u.r e:=by
 rw [Zz,aP];rfl
theorem anv (a:Bl){k:Nat->Nat->Int->Int->Option α}:yd α a.n1 a.n2 a.r k=bnd (nO a) fun u e=>k u.n1 u.n2 u.r e:=by
 rw [atF,aP];rfl
theorem amz {lo hi:Int}{k:Nat->Nat->Int->Int->Option α}:xR α lo hi k=bnd (jW lo hi) fun u e=>k u.n1 u.n2 u.r e:=by
 rw [aqw,aP];rfl
theorem atG {lo hi:Int}{k:Nat->Nat->Int->Int->Option α}:xf α lo hi k=bnd (BR lo hi) fun u e=>k u.n1 u.n2 u.r e:=by
 rw [aqT,aP];rfl
theorem aoN {lo hi:Int}{k:Int->Int->Int->Option α}:r8 α lo hi k=kF (jC lo hi) k:=by
 rw [arQ,ki]
def jz (e:Int)(a:Bl):Q4 × Int:=if e=0 then ((a.lo1,a.hi1,a.lo2,a.hi2),0) else ((0,0,0,0),e)
theorem JL (e:Int)(a:Bl){k:Int->Int->Int->Int->Int->Option α}:nH α e a.n1 a.n2 a.r k=iI (jz e a) k:=by
 simp only [nH,af,T6,anw];rw [cX,bo];unfold jz;by_cases h:e=0
 ·simp only [if_pos h]
 ·simp only [if_neg h]
def ng (a:Bl):Int × Int × Int:=(a.eLo,a.eHi,0)
theorem Qi (a:Bl){k:Int->Int->Int->Option α}:sB α a.n1 a.n2 a.r k=kF (ng a) k:=by
 rw [apF,ki];rfl
def dnI (n d:Int):Int:=w64 (Int.tdiv n d)
def upI (n d:Int):Int:=w64 (Int.tdiv (w64 (w64 (n+d) - 1)) d)
theorem tV {n d:Int}(h:d ≠ 0){k:Int->Option α}:jJ α n d k=k (dnI n d):=by
 simp only [jJ,af,UE];rw [bR (bne_iff_ne.2 h)];rfl
theorem vv {n d:Int}(h:d ≠ 0){k:Int->Option α}:nd α n d k=k (upI n d):=by
 simp only [nd,af,amm];rw [bR (bne_iff_ne.2 h)];rfl
def pos (x:Int):Int:=if x > 0 then x else 0
theorem XL {x y:Int}{k:Int->Int->Option α}:ml α x y k=k (pos x) (pos y):=by rw [ml,af,TV];rfl
end Go.AM.K

namespace Go.AM.K
set_option linter.unusedVariables false
set_option linter.unusedSimpArgs false
variable {α:Type}
abbrev L5:=Int × Int × Int × Int × Int
abbrev rL (l:L5):List DC:=[.v (.int .i64 l.1),.v (.int .i64 l.2.1),.v (.int .i64 l.2.2.1),.v (.int .i64 l.2.2.2.1),.v (.int .i64 l.2.2.2.2)]
structure Ask where
 ix:Int
 s1:Int
 s2:Int
 pol:Int
 w1:Int
 w2:Int
 ls:List L5
 oi:Int
 ol:Int
theorem adn {ls:List L5}{i:Nat}{l:L5}(h:ls[i]?=some l)(hi:i < 1000000){f:Int->Int->Int->Int->Int->Option α} :
  dG (ls.map rL) (w64 (((i+1:Nat):Int) - 1)) [.int .i64,.int .i64,.int .i64,.int .i64,.int .i64] f=f l.1 l.2.1 l.2.2.1 l.2.2.2.1 l.2.2.2.2:=by
 rw [show w64 (((i+1:Nat):Int) - 1)=(i:Int) by rw [aj (by omega) (by omega)];omega];refine (nw (r:=rL l) ?_).trans rfl;rw [List.getElem?_map,h];rfl
theorem ON {ls:List L5}{i:Nat}{l:L5}(h:ls[i]?=some l){f:Int->Int->Int->Int->Int->Option α} :
  dG (ls.map rL) (i:Int) [.int .i64,.int .i64,.int .i64,.int .i64,.int .i64] f=f l.1 l.2.1 l.2.2.1 l.2.2.2.1 l.2.2.2.2:=by
 refine (nw (r:=rL l) ?_).trans rfl;rw [List.getElem?_map,h];rfl
def eN (A:Ask)(n:Nat):Int × Int × Int:=match n with
 | 0=>(A.ix,A.ix,0)
 | n+1=>match A.ls[n]? with
  | some l=>(l.1,l.2.1,l.2.2.2.2)
  | none=>(A.oi,A.oi,A.ol)
theorem mi {A:Ask}{n:Nat}{l:L5}(h:A.ls[n]?=some l):eN A (n+1)=(l.1,l.2.1,l.2.2.2.2):=by
 show (match A.ls[n]? with
  | some l=>(l.1,l.2.1,l.2.2.2.2)
  | none=>(A.oi,A.oi,A.ol))=_
 rw [h]
theorem qV {A:Ask}{n:Nat}(h:A.ls[n]?=none):eN A (n+1)=(A.oi,A.oi,A.ol):=by
 show (match A.ls[n]? with
  | some l=>(l.1,l.2.1,l.2.2.2.2)
  | none=>(A.oi,A.oi,A.ol))=_
 rw [h]
theorem JR (A:Ask){n:Nat}(hn:n < 1000000){k:Int->Int->Int->Option α} :
  sA α A.ix (A.ls.map rL) A.oi A.ol (n:Int) k=k (eN A n).1 (eN A n).2.1 (eN A n).2.2:=by
 simp only [sA,af,WX,gS,aK,List.length_map];cases n with
 | zero=>rw [if_pos (show ((0:Nat):Int)=0 from rfl)];rfl
 | succ n=>
  rw [if_neg (by omega)];cases h:A.ls[n]? with
  | some l=>
   have hl:n < A.ls.length:=(List.getElem?_eq_some_iff.1 h).1;rw [if_pos (by omega),adn h (by omega),mi h]
  | none=>
   have hl:A.ls.length<=n:=List.getElem?_eq_none_iff.1 h;rw [if_neg (by omega),qV h]
def eu (A:Ask)(n:Nat)(e:Int):Bl × Int:=
 bnd (iE e (dnI (w64 ((eN A n).1*1048576)) 10000) (upI (w64 ((eN A n).2.1*1048576)) 10000)) fun u e1=>
 if (eN A n).2.2=0 then (u,e1) else
 bnd (t7 e1 (eN A n).2.2 10000) fun f e2=>
 if e2=0 then bnd (CD f) fun t e3=>bnd (two fB e3 u t) fun v e4=>(v,e4)
 else bnd (two fB e2 u f) fun v e4=>(v,e4)
theorem XN (A:Ask){n:Nat}(hn:n < 1000000)(e:Int){k:Nat->Nat->Int->Int->Option α} :
  xH α e A.ix (A.ls.map rL) A.oi A.ol (n:Int) k=bnd (eu A n e) fun u e=>k u.n1 u.n2 u.r e:=by
 rw [aP];show _=KB k (eu A n e);unfold eu;simp only [xH,af,Ve,v7,af,E6,JR A hn,tV (d:=10000) (by decide),vv (d:=10000) (by decide),In,WH,atl,dM,af,hI,AY,gS,gP (KB k),apply_ite (KB k),arf]
def bJ (A:Ask)(n:Nat)(e:Int):Bl × Bool × Int:=
 bnd (eu A n e) fun u e1=>
 bnd (iE e1 (dnI (w64 ((w64 (A.ix*A.s1))*1048576)) 100000000) (upI (w64 ((w64 (A.ix*A.s2))*1048576)) 100000000)) fun b e2=>
 bnd (two bB e2 u u) fun v e3=>bnd (two bB e3 b b) fun c e4=>bnd (two jF e4 v c) fun d e5=>
 if (eN A n).2.2=0 then
  iI (jz e5 d) fun lo hi _ _ e6=>if e6=0 then bnd (jW lo hi) fun q e7=>(q,decide (lo < 0),e7) else (Bl0,false,e6)
 else if e5=0 then bnd (nO d) fun q e6=>(q,false,e6) else (Bl0,false,e5)
theorem H6 (A:Ask){n:Nat}(hn:n < 1000000)(e:Int){k:Nat->Nat->Int->Bool->Int->Option α} :
  ss α e A.ix A.s1 A.s2 (A.ls.map rL) A.oi A.ol (n:Int) k=zA (bJ A n e) fun u s e=>k u.n1 u.n2 u.r s e:=by
 rw [fq];show _=KN k (bJ A n e);unfold bJ;simp only [ss,af,RP,XN A hn,JR A hn,tV (d:=100000000) (by decide),vv (d:=100000000) (by decide),In,kt,Ie,JL,anv,amz,dM,af,hI,bo,gP (KN k),qC (KN k),apply_ite (KN k),aKh,B7,Ez,Oa]
def cj (A:Ask)(n:Nat)(e:Int):Bl × Int:=
 zA (bJ A n e) fun q _ e1=>if A.pol=0 then (q,e1) else
 bnd (eu A n e1) fun u e2=>bnd (two bB e2 u u) fun v e3=>bnd (two uU e3 v q) fun w e4=>(w,e4)
theorem uv (A:Ask){n:Nat}(hn:n < 1000000)(e:Int){k:Nat->Nat->Int->Int->Option α} :
  jX α e A.ix A.s1 A.s2 A.pol (A.ls.map rL) A.oi A.ol (n:Int) k=bnd (cj A n e) fun u e=>k u.n1 u.n2 u.r e:=by
 rw [aP];show _=KB k (cj A n e);unfold cj;simp only [jX,af,ZI,H6 A hn,XN A hn,kt,Ia,gS,gP (KB k),yE (KB k),apply_ite (KB k),arf]
def rG (A:Ask)(l:L5)(a b c d e:Int):Q4 × Int:=
 ((dnI (w64 ((w64 (4*pos a))*l.2.2.1)) A.w2,upI (w64 ((w64 (4*pos b))*l.2.2.2.1)) A.w1,dnI (w64 ((w64 (4*pos c))*l.2.2.1)) A.w2,upI (w64 ((w64 (4*pos d))*l.2.2.2.1)) A.w1),e)
def gX (A:Ask)(l:L5)(n:Nat)(e:Int):Q4 × Int:=
 zA (bJ A n e) fun q s e1=>iI (jz e1 q) fun a b c d e2=>
 if l.2.2.2.2=0 then (if s=true then rG A l 0 0 c d e2 else rG A l a b 0 0 e2) else rG A l a b c d e2
theorem aLm {A:Ask}{l:L5}{a b c d e:Int}{k:Int->Int->Int->Int->Int->Option α}:KP k (rG A l a b c d e)=
  k (dnI (w64 ((w64 (4*pos a))*l.2.2.1)) A.w2) (upI (w64 ((w64 (4*pos b))*l.2.2.2.1)) A.w1) (dnI (w64 ((w64 (4*pos c))*l.2.2.1)) A.w2) (upI (w64 ((w64 (4*pos d))*l.2.2.2.1)) A.w1) e:=by
 simp only [KP,rG]
theorem an8 (A:Ask){i:Nat}{l:L5}(h:A.ls[i]?=some l)(hi:i < 100000)(h1:A.w1 ≠ 0)(h2:A.w2 ≠ 0)(e:Int){k:Int->Int->Int->Int->Int->Option α} :
  Dg α e A.ix A.s1 A.s2 A.w1 A.w2 (A.ls.map rL) A.oi A.ol ((i+1:Nat):Int) k=iI (gX A l (i+1) e) k:=by
 rw [cX];show _=KP k (gX A l (i+1) e);unfold gX;simp only [Dg,af,R0,s9,af,G5,H6 A (n:=i+1) (by omega),JL,adn h (by omega),tV h2,vv h1,XL,bo,yE (KP k),qC (KP k),apply_ite (KP k),aLm];simp only [rH]
def eD (A:Ask)(l:L5)(n:Nat)(t e:Int):Bl × Int:=
 iI (gX A l n e) fun a b c d e1=>if e1=0 then
  (if w64 (w64 (t*b) - w64 (t*a)) < 1048576 then
   bnd (BR (w64 (t*a)) (w64 (t*b))) fun z e2=>if e2=0 then
    kF (jC (w64 (t*c)) (w64 (t*d))) fun p q e3=>if e3=0 then bnd (iE e3 p q) fun s e4=>bnd (two bB e4 z s) fun v e5=>(v,e5) else (Bl0,e3)
   else (Bl0,e2)
  else if e1=0 then
    kF (jC (w64 (t*c)) (w64 (t*d))) fun p q e3=>if e3=0 then bnd (iE e3 p q) fun s e4=>bnd (two bB e4 Blc s) fun v e5=>(v,e5) else (Bl0,e3)
   else (Bl0,e1))
  else (Bl0,e1)
theorem aq3 (A:Ask){i:Nat}{l:L5}(h:A.ls[i]?=some l)(hi:i < 100000)(h1:A.w1 ≠ 0)(h2:A.w2 ≠ 0)(t e:Int){k:Nat->Nat->Int->Int->Option α} :
  yC α e A.ix A.s1 A.s2 A.w1 A.w2 (A.ls.map rL) A.oi A.ol ((i+1:Nat):Int) t k=bnd (eD A l (i+1) t e) fun u e=>k u.n1 u.n2 u.r e:=by
 rw [aP];show _=KB k (eD A l (i+1) t e);unfold eD;simp only [yC,af,XH,tg,af,He,an8 A h hi h1 h2,atG,aoN,In,kt,ax7,dM,af,hI,bo,aK,gP (KB k),qC (KB k),xC (KB k),apply_ite (KB k),arf,B7,Ez,Oa]
end Go.AM.K

namespace Go.AM.K
set_option linter.unusedVariables false
set_option linter.unusedSimpArgs false
variable {α:Type}
def yc (e:Int)(y g:Bl):Mt × Int:=
 bnd (t7 e 1 2) fun h e1=>bnd (two fB e1 Bl1 g) fun a e2=>bnd (two bB e2 a h) fun u e3=>
 bnd (two jF e3 Bl1 g) fun b e4=>bnd (two bB e4 b h) fun c e5=>bnd (two uU e5 c y) fun v e6=>bnd (two bB e6 c y) fun w e7=>((u,v,w,u),e7)
theorem am7 (e:Int)(y g:Bl){k:Nat->Nat->Int->Nat->Nat->Int->Nat->Nat->Int->Nat->Nat->Int->Int->Option α} :
  yu α e y.n1 y.n2 y.r g.n1 g.n2 g.r k=oO (yc e y g) fun m e=>k m.1.n1 m.1.n2 m.1.r m.2.1.n1 m.2.1.n2 m.2.1.r m.2.2.1.n1 m.2.2.1.n2 m.2.2.1.r m.2.2.2.n1 m.2.2.2.n2 m.2.2.2.r e:=by
 rw [uD];show _=KMt k (yc e y g);unfold yc;simp only [yu,af,UL,mX,af,JY,WH,agT,aeV,kt,Ia,gP (KMt k),avA]
def xw (e:Int)(p m:Mt):Mt × Int:=
 bnd (two bB e p.1 m.1) fun a1 e1=>bnd (two bB e1 p.2.1 m.2.2.1) fun a2 e2=>bnd (two fB e2 a1 a2) fun a e3=>
 bnd (two bB e3 p.1 m.2.1) fun b1 e4=>bnd (two bB e4 p.2.1 m.2.2.2) fun b2 e5=>bnd (two fB e5 b1 b2) fun b e6=>
 bnd (two bB e6 p.2.2.1 m.1) fun c1 e7=>bnd (two bB e7 p.2.2.2 m.2.2.1) fun c2 e8=>bnd (two fB e8 c1 c2) fun c e9=>
 bnd (two bB e9 p.2.2.1 m.2.1) fun d1 e10=>bnd (two bB e10 p.2.2.2 m.2.2.2) fun d2 e11=>bnd (two fB e11 d1 d2) fun d e12=>((a,b,c,d),e12)
theorem ao2 (e:Int)(p m:Mt){k:Nat->Nat->Int->Nat->Nat->Int->Nat->Nat->Int->Nat->Nat->Int->Int->Option α} :
  yp α e p.1.n1 p.1.n2 p.1.r p.2.1.n1 p.2.1.n2 p.2.1.r p.2.2.1.n1 p.2.2.1.n2 p.2.2.1.r p.2.2.2.n1 p.2.2.2.n2 p.2.2.2.r
   m.1.n1 m.1.n2 m.1.r m.2.1.n1 m.2.1.n2 m.2.1.r m.2.2.1.n1 m.2.2.1.n2 m.2.2.1.r m.2.2.2.n1 m.2.2.2.n2 m.2.2.2.r k=
   oO (xw e p m) fun m e=>k m.1.n1 m.1.n2 m.1.r m.2.1.n1 m.2.1.n2 m.2.1.r m.2.2.1.n1 m.2.2.1.n2 m.2.2.1.r m.2.2.2.n1 m.2.2.2.n2 m.2.2.2.r e:=by
 rw [uD];show _=KMt k (xw e p m);unfold xw;simp only [yp,af,YO,kt,AY,gP (KMt k),avA]
def zB (A:Ask)(fs:Bool):List L5->Nat->Mt->Bl->Int->(Mt × Bl) × Int
 | [],_,p,a,e=>((p,a),e)
 | l::ls,n,p,a,e=>if e=0 then
   bnd (cj A n e) fun y e1=>bnd (eD A l n 2 e1) fun g e2=>
   if fs=true then
    bnd (eD A l n 1 e2) fun h e3=>bnd (two bB e3 a h) fun b e4=>oO (yc e4 y g) fun m e5=>oO (xw e5 p m) fun q e6=>zB A fs ls (n+1) q b e6
   else oO (yc e2 y g) fun m e3=>oO (xw e3 p m) fun q e4=>zB A fs ls (n+1) q a e4
  else ((p,a),e)
theorem GT (A:Ask)(fs:Bool)(l:L5)(ls:List L5)(n:Nat)(p:Mt)(a:Bl)(e:Int):zB A fs (l::ls) n p a e=if e=0 then
   bnd (cj A n e) fun y e1=>bnd (eD A l n 2 e1) fun g e2=>
   if fs=true then
    bnd (eD A l n 1 e2) fun h e3=>bnd (two bB e3 a h) fun b e4=>oO (yc e4 y g) fun m e5=>oO (xw e5 p m) fun q e6=>zB A fs ls (n+1) q b e6
   else oO (yc e2 y g) fun m e3=>oO (xw e3 p m) fun q e4=>zB A fs ls (n+1) q a e4
  else ((p,a),e):=rfl
def KTh (k:Nat->Nat->Int->Nat->Nat->Int->Nat->Nat->Int->Nat->Nat->Int->Nat->Nat->Int->Int->Option α)(u:(Mt × Bl) × Int):Option α:=
 k u.1.1.1.n1 u.1.1.1.n2 u.1.1.1.r u.1.1.2.1.n1 u.1.1.2.1.n2 u.1.1.2.1.r u.1.1.2.2.1.n1 u.1.1.2.2.1.n2 u.1.1.2.2.1.r u.1.1.2.2.2.n1 u.1.1.2.2.2.n2 u.1.1.2.2.2.r u.1.2.n1 u.1.2.n2 u.1.2.r u.2
theorem aGI {k:Nat->Nat->Int->Nat->Nat->Int->Nat->Nat->Int->Nat->Nat->Int->Nat->Nat->Int->Int->Option α}{m:Mt}{a:Bl}{e:Int} :
  KTh k ((m,a),e)=k m.1.n1 m.1.n2 m.1.r m.2.1.n1 m.2.1.n2 m.2.1.r m.2.2.1.n1 m.2.2.1.n2 m.2.2.1.r m.2.2.2.n1 m.2.2.2.n2 m.2.2.2.r a.n1 a.n2 a.r e:=rfl
theorem anx {A:Ask}{fs:Bool}(hA:A.ls.length<=40)(h1:A.w1 ≠ 0)(h2:A.w2 ≠ 0)
  {K:Nat->Nat->Int->Nat->Nat->Int->Nat->Nat->Int->Nat->Nat->Int->Nat->Nat->Int->Int->Option α}
  {k1:Int->Bool->Int->Nat->Nat->Int->Nat->Nat->Int->Nat->Nat->Int->Nat->Nat->Int->Nat->Nat->Int->Option α}
  (hk:∀ x b (m:Mt) (a:Bl) e,k1 x b e m.1.n1 m.1.n2 m.1.r m.2.1.n1 m.2.1.n2 m.2.1.r m.2.2.1.n1 m.2.2.1.n2 m.2.2.1.r m.2.2.2.n1 m.2.2.2.n2 m.2.2.2.r a.n1 a.n2 a.r=KTh K ((m,a),e)) :
  ∀ (rest:List L5) (i n:Nat) (m:Mt) (a:Bl) (e:Int),A.ls.drop i=rest->i<=A.ls.length->rest.length < n ->
  lp α fs A.ix A.s1 A.s2 A.pol A.w1 A.w2 (A.ls.map rL) A.oi A.ol k1 n ((i+1:Nat):Int) e m.1.n1 m.1.n2 m.1.r m.2.1.n1 m.2.1.n2 m.2.1.r m.2.2.1.n1 m.2.2.1.n2 m.2.2.1.r m.2.2.2.n1 m.2.2.2.n2 m.2.2.2.r a.n1 a.n2 a.r=
   KTh K (zB A fs rest (i+1) m a e):=by
 intro rest
 induction rest with
 | nil=>
  intro i n m a e hd hi hn;obtain⟨n,rfl⟩:∃ n',n=n'+1:=⟨n - 1,by simp only [List.length_nil] at hn;omega⟩
  have hl:A.ls.length<=i:=List.drop_eq_nil_iff.1 hd;simp only [lp,nI,List.length_map];rw [decide_eq_false (by omega),al,hk];rfl
 | cons l ls ih=>
  intro i n m a e hd hi hn;obtain⟨n,rfl⟩:∃ n',n=n'+1:=⟨n - 1,by omega⟩
  have hl:i < A.ls.length:=by
   by_cases h:i < A.ls.length
   ·exact h
   ·rw [List.drop_eq_nil_of_le (by omega)] at hd;cases hd
  have hg:A.ls[i]?=some l:=by
   have:=congrArg List.head? hd;rw [List.head?_drop] at this;exact this
  have hd':A.ls.drop (i+1)=ls:=by
   have:=congrArg List.tail hd;rw [List.tail_drop] at this;exact this
  have hw:w64 (((i+1:Nat):Int)+1)=((i+1+1:Nat):Int):=by rw [aj (by omega) (by omega)];omega
  have hi1:i+1 < 1000000:=by omega
  have hi2:i < 100000:=by omega
  have hn':ls.length < n:=by simp only [List.length_cons] at hn;omega
  have ih':∀ (m:Mt) (a:Bl) (e:Int),_:=fun m a e=>ih (i+1) n m a e hd' (by omega) hn';simp only [lp,nI,List.length_map];rw [decide_eq_true (by omega),ap];simp only [pr,af,HE,uv A hi1,aq3 A hg hi2 h1 h2,kt,am7,ao2,hw,ih',hk];rw [GT];simp only [gS,apply_ite (KTh K),gP (KTh K),aaS (KTh K),aGI];simp only [rH]
def fD (A:Ask)(fs:Bool)(e:Int):(Mt × Bl) × Int:=zB A fs A.ls 1 (Bl1,Bl0,Bl0,Bl1) Bl1 e
theorem atv (A:Ask)(fs:Bool)(hA:A.ls.length<=40)(h1:A.w1 ≠ 0)(h2:A.w2 ≠ 0)(e:Int)
  {k:Nat->Nat->Int->Nat->Nat->Int->Nat->Nat->Int->Nat->Nat->Int->Nat->Nat->Int->Int->Option α} :
  Ej α e A.ix A.s1 A.s2 A.pol A.w1 A.w2 (A.ls.map rL) A.oi A.ol fs k=af9 (fD A fs e) fun m a e=>
   k m.1.n1 m.1.n2 m.1.r m.2.1.n1 m.2.1.n2 m.2.1.r m.2.2.1.n1 m.2.2.1.n2 m.2.2.1.r m.2.2.2.n1 m.2.2.2.n2 m.2.2.2.r a.n1 a.n2 a.r e:=by
 rw [ST];show _=KTh k (fD A fs e);have hf:A.ls.length < aF:=by have:=bC;omega
 have:=anx (α:=α) (A:=A) (fs:=fs) hA h1 h2 (K:=k) (k1:=fun _ _ e a b c d e' f g h i j l m n o p=>k a b c d e' f g h i j l m n o p e) (fun _ _ _ _ _=>rfl) A.ls 0 aF (Bl1,Bl0,Bl0,Bl1) Bl1 e rfl (Nat.zero_le _) hf;simp only [PC,O0,ahQ,B7,Ez,Oa] at this;simp only [Ej,af,V8,mX,af,JY,B1,af,Wj,vk,af,FV];exact this
end Go.AM.K

namespace Go.AM.K
set_option linter.unusedVariables false
set_option linter.unusedSimpArgs false
variable {α:Type}
def eI (A:Ask)(tr:Bool)(e:Int):Bl × Int:=
 bnd (cj A 0 e) fun f e1=>af9 (fD A tr e1) fun p g e2=>bnd (cj A (A.ls.length+1) e2) fun l e3=>
 bnd (two bB e3 p.2.1 l) fun t1 e4=>bnd (two fB e4 p.1 t1) fun b e5=>bnd (two bB e5 p.2.2.2 l) fun t2 e6=>bnd (two fB e6 p.2.2.1 t2) fun c e7=>
 bnd (two bB e7 f b) fun a e8=>bnd (two fB e8 a c) fun d e9=>
 if tr=true then bnd (two fB e9 f f) fun s e10=>bnd (two bB e10 s g) fun z e11=>bnd (two uU e11 z d) fun v e12=>(v,e12)
 else bnd (two jF e9 a c) fun z e10=>bnd (two uU e10 z d) fun v e11=>(v,e11)
theorem asj (A:Ask)(tr:Bool)(hA:A.ls.length<=40)(h1:A.w1 ≠ 0)(h2:A.w2 ≠ 0)(e:Int){k:Nat->Nat->Int->Int->Option α} :
  yy α e A.ix A.s1 A.s2 A.pol A.w1 A.w2 (A.ls.map rL) A.oi A.ol tr k=bnd (eI A tr e) fun u e=>k u.n1 u.n2 u.r e:=by
 rw [aP];show _=KB k (eI A tr e);have hw:w64 ((A.ls.length:Int)+1)=((A.ls.length+1:Nat):Int):=by rw [aj (by omega) (by omega)];omega
 have hl:A.ls.length+1 < 1000000:=by omega
 have h0:∀ (e:Int) (k:Nat->Nat->Int->Int->Option α),jX α e A.ix A.s1 A.s2 A.pol (A.ls.map rL) A.oi A.ol 0 k=bnd (cj A 0 e) fun u e=>k u.n1 u.n2 u.r e:=fun e k=>uv A (n:=0) (by decide) e;unfold eI;simp only [yy,af,Rh,List.length_map,hw,h0,uv A hl,atv A tr hA h1 h2,kt,AY,Ie,Ia,gP (KB k),abf (KB k),apply_ite (KB k),arf];simp only [rH]
def lsy (A:Ask):Nat->Nat->Bool
 | 0,_=>false
 | m+1,n=>if (eN A n).2.2=0 then lsy A m (n+1) else true
theorem at3 {A:Ask}(hA:A.ls.length<=40){k1 Y:Option α}{k2:Int->Bool->Option α}(hk:∀ x b,k2 x b=Y) :
  ∀ (m n f:Nat),n+m=A.ls.length+2->m < f->mf α ((A.ls.length+2:Nat):Int) A.ix (A.ls.map rL) A.oi A.ol k1 k2 f (n:Int)=if lsy A m n=true then k1 else Y:=by
 intro m
 induction m with
 | zero=>
  intro n f h hf;obtain⟨f,rfl⟩:∃ f',f=f'+1:=⟨f - 1,by omega⟩
  rw [mf];simp only [oe];rw [decide_eq_false (by omega),al,hk];rfl
 | succ m ih=>
  intro n f h hf;obtain⟨f,rfl⟩:∃ f',f=f'+1:=⟨f - 1,by omega⟩
  rw [mf];simp only [oe];rw [decide_eq_true (by omega),ap,JR A (by omega),bo];have hw:w64 ((n:Int)+1)=((n+1:Nat):Int):=by rw [aj (by omega) (by omega)];omega
  rw [hw,ih (n+1) f (by omega) (by omega)];unfold lsy;by_cases c:(eN A n).2.2=0
  ·rw [if_pos c,if_pos c]
   cases m <;> rfl
  ·rw [if_neg c,if_neg c,if_pos rfl]
def Nt (A:Ask):Bool:=lsy A (A.ls.length+2) 0
theorem au0 (A:Ask)(hA:A.ls.length<=40){k:Bool->Option α}:oF α A.ix (A.ls.map rL) A.oi A.ol k=if Nt A=true then k true else k false:=by
 have hw:w64 ((A.ls.length:Int)+2)=((A.ls.length+2:Nat):Int):=by rw [aj (by omega) (by omega)];omega
 have hf:A.ls.length+2 < aF:=by have:=bC;omega
 simp only [oF,af,YE,List.length_map,hw,vJ,af,FX];exact at3 hA (fun _ _=>rfl) (A.ls.length+2) 0 aF (by omega) hf
theorem pG {n lo hi:Int}{k:Bool->Option α}:nD α n lo hi k=k (decide (lo<=n/\n<=hi)):=by
 simp only [nD,af,afl];by_cases h:lo<=n
 ·rw [decide_eq_true h,ap]
  by_cases h2:n<=hi
  ·rw [decide_eq_true h2,decide_eq_true ⟨h,h2⟩]
  ·rw [decide_eq_false h2,decide_eq_false (fun q=>h2 q.2)]
 ·rw [decide_eq_false h,al,decide_eq_false (fun q=>h q.1)]
theorem cM {p:Prop}[Decidable p]{a b:Option α}:cK (!decide p) a b=if p then b else a:=by
 by_cases h:p
 ·rw [if_pos h,decide_eq_true h];rfl
 ·rw [if_neg h,decide_eq_false h];rfl
def f4 (lo hi a b:Int):Int:=if (a<=lo/\lo<=b)/\a<=hi/\hi<=b then (if hi < lo then 10 else 0) else 2
theorem apb {lo hi:Int}{k:Int->Option α}:EG α lo hi k=k (f4 lo hi 0 9999):=by
 simp only [EG,af,Wz,wr,af,E4,Di,af,QY,pG,cM];unfold f4;by_cases h1:(0:Int)<=lo/\lo<=9999
 ·rw [if_pos h1]
  by_cases h2:(0:Int)<=hi/\hi<=9999
  ·rw [if_pos h2,aK,if_pos (And.intro h1 h2)]
   by_cases h3:hi < lo
   ·rw [if_pos h3,if_pos h3]
   ·rw [if_neg h3,if_neg h3]
  ·rw [if_neg h2,if_neg (fun h=>h2 h.2)]
 ·rw [if_neg h1,ap,if_neg (fun h=>h1 h.1)]
theorem ab0 {lo hi:Int}{k:Int->Option α}:EM α lo hi k=k (f4 lo hi 1000 200000):=by
 simp only [EM,af,Wa,sW,af,FC,DU,af,Vl,pG,cM];unfold f4;by_cases h1:(1000:Int)<=lo/\lo<=200000
 ·rw [if_pos h1]
  by_cases h2:(1000:Int)<=hi/\hi<=200000
  ·rw [if_pos h2,aK,if_pos (And.intro h1 h2)]
   by_cases h3:hi < lo
   ·rw [if_pos h3,if_pos h3]
   ·rw [if_neg h3,if_neg h3]
  ·rw [if_neg h2,if_neg (fun h=>h2 h.2)]
 ·rw [if_neg h1,ap,if_neg (fun h=>h1 h.1)]
def abz (l:L5):Bool:=decide (((5000<=l.1/\l.1<=80000)/\5000<=l.2.1/\l.2.1<=80000)/\((0<=l.2.2.1/\l.2.2.1<=1000000)/\0<=l.2.2.2.1/\l.2.2.2.1<=1000000)/\0<=l.2.2.2.2/\l.2.2.2.2<=80000)
def vW (l:L5):Int:=if abz l=true then (if l.2.1 < l.1 then 10 else if l.2.2.2.1 < l.2.2.1 then 10 else 0) else 2
theorem ax0 (l:L5){k:Bool->Option α}:qZ α l.1 l.2.1 l.2.2.1 l.2.2.2.1 l.2.2.2.2 k=if abz l=true then k false else k true:=by
 simp only [qZ,af,LA,rg,af,Kq,CH,af,Ph,zk,af,JD,pG,cM];unfold abz;by_cases h1:5000<=l.1/\l.1<=80000
 ·rw [if_pos h1]
  by_cases h2:5000<=l.2.1/\l.2.1<=80000
  ·rw [if_pos h2]
   by_cases h3:0<=l.2.2.1/\l.2.2.1<=1000000
   ·rw [if_pos h3]
    by_cases h4:0<=l.2.2.2.1/\l.2.2.2.1<=1000000
    ·rw [if_pos h4]
     by_cases h5:0<=l.2.2.2.2/\l.2.2.2.2<=80000
     ·rw [decide_eq_true h5,if_pos (decide_eq_true ⟨⟨h1,h2⟩,⟨h3,h4⟩,h5⟩)];rfl
     ·rw [decide_eq_false h5,if_neg (fun h=>h5 (of_decide_eq_true h).2.2)];rfl
    ·rw [if_neg h4,if_neg (fun h=>h4 (of_decide_eq_true h).2.1.2)]
   ·rw [if_neg h3,if_neg (fun h=>h3 (of_decide_eq_true h).2.1.1)]
  ·rw [if_neg h2,if_neg (fun h=>h2 (of_decide_eq_true h).1.2)]
 ·rw [if_neg h1,if_neg (fun h=>h1 (of_decide_eq_true h).1.1)]
def lsE:List L5->Int
 | []=>0
 | l::ls=>if vW l=0 then lsE ls else vW l
theorem axP {ls:List L5}(hA:ls.length<=40){k1:Int->Int->Option α}{k2:Int->Bool->Option α}{Y:Option α}{K:Int->Option α}(h1:∀ x e,k1 x e=K e)(h2:∀ x b,k2 x b=Y) :
  ∀ (rest:List L5) (i n:Nat),ls.drop i=rest->i<=ls.length->rest.length < n ->
  qA α (ls.map rL) (ls.length:Int) k1 k2 n (i:Int)=if lsE rest=0 then Y else K (lsE rest):=by
 intro rest
 induction rest with
 | nil=>
  intro i n hd hi hn;obtain⟨n,rfl⟩:∃ n',n=n'+1:=⟨n - 1,by simp only [List.length_nil] at hn;omega⟩
  have hl:ls.length<=i:=List.drop_eq_nil_iff.1 hd;rw [qA];simp only [wm];rw [decide_eq_false (by omega),al,h2];rfl
 | cons l rs ih=>
  intro i n hd hi hn;obtain⟨n,rfl⟩:∃ n',n=n'+1:=⟨n - 1,by omega⟩
  have hl:i < ls.length:=by
   by_cases h:i < ls.length
   ·exact h
   ·rw [List.drop_eq_nil_of_le (by omega)] at hd;cases hd
  have hg:ls[i]?=some l:=by
   have:=congrArg List.head? hd;rw [List.head?_drop] at this;exact this
  have hd':ls.drop (i+1)=rs:=by
   have:=congrArg List.tail hd;rw [List.tail_drop] at this;exact this
  have hw:w64 ((i:Int)+1)=((i+1:Nat):Int):=by rw [aj (by omega) (by omega)];omega
  have hn':rs.length < n:=by simp only [List.length_cons] at hn;omega
  rw [qA];simp only [wm];rw [decide_eq_true (by omega),ap,ON hg,ax0];simp only [ap,al,aK,h1,hw];rw [ih (i+1) n hd' (by omega) hn'];unfold lsE vW;by_cases c1:abz l=true
  ·simp only [if_pos c1]
   by_cases c2:l.2.1 < l.1
   ·simp only [if_pos c2];rfl
   ·simp only [if_neg c2]
    by_cases c3:l.2.2.2.1 < l.2.2.1
    ·simp only [if_pos c3];rfl
    ·simp only [if_neg c3,if_true]
     cases rs <;> rfl
  ·simp only [if_neg c1];rfl
def ckA (A:Ask):Int:=
 if 5000<=A.ix/\A.ix<=80000 then
  if f4 A.s1 A.s2 0 9999=0 then
   if 0<=A.pol/\A.pol<=1 then
    if f4 A.w1 A.w2 1000 200000=0 then
     if 40 < (A.ls.length:Int) then 8 else
     if lsE A.ls=0 then
      if 5000<=A.oi/\A.oi<=80000 then (if 0<=A.ol/\A.ol<=80000 then 0 else 2) else 2
     else lsE A.ls
    else f4 A.w1 A.w2 1000 200000
   else 11
  else f4 A.s1 A.s2 0 9999
 else 2
theorem acG (A:Ask){k:Int->Option α}:Fd α A.ix A.s1 A.s2 A.pol A.w1 A.w2 (A.ls.map rL) A.oi A.ol (fun _ e=>k e)=k (ckA A):=by
 simp only [Fd,af,adb,rg,af,Kq,zk,af,JD,pG,cM,apb,ab0,bo,aK,List.length_map];unfold ckA;split
 ·split
  ·split
   ·split
    ·split
     ·rfl
     ·rename_i h
      have hf:A.ls.length < aF:=by have:=bC;omega
      rw [zY,af,Oi];refine (axP (K:=k) (by omega) (fun _ _=>rfl) (fun _ _=>rfl) A.ls 0 aF rfl (Nat.zero_le _) hf).trans ?_;by_cases c:lsE A.ls=0
      ·rw [if_pos c,if_pos c]
       split
       ·split <;> rfl
       ·rfl
      ·rw [if_neg c,if_neg c]
    ·rfl
   ·rfl
  ·rfl
 ·rfl
theorem JW {lo hi a b:Int}(h:f4 lo hi a b=0):(a<=lo/\lo<=b)/\(a<=hi/\hi<=b)/\lo<=hi:=by
 unfold f4 at h;split at h
 ·rename_i g
  split at h
  ·cases h
  ·omega
 ·cases h
theorem jY {A:Ask}(h:ckA A=0):(5000<=A.ix/\A.ix<=80000)/\f4 A.s1 A.s2 0 9999=0/\(0<=A.pol/\A.pol<=1)/\f4 A.w1 A.w2 1000 200000=0/\A.ls.length<=40/\lsE A.ls=0/\(5000<=A.oi/\A.oi<=80000)/\0<=A.ol/\A.ol<=80000:=by
 unfold ckA at h;by_cases c1:5000<=A.ix/\A.ix<=80000
 ·rw [if_pos c1] at h
  by_cases c2:f4 A.s1 A.s2 0 9999=0
  ·rw [if_pos c2] at h
   by_cases c3:0<=A.pol/\A.pol<=1
   ·rw [if_pos c3] at h
    by_cases c4:f4 A.w1 A.w2 1000 200000=0
    ·rw [if_pos c4] at h
     by_cases c5:40 < (A.ls.length:Int)
     ·rw [if_pos c5] at h;cases h
     ·rw [if_neg c5] at h
      by_cases c6:lsE A.ls=0
      ·rw [if_pos c6] at h
       by_cases c7:5000<=A.oi/\A.oi<=80000
       ·rw [if_pos c7] at h
        by_cases c8:0<=A.ol/\A.ol<=80000
        ·exact⟨c1,c2,c3,c4,by omega,c6,c7,c8⟩
        ·rw [if_neg c8] at h;cases h
       ·rw [if_neg c7] at h;cases h
      ·rw [if_neg c6] at h;exact absurd h c6
    ·rw [if_neg c4] at h;exact absurd h c4
   ·rw [if_neg c3] at h;cases h
  ·rw [if_neg c2] at h;exact absurd h c2
 ·rw [if_neg c1] at h;cases h
end Go.AM.K

namespace Go.AM.K
set_option linter.unusedVariables false
set_option linter.unusedSimpArgs false
variable {α:Type}
abbrev Q6:=Int × Int × Int × Int × Int × Int
def KS (k:Int->Int->Int->Int->Int->Int->Int->Option α)(u:Q6 × Int):Option α:=k u.1.1 u.1.2.1 u.1.2.2.1 u.1.2.2.2.1 u.1.2.2.2.2.1 u.1.2.2.2.2.2 u.2
theorem aA6 {k:Int->Int->Int->Int->Int->Int->Int->Option α}{a b c d e f g:Int}:KS k ((a,b,c,d,e,f),g)=k a b c d e f g:=rfl
def iv (x:Int):Int:=if 1048576 < x then 1048576 else x
def LO (x y:Int):Int:=pos (w64 (w64 (1048576 - x) - y))
theorem XM {x y:Int}{k:Int->Int->Option α}:yx α x y k=k (iv x) (iv y):=by rw [yx,af,X2];rfl
theorem arA {a b c d:Int}{k:Int->Int->Option α}:nS α a b c d k=k (LO b d) (LO a c):=by rw [nS,af,VA];rfl
def Ek (A:Ask)(st:Bool)(a b c d:Int):Q6 × Int:=
 if st=true then (if Nt A=true then ((a,b,0,0,LO b 0,LO a 0),0) else ((a,b,0,0,0,0),0))
 else (if Nt A=true then ((a,b,c,d,LO b d,LO a c),0) else ((a,b,c,d,0,0),0))
def z6:Q6:=(0,0,0,0,0,0)
def gC (A:Ask):Q6 × Int:=
 if ckA A=0 then
  bnd (eI A false 0) fun r e1=>bnd (eI A true e1) fun t e2=>bnd (cj A (A.ls.length+1) e2) fun l e3=>
  iI (jz e3 l) fun ul uh _ _ e4=>bnd (cj A 0 e4) fun f e5=>iI (jz e5 f) fun fl fh _ _ e6=>
  zA (bJ A (A.ls.length+1) e6) fun _ st e7=>
  if e7=0 then
   if fl<=0 then (z6,9) else
   kF (ng r) fun bl bh e8=>if e8=0 then
    kF (ng t) fun tl th e9=>if e9=0 then
     Ek A st (iv bl) (iv bh) (iv (dnI (w64 (pos ul*tl)) fh)) (iv (upI (w64 (pos uh*th)) fl))
    else (z6,e9)
   else (z6,e8)
  else (z6,e7)
 else (z6,ckA A)
theorem qd {β:Type}{u:Bl × Int}{f g:Bl->Int->β}(h:∀ a e,f a e=g a e):bnd u f=bnd u g:=by rw [aP,aP,h]
theorem O7 {β:Type}{u:Q4 × Int}{f g:Int->Int->Int->Int->Int->β}(h:∀ a b c d e,f a b c d e=g a b c d e):iI u f=iI u g:=by rw [cX,cX,h]
theorem Ed {β:Type}{u:Int × Int × Int}{f g:Int->Int->Int->β}(h:∀ a b c,f a b c=g a b c):kF u f=kF u g:=by rw [ki,ki,h]
theorem PP {β:Type}{u:Bl × Bool × Int}{f g:Bl->Bool->Int->β}(h:∀ a b c,f a b c=g a b c):zA u f=zA u g:=by rw [fq,fq,h]
theorem apV {e:Int}{a:Bl}(h:0 < (jz e a).1.1):(jz e a).1.2.1 ≠ 0:=by
 have g:=a.bd;unfold jz at *;by_cases c:e=0
 ·rw [if_pos c] at *
  unfold Bl.lo1 at h;show a.hi1 ≠ 0;unfold Bl.hi1;have h':0 < a.b.1 - a.b.2.2:=h;omega
 ·rw [if_neg c] at *
  exact absurd h (Int.lt_irrefl 0)
theorem akh {β:Type}{e:Int}{a:Bl}{f g:Int->Int->Int->Int->Int->β}(h:∀ x y c d e,(0 < x->y ≠ 0)->f x y c d e=g x y c d e):iI (jz e a) f=iI (jz e a) g:=by
 rw [cX,cX];exact h _ _ _ _ _ apV
theorem azP (A:Ask)(hA:A.ls.length<=40){st:Bool}{a b c d:Int}{k:Int->Int->Int->Int->Int->Int->Int->Option α} :
  pp α st (oF α A.ix (A.ls.map rL) A.oi A.ol fun x=>cK x (nS α a b 0 0 fun x82 x83=>k a b 0 0 x82 x83 0) (k a b 0 0 0 0 0))
   (oF α A.ix (A.ls.map rL) A.oi A.ol fun x=>cK x (nS α a b c d fun x85 x86=>k a b c d x85 x86 0) (k a b c d 0 0 0))=KS k (Ek A st a b c d):=by
 simp only [pp,af,GA,au0 A hA,arA,ap,al];unfold Ek;simp only [apply_ite (KS k),aA6];simp only [rH]
theorem ao8 (A:Ask){k:Int->Int->Int->Int->Int->Int->Int->Option α} :
  Dh α A.ix A.s1 A.s2 A.pol A.w1 A.w2 (A.ls.map rL) A.oi A.ol k=KS k (gC A):=by
 simp only [Dh,af,YP,JN,af,Yu,acG,bo];unfold gC;by_cases c:ckA A=0
 ·rw [if_pos c,if_pos c]
  obtain⟨_,_,_,hw,hA,_⟩:=jY c;have hw':=JW hw;have h1:A.w1 ≠ 0:=by omega
  have h2:A.w2 ≠ 0:=by omega
  have hww:w64 ((A.ls.length:Int)+1)=((A.ls.length+1:Nat):Int):=by rw [aj (by omega) (by omega)];omega
  have hl:A.ls.length+1 < 1000000:=by omega
  have h0:∀ (e:Int) (k:Nat->Nat->Int->Int->Option α),jX α e A.ix A.s1 A.s2 A.pol (A.ls.map rL) A.oi A.ol 0 k=bnd (cj A 0 e) fun u e=>k u.n1 u.n2 u.r e:=fun e k=>uv A (n:=0) (by decide) e;simp only [List.length_map,hww,h0,asj A _ hA h1 h2,uv A hl,H6 A hl,JL,gP (KS k),qC (KS k),yE (KS k)];refine qd fun r e1=>qd fun t e2=>qd fun l e3=>O7 fun ul uh _ _ e4=>qd fun f e5=>akh fun fl fh _ _ e6 hf=>PP fun _ st e7=>?_;by_cases c7:e7=0
  ·rw [if_pos c7,if_pos c7,aK]
   by_cases cf:fl<=0
   ·rw [if_pos cf,if_pos cf];rfl
   ·rw [if_neg cf,if_neg cf,Qi,xC (KS k)]
    refine Ed fun bl bh e8=>?_;by_cases c8:e8=0
    ·rw [if_pos c8,if_pos c8,Qi,xC (KS k)]
     refine Ed fun tl th e9=>?_;by_cases c9:e9=0
     ·rw [if_pos c9,if_pos c9,XL,XM,tV (hf (by omega)),vv (by omega),XM]
      exact azP A hA
     ·rw [if_neg c9,if_neg c9];rfl
    ·rw [if_neg c8,if_neg c8];rfl
  ·rw [if_neg c7,if_neg c7];rfl
 ·rw [if_neg c,if_neg c];rfl
end Go.AM.K

namespace Go.AM.K
set_option linter.unusedVariables false
set_option linter.unusedSimpArgs false
theorem axe (a:Bl):(0<=(ng a).1/\(ng a).1<=8589934592)/\0<=(ng a).2.1/\(ng a).2.1<=34359738368:=by
 have g:=a.bd;have d:=a.dn_bd;have u:=a.up_bd;show (0<=a.eLo/\a.eLo<=8589934592)/\0<=a.eHi/\a.eHi<=34359738368;unfold Bl.eLo Bl.eHi cdv;simp only [];have hz:∀ z B:Int,0<=z->z<=B->0<=z*z/\z*z<=B*B:=fun z B h1 h2=>
  ⟨Int.mul_nonneg h1 h1,Int.mul_le_mul h2 h2 h1 (by omega)⟩
 have h1:=hz (if a.dn - a.b.2.2 > 0 then a.dn - a.b.2.2 else 0) 94906265 (by split <;> omega) (by split <;> omega);have h2:=hz (a.up+a.b.2.2) 162015130 (by omega) (by omega);generalize (if a.dn - a.b.2.2 > 0 then a.dn - a.b.2.2 else 0)=z1 at *;generalize a.up+a.b.2.2=z2 at *;generalize z1*z1=y1 at *;generalize z2*z2=y2 at *;omega
theorem OO {x:Int}(h:x<=134217728):0<=pos x/\pos x<=134217728:=by unfold pos;split <;> omega
end Go.AM.K

namespace Go.AM.K
set_option linter.unusedVariables false
set_option linter.unusedSimpArgs false
variable {α:Type}
structure Dm where
 sh:Int
 pol:Int
 ix:Int
 s1:Int
 s2:Int
 w1:Int
 w2:Int
 lo:Int
 hi:Int
abbrev rD (d:Dm):List DC:=[.v (.int .i64 d.sh),.v (.int .i64 d.pol),.v (.int .i64 d.ix),.v (.int .i64 d.s1),.v (.int .i64 d.s2),.v (.int .i64 d.w1),.v (.int .i64 d.w2),.v (.int .i64 d.lo),.v (.int .i64 d.hi)]
theorem rm {ds:List Dm}{i:Nat}{d:Dm}(h:ds[i]?=some d){f:Int->Int->Int->Int->Int->Int->Int->Int->Int->Option α} :
  dG (ds.map rD) (i:Int) [.int .i64,.int .i64,.int .i64,.int .i64,.int .i64,.int .i64,.int .i64,.int .i64,.int .i64] f=f d.sh d.pol d.ix d.s1 d.s2 d.w1 d.w2 d.lo d.hi:=by
 refine (nw (r:=rD d) ?_).trans rfl;rw [List.getElem?_map,h];rfl
theorem IF {n lo hi:Int}{k:Bool->Option α}:oq α n lo hi k=k (decide (lo<=n/\n<=hi)):=by
 simp only [oq,af,aeg];by_cases h:lo<=n
 ·rw [decide_eq_true h,ap]
  by_cases h2:n<=hi
  ·rw [decide_eq_true h2,decide_eq_true ⟨h,h2⟩]
  ·rw [decide_eq_false h2,decide_eq_false (fun q=>h2 q.2)]
 ·rw [decide_eq_false h,al,decide_eq_false (fun q=>h q.1)]
theorem Ex {p q:Prop}[Decidable p][Decidable q]{k:Bool->Option α}:cK (decide p) (k (decide q)) (k false)=k (decide (p/\q)):=by
 by_cases h:p
 ·rw [decide_eq_true h,ap]
  by_cases h2:q
  ·rw [decide_eq_true h2,decide_eq_true ⟨h,h2⟩]
  ·rw [decide_eq_false h2,decide_eq_false (fun q=>h2 q.2)]
 ·rw [decide_eq_false h,al,decide_eq_false (fun q=>h q.1)]
theorem afx {p q:Prop}[Decidable p][Decidable q]{k:Bool->Option α}:cK (!decide p) (k true) (k (!decide q))=k (!decide (p/\q)):=by
 by_cases h:p
 ·rw [decide_eq_true h,Bool.not_true,al]
  by_cases h2:q
  ·rw [decide_eq_true h2,decide_eq_true ⟨h,h2⟩]
  ·rw [decide_eq_false h2,decide_eq_false (fun q=>h2 q.2)]
 ·rw [decide_eq_false h,Bool.not_false,ap,decide_eq_false (fun q=>h q.1),Bool.not_false]
theorem RN {a b lo hi:Int}{k:Bool->Option α}:yF α a b lo hi k=k (decide ((lo<=a/\a<=hi)/\lo<=b/\b<=hi)):=by
 simp only [yF,af,P6,IF,Ex]
theorem anB {a b:Int}{k:Bool->Option α}:D9 α a b k=k (decide ((0<=a/\a<=2)/\0<=b/\b<=1)):=by
 simp only [D9,af,Vs,IF,Ex]
theorem ab7 {a b c:Int}{k:Bool->Option α}:n8 α a b c k=k (!decide ((5000<=a/\a<=80000)/\(0<=b/\b<=9999)/\0<=c/\c<=9999)):=by
 simp only [n8,af,FM,IF,RN,afx]
theorem ZO {a b:Int}{k:Bool->Option α}:pj α a b k=k (!decide ((0<=a/\a<=10000)/\0<=b/\b<=10000)):=by
 simp only [pj,af,E8,IF,afx]
def ckD (d:Dm):Int:=
 if (0<=d.sh/\d.sh<=2)/\0<=d.pol/\d.pol<=1 then
  if (5000<=d.ix/\d.ix<=80000)/\(0<=d.s1/\d.s1<=9999)/\0<=d.s2/\d.s2<=9999 then
   if d.s2 < d.s1 then 10 else
   if (1000<=d.w1/\d.w1<=200000)/\1000<=d.w2/\d.w2<=200000 then
    if d.w2 < d.w1 then 10 else
    if (0<=d.lo/\d.lo<=10000)/\0<=d.hi/\d.hi<=10000 then (if d.hi < d.lo then 24 else 0) else 2
   else 2
  else 2
 else 11
theorem aoW (d:Dm){k:Int->Option α}:Co α d.sh d.pol d.ix d.s1 d.s2 d.w1 d.w2 d.lo d.hi k=k (ckD d):=by
 simp only [Co,af,X1,anB,ab7,ZO,RN,cM,aK];unfold ckD;by_cases c1:(0<=d.sh/\d.sh<=2)/\0<=d.pol/\d.pol<=1
 ·rw [if_pos c1,if_pos c1]
  by_cases c2:(5000<=d.ix/\d.ix<=80000)/\(0<=d.s1/\d.s1<=9999)/\0<=d.s2/\d.s2<=9999
  ·rw [if_pos c2,if_pos c2]
   by_cases c3:d.s2 < d.s1
   ·rw [if_pos c3,if_pos c3]
   ·rw [if_neg c3,if_neg c3]
    by_cases c4:(1000<=d.w1/\d.w1<=200000)/\1000<=d.w2/\d.w2<=200000
    ·rw [if_pos c4,if_pos c4]
     by_cases c5:d.w2 < d.w1
     ·rw [if_pos c5,if_pos c5]
     ·rw [if_neg c5,if_neg c5]
      by_cases c6:(0<=d.lo/\d.lo<=10000)/\0<=d.hi/\d.hi<=10000
      ·rw [if_pos c6,if_pos c6]
       by_cases c7:d.hi < d.lo
       ·rw [if_pos c7,if_pos c7]
       ·rw [if_neg c7,if_neg c7]
      ·rw [if_neg c6,if_neg c6]
    ·rw [if_neg c4,if_neg c4]
  ·rw [if_neg c2,if_neg c2]
 ·rw [if_neg c1,if_neg c1]
theorem OU {d:Dm}(h:ckD d=0):((0<=d.sh/\d.sh<=2)/\0<=d.pol/\d.pol<=1)/\((5000<=d.ix/\d.ix<=80000)/\(0<=d.s1/\d.s1<=9999)/\0<=d.s2/\d.s2<=9999)/\¬ d.s2 < d.s1 /\
  ((1000<=d.w1/\d.w1<=200000)/\1000<=d.w2/\d.w2<=200000)/\¬ d.w2 < d.w1/\((0<=d.lo/\d.lo<=10000)/\0<=d.hi/\d.hi<=10000)/\¬ d.hi < d.lo:=by
 unfold ckD at h;by_cases c1:(0<=d.sh/\d.sh<=2)/\0<=d.pol/\d.pol<=1
 ·rw [if_pos c1] at h
  by_cases c2:(5000<=d.ix/\d.ix<=80000)/\(0<=d.s1/\d.s1<=9999)/\0<=d.s2/\d.s2<=9999
  ·rw [if_pos c2] at h
   by_cases c3:d.s2 < d.s1
   ·rw [if_pos c3] at h;cases h
   ·rw [if_neg c3] at h
    by_cases c4:(1000<=d.w1/\d.w1<=200000)/\1000<=d.w2/\d.w2<=200000
    ·rw [if_pos c4] at h
     by_cases c5:d.w2 < d.w1
     ·rw [if_pos c5] at h;cases h
     ·rw [if_neg c5] at h
      by_cases c6:(0<=d.lo/\d.lo<=10000)/\0<=d.hi/\d.hi<=10000
      ·rw [if_pos c6] at h
       by_cases c7:d.hi < d.lo
       ·rw [if_pos c7] at h;cases h
       ·exact⟨c1,c2,c3,c4,c5,c6,c7⟩
      ·rw [if_neg c6] at h;cases h
    ·rw [if_neg c4] at h;cases h
  ·rw [if_neg c2] at h;cases h
 ·rw [if_neg c1] at h;cases h
def dsE:List Dm->Int
 | []=>0
 | d::ds=>if ckD d=0 then dsE ds else ckD d
theorem azQ {ds:List Dm}(hA:ds.length<=8){k1:Int->Int->Option α}{k2:Int->Bool->Option α}{Y:Option α}{K:Int->Option α}(h1:∀ x e,k1 x e=K e)(h2:∀ x b,k2 x b=Y) :
  ∀ (rest:List Dm) (i n:Nat),ds.drop i=rest->i<=ds.length->rest.length < n ->
  qb α (ds.map rD) (ds.length:Int) k1 k2 n (i:Int)=if dsE rest=0 then Y else K (dsE rest):=by
 intro rest
 induction rest with
 | nil=>
  intro i n hd hi hn;obtain⟨n,rfl⟩:∃ n',n=n'+1:=⟨n - 1,by simp only [List.length_nil] at hn;omega⟩
  have hl:ds.length<=i:=List.drop_eq_nil_iff.1 hd;rw [qb];simp only [wT];rw [decide_eq_false (by omega),al,h2];rfl
 | cons d rs ih=>
  intro i n hd hi hn;obtain⟨n,rfl⟩:∃ n',n=n'+1:=⟨n - 1,by omega⟩
  have hl:i < ds.length:=by
   by_cases h:i < ds.length
   ·exact h
   ·rw [List.drop_eq_nil_of_le (by omega)] at hd;cases hd
  have hg:ds[i]?=some d:=by
   have:=congrArg List.head? hd;rw [List.head?_drop] at this;exact this
  have hd':ds.drop (i+1)=rs:=by
   have:=congrArg List.tail hd;rw [List.tail_drop] at this;exact this
  have hw:w64 ((i:Int)+1)=((i+1:Nat):Int):=by rw [aj (by omega) (by omega)];omega
  have hn':rs.length < n:=by simp only [List.length_cons] at hn;omega
  rw [qb];simp only [wT];rw [decide_eq_true (by omega),ap,rm hg,aoW,bo,h1,hw,ih (i+1) n hd' (by omega) hn'];show _=if (if ckD d=0 then dsE rs else ckD d)=0 then Y else K (if ckD d=0 then dsE rs else ckD d);by_cases c:ckD d=0
  ·rw [if_pos c,if_pos c]
  ·rw [if_neg c,if_neg c,if_neg c]
def dms (ds:List Dm):Int:=if ds.length=0 then 12 else if 8 < ds.length then 8 else dsE ds
theorem ay2 {ds:List Dm}{k:Int->Option α}:HI α (ds.map rD) (fun _ e=>k e)=k (dms ds):=by
 simp only [HI,af,Pp,List.length_map,gS,aK];unfold dms;by_cases c1:ds.length=0
 ·rw [if_pos (by omega),if_pos c1]
 ·rw [if_neg (by omega),if_neg c1]
  by_cases c2:8 < ds.length
  ·rw [if_pos (by omega),if_pos c2]
  ·rw [if_neg (by omega),if_neg c2,AP,af,Oo]
   have hf:ds.length < aF:=by have:=bC;omega
   refine (azQ (K:=k) (by omega) (fun _ _=>rfl) (fun _ _=>rfl) ds 0 aF rfl (Nat.zero_le _) hf).trans ?_;by_cases c:dsE ds=0
   ·rw [if_pos c,c]
   ·rw [if_neg c]
def j3 (d:Dm)(ls:List L5)(oi ol:Int):Ask:=⟨d.ix,d.s1,d.s2,d.pol,d.w1,d.w2,ls,oi,ol⟩
theorem azc {d:Dm}{ds:List Dm}{ls:List L5}{oi ol:Int}{k:Int->Option α} :
  Dy α ((d::ds).map rD) (ls.map rL) oi ol (fun _ e=>k e)=k (if dms (d::ds)=0 then ckA (j3 d ls oi ol) else dms (d::ds)):=by
 simp only [Dy,af,OS];refine (ay2 (k:=fun e=>_)).trans ?_;rw [bo];by_cases c:dms (d::ds)=0
 ·rw [if_pos c,if_pos c]
  refine (rm (i:=0) (d:=d) rfl).trans ?_;refine (rm (i:=0) (d:=d) rfl).trans ?_;rw [GL,af,PB,F4,af,Pu];exact acG (j3 d ls oi ol)
 ·rw [if_neg c,if_neg c]
def axn (d:Dm)(ds:List Dm)(ls:List L5)(oi ol:Int):Int:=if dms (d::ds)=0 then ckA (j3 d ls oi ol) else dms (d::ds)
def arM (s:Int)(q:Q6):Int × Int:=if s=2 then (q.2.2.2.2.1,q.2.2.2.2.2) else if s=1 then (q.2.2.1,q.2.2.2.1) else (q.1,q.2.1)
def r9 (d:Dm)(ls:List L5)(oi ol:Int):(Int × Int) × Int:=
 if (gC (j3 d ls oi ol)).2=0 then (arM d.sh (gC (j3 d ls oi ol)).1,0) else ((0,0),(gC (j3 d ls oi ol)).2)
theorem azE {d:Dm}(hs:0<=d.sh/\d.sh<=2){ls:List L5}{oi ol:Int}{k:Int->Int->Int->Option α} :
  LL α (ls.map rL) oi ol d.sh d.pol d.ix d.w1 d.w2 d.s1 d.s2 k=k (r9 d ls oi ol).1.1 (r9 d ls oi ol).1.2 (r9 d ls oi ol).2:=by
 simp only [LL,af,aig,F4,af,Pu];refine (ao8 (j3 d ls oi ol)).trans ?_;unfold KS r9 arM;generalize gC (j3 d ls oi ol)=q;show cK (q.2 != 0) (k 0 0 q.2) (cK (d.sh == 2) (k q.1.2.2.2.2.1 q.1.2.2.2.2.2 0) (cK (d.sh == 1) (k q.1.2.2.1 q.1.2.2.2.1 0) (cK (d.sh == 0) (k q.1.1 q.1.2.1 0) none)))=_;rw [bo];by_cases c:q.2=0
 ·simp only [if_pos c]
  by_cases c2:d.sh=2
  ·simp only [if_pos c2]
   rw [beq_iff_eq.2 c2,ap]
  ·simp only [if_neg c2]
   rw [beq_eq_false_iff_ne.2 c2,al];by_cases c1:d.sh=1
   ·simp only [if_pos c1]
    rw [beq_iff_eq.2 c1,ap]
   ·simp only [if_neg c1]
    rw [beq_eq_false_iff_ne.2 c1,al,beq_iff_eq.2 (show d.sh=0 by omega),ap]
 ·simp only [if_neg c]
end Go.AM.K

namespace Go.AM.K
set_option linter.unusedVariables false
set_option linter.unusedSimpArgs false
variable {α:Type}
def gx (d:Dm)(ls:List L5)(oi ol:Int):Int:=
 if (r9 d ls oi ol).2=0 then
  if w64 (d.lo*1048576)<=w64 ((r9 d ls oi ol).1.1*10000)/\w64 ((r9 d ls oi ol).1.2*10000)<=w64 (d.hi*1048576) then 2 else
  if w64 ((r9 d ls oi ol).1.2*10000) < w64 (d.lo*1048576) then 0 else if w64 (d.hi*1048576) < w64 ((r9 d ls oi ol).1.1*10000) then 0 else 1
 else 1
theorem ayE {a b c d:Int}{k:Bool->Option α}:ub α a b c d k=k (decide (c<=a/\b<=d)):=by
 rw [ub,af,LF];exact Ex
theorem afT {d:Dm}(hs:0<=d.sh/\d.sh<=2){ls:List L5}{oi ol:Int}{k:Int->Option α} :
  gl α (ls.map rL) oi ol d.sh d.pol d.ix d.lo d.hi d.w1 d.w2 d.s1 d.s2 k=k (gx d ls oi ol):=by
 simp only [gl,af,aeB];rw [azE hs];unfold gx;generalize r9 d ls oi ol=u;simp only [ayE];rw [bo,aK,aK,aK];by_cases c:u.2=0
 ·rw [if_pos c,if_pos c]
  by_cases c1:w64 (d.lo*1048576)<=w64 (u.1.1*10000)/\w64 (u.1.2*10000)<=w64 (d.hi*1048576)
  ·rw [if_pos c1,if_pos c1]
  ·rw [if_neg c1,if_neg c1]
   by_cases c2:w64 (u.1.2*10000) < w64 (d.lo*1048576)
   ·rw [if_pos c2,if_pos c2]
   ·rw [if_neg c2,if_neg c2]
    by_cases c3:w64 (d.hi*1048576) < w64 (u.1.1*10000)
    ·rw [if_pos c3,if_pos c3]
    ·rw [if_neg c3,if_neg c3]
 ·rw [if_neg c,if_neg c]
end Go.AM.K
