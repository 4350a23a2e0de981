/- Stacks: calculating with balls behind errors, one step after the other. -/
import Derived.Test.YtmcplmhohldpjaaGreatYWd
namespace Go.AM.K
set_option linter.unusedVariables false
set_option linter.unusedSimpArgs false
variable {α:Type}
def tw {β:Type}(n:Int)(f:(m:Int)->n=m->β):β:=match n,f with
 | .ofNat 0,f=>f 0 rfl
 | .ofNat (m+1),f=>f (.ofNat (m+1)) rfl
 | .negSucc 0,f=>f (-1) rfl
 | .negSucc (m+1),f=>f (.negSucc (m+1)) rfl
theorem fP {β:Type}(n:Int)(f:(m:Int)->n=m->β):tw n f=f n rfl:=by
 unfold tw
 split <;> rfl
theorem am8 {u:Bl}{x y r:Int}(hx:u.b.1=x)(hy:u.b.2.1=y)(hr:u.b.2.2=r):okS (x,y,r)=true:=by
 subst hx;subst hy;subst hr
 exact u.ok
def bnd {β:Type}(u:Bl × Int)(f:Bl->Int->β):β:=
 tw u.1.b.1 fun x hx=>tw u.1.b.2.1 fun y hy=>tw u.1.b.2.2 fun r hr=>tw u.2 fun e _=>f ⟨(x,y,r),am8 hx hy hr⟩ e
theorem aL {β:Type}(u:Bl × Int)(f:Bl->Int->β):bnd u f=f u.1 u.2:=by
 unfold bnd
 rw [fP,fP,fP,fP]
theorem gu {β γ:Type}(F:β->γ)(u:Bl × Int)(G:Bl->Int->β):F (bnd u G)=bnd u fun a e=>F (G a e):=by
 rw [aL,aL]
abbrev Q4:=Int × Int × Int × Int
def pG {β:Type}(u:Q4 × Int)(f:Int->Int->Int->Int->Int->β):β:=
 tw u.1.1 fun a _=>tw u.1.2.1 fun b _=>tw u.1.2.2.1 fun c _=>tw u.1.2.2.2 fun d _=>tw u.2 fun e _=>f a b c d e
theorem eB {β:Type}(u:Q4 × Int)(f:Int->Int->Int->Int->Int->β):pG u f=f u.1.1 u.1.2.1 u.1.2.2.1 u.1.2.2.2 u.2:=by
 unfold pG
 rw [fP,fP,fP,fP,fP]
theorem oy {β γ:Type}(F:β->γ)(u:Q4 × Int)(G:Int->Int->Int->Int->Int->β):F (pG u G)=pG u fun a b c d e=>F (G a b c d e):=by
 rw [eB,eB]
def wE {β:Type}(u:Int × Int × Int)(f:Int->Int->Int->β):β:=
 tw u.1 fun a _=>tw u.2.1 fun b _=>tw u.2.2 fun c _=>f a b c
theorem fN {β:Type}(u:Int × Int × Int)(f:Int->Int->Int->β):wE u f=f u.1 u.2.1 u.2.2:=by
 unfold wE
 rw [fP,fP,fP]
theorem uL {β γ:Type}(F:β->γ)(u:Int × Int × Int)(G:Int->Int->Int->β):F (wE u G)=wE u fun a b c=>F (G a b c):=by
 rw [fN,fN]
def EI {β:Type}(u:Bl × Bool × Int)(f:Bl->Bool->Int->β):β:=
 match u with
 | (q,true,e)=>f q true e
 | (q,false,e)=>f q false e
theorem iF {β:Type}(u:Bl × Bool × Int)(f:Bl->Bool->Int->β):EI u f=f u.1 u.2.1 u.2.2:=by
 obtain⟨q,b,e⟩:=u
 cases b <;> rfl
theorem vc {β γ:Type}(F:β->γ)(u:Bl × Bool × Int)(G:Bl->Bool->Int->β):F (EI u G)=EI u fun a b e=>F (G a b e):=by
 rw [iF,iF]
abbrev Mt:=Bl × Bl × Bl × Bl
def u6 {β:Type}(u:Mt × Int)(f:Mt->Int->β):β:=match u with
 | ((a,b,c,d),e)=>f (a,b,c,d) e
theorem pp {β:Type}(u:Mt × Int)(f:Mt->Int->β):u6 u f=f u.1 u.2:=rfl
theorem Rm {β γ:Type}(F:β->γ)(u:Mt × Int)(G:Mt->Int->β):F (u6 u G)=u6 u fun a e=>F (G a e):=rfl
def Zp {β:Type}(u:(Mt × Bl) × Int)(f:Mt->Bl->Int->β):β:=match u with
 | (((a,b,c,d),g),e)=>f (a,b,c,d) g e
theorem MH {β:Type}(u:(Mt × Bl) × Int)(f:Mt->Bl->Int->β):Zp u f=f u.1.1 u.1.2 u.2:=rfl
theorem Rb {β γ:Type}(F:β->γ)(u:(Mt × Bl) × Int)(G:Mt->Bl->Int->β):F (Zp u G)=Zp u fun a g e=>F (G a g e):=rfl
theorem eE {x:Int}{a b:Option α}:cK (x != 0) a b=if x=0 then b else a:=by
 by_cases h:x=0
 ·rw [if_pos h,h];rfl
 ·rw [if_neg h,bne_iff_ne.2 h,aq]
theorem nq {x:Int}{a b:Option α}:cK (x == 0) a b=if x=0 then a else b:=by
 by_cases h:x=0
 ·rw [if_pos h,h];rfl
 ·rw [if_neg h,beq_eq_false_iff_ne.2 h,ap]
theorem Vy {x:Bool}{a b:Option α}:cK x a b=if x=true then a else b:=by cases x <;> rfl
def KN (k:Nat->Nat->Int->Bool->Int->Option α)(u:Bl × Bool × Int):Option α:=k u.1.n1 u.1.n2 u.1.r u.2.1 u.2.2
def KP (k:Int->Int->Int->Int->Int->Option α)(u:Q4 × Int):Option α:=k u.1.1 u.1.2.1 u.1.2.2.1 u.1.2.2.2 u.2
def KMt (k:Nat->Nat->Int->Nat->Nat->Int->Nat->Nat->Int->Nat->Nat->Int->Int->Option α)(u:Mt × Int):Option α:=
 k u.1.1.n1 u.1.1.n2 u.1.1.r u.1.2.1.n1 u.1.2.1.n2 u.1.2.1.r u.1.2.2.1.n1 u.1.2.2.1.n2 u.1.2.2.1.r u.1.2.2.2.n1 u.1.2.2.2.n2 u.1.2.2.2.r u.2
theorem abK {k:Nat->Nat->Int->Int->Option α}{a:Bl}{e:Int}:KB k (a,e)=k a.n1 a.n2 a.r e:=rfl
theorem at1 {k:Nat->Nat->Int->Bool->Int->Option α}{a:Bl}{b:Bool}{e:Int}:KN k (a,b,e)=k a.n1 a.n2 a.r b e:=rfl
theorem ahW {k:Nat->Nat->Int->Nat->Nat->Int->Nat->Nat->Int->Nat->Nat->Int->Int->Option α}{a b c d:Bl}{e:Int} :
  KMt k ((a,b,c,d),e)=k a.n1 a.n2 a.r b.n1 b.n2 b.r c.n1 c.n2 c.r d.n1 d.n2 d.r e:=rfl
def two (op:Bl->Bl->Bl × Int)(e:Int)(a b:Bl):Bl × Int:=if e=0 then op a b else (Bl0,e)
theorem vh {e:Int}{u:Bl × Int}{k:Nat->Nat->Int->Int->Option α}:cK (e != 0) (k 0 0 0 e) (KB k u)=bnd (if e=0 then u else (Bl0,e)) fun u e=>k u.n1 u.n2 u.r e:=by
 rw [aL,eE]
 by_cases h:e=0
 ·simp only [if_pos h];rfl
 ·simp only [if_neg h,yY,AQ,Gk]
theorem Eh (e:Int)(a b:Bl){k:Nat->Nat->Int->Int->Option α}:ir α e a.n1 a.n2 a.r b.n1 b.n2 b.r k=bnd (two dY e a b) fun u e=>k u.n1 u.n2 u.r e:=by
 simp only [ir,af,aam,FH,af,NB,fE,af,kh,ace]
 exact vh
theorem nj (e:Int)(a b:Bl){k:Nat->Nat->Int->Int->Option α}:eA α e a.n1 a.n2 a.r b.n1 b.n2 b.r k=bnd (two be e a b) fun u e=>k u.n1 u.n2 u.r e:=by
 simp only [eA,af,Z6,FJ,af,N5,fE,af,kh,adT]
 exact vh
theorem JY (e:Int)(a b:Bl){k:Nat->Nat->Int->Int->Option α}:wt α e a.n1 a.n2 a.r b.n1 b.n2 b.r k=bnd (two gG e a b) fun u e=>k u.n1 u.n2 u.r e:=by
 simp only [wt,af,YX,Fp,af,NZ,fE,af,kh,agG]
 exact vh
theorem IR (e:Int)(a b:Bl){k:Nat->Nat->Int->Int->Option α}:vY α e a.n1 a.n2 a.r b.n1 b.n2 b.r k=bnd (two mG e a b) fun u e=>k u.n1 u.n2 u.r e:=by
 simp only [vY,af,Yb,DS,af,Qf,fE,af,kh,ae0]
 exact vh
def Bl1:Bl:=⟨(1048576,0,0),by decide⟩
def Blc:Bl:=⟨(0,0,1048576),by decide⟩
theorem atY:FloatKind.nearest .f64 1048576=4697254411347427328:=by decide +kernel
theorem J9:Bl1.n1=4697254411347427328:=atY
theorem J3:Bl1.n2=0:=Uf
theorem V2:Bl1.r=0:=rfl
theorem aj7:Blc.n1=0:=Uf
theorem aj6:Blc.n2=0:=Uf
theorem aoy:Blc.r=1048576:=rfl
theorem afa (e:Int)(b:Bl){k:Nat->Nat->Int->Int->Option α}:ir α e 4697254411347427328 0 0 b.n1 b.n2 b.r k=bnd (two dY e Bl1 b) fun u e=>k u.n1 u.n2 u.r e:=by
 rw [<- Eh,J9,J3,V2]
theorem af7 (e:Int)(b:Bl){k:Nat->Nat->Int->Int->Option α}:wt α e 4697254411347427328 0 0 b.n1 b.n2 b.r k=bnd (two gG e Bl1 b) fun u e=>k u.n1 u.n2 u.r e:=by
 rw [<- JY,J9,J3,V2]
theorem aqt (e:Int)(b:Bl){k:Nat->Nat->Int->Int->Option α}:eA α e 0 0 1048576 b.n1 b.n2 b.r k=bnd (two be e Blc b) fun u e=>k u.n1 u.n2 u.r e:=by
 rw [<- nj,aj7,aj6,aoy]
def jg (e lo hi:Int):Bl × Int:=if e=0 then cq lo hi else (Bl0,e)
def wc (e n d:Int):Bl × Int:=if e=0 then vU n d else (Bl0,e)
theorem J6 {e lo hi:Int}{k:Nat->Nat->Int->Int->Option α}:vE α e lo hi k=bnd (jg e lo hi) fun u e=>k u.n1 u.n2 u.r e:=by
 simp only [vE,af,aaw,fE,af,kh,Fe]
 exact vh
theorem MV {e n d:Int}{k:Nat->Nat->Int->Int->Option α}:uU α e n d k=bnd (wc e n d) fun u e=>k u.n1 u.n2 u.r e:=by
 simp only [uU,af,Oi,fE,af,kh,acA]
 exact vh
theorem ac6 (a:Bl){k:Nat->Nat->Int->Int->Option α}:qD α a.n1 a.n2 a.r 1 k=bnd (z8 a) fun u e=>k u.n1 u.n2 u.r e:=by
 rw [LZ,aL];rfl
theorem alX (a:Bl){k:Nat->Nat->Int->Int->Option α}:DB α a.n1 a.n2 a.r k=bnd (qQ a) fun u e=>k u.n1 u.n2 u.r e:=by
 rw [ai5,aL];rfl
theorem aj1 {lo hi:Int}{k:Nat->Nat->Int->Int->Option α}:B5 α lo hi k=bnd (mn lo hi) fun u e=>k u.n1 u.n2 u.r e:=by
 rw [al0,aL];rfl
theorem ab5 {lo hi:Int}{k:Nat->Nat->Int->Int->Option α}:uT α lo hi k=bnd (Gb lo hi) fun u e=>k u.n1 u.n2 u.r e:=by
 rw [agC,aL];rfl
theorem afK {lo hi:Int}{k:Int->Int->Int->Option α}:qq α lo hi k=wE (lU lo hi) k:=by
 rw [abF,fN]
def fJ (e:Int)(a:Bl):Q4 × Int:=if e=0 then ((a.lo1,a.hi1,a.lo2,a.hi2),0) else ((0,0,0,0),e)
theorem Jv (e:Int)(a:Bl){k:Int->Int->Int->Int->Int->Option α}:wj α e a.n1 a.n2 a.r k=pG (fJ e a) k:=by
 simp only [wj,af,U5,ai2]
 rw [eB,eE]
 unfold fJ
 by_cases h:e=0
 ·simp only [if_pos h]
 ·simp only [if_neg h]
def uY (a:Bl):Int × Int × Int:=(a.eLo,a.eHi,0)
theorem W8 (a:Bl){k:Int->Int->Int->Option α}:Af α a.n1 a.n2 a.r k=wE (uY a) k:=by
 rw [aj3,fN];rfl
def dnI (n d:Int):Int:=w64 (Int.tdiv n d)
def upI (n d:Int):Int:=w64 (Int.tdiv (w64 (w64 (n+d) - 1)) d)
theorem xi {n d:Int}(h:d ≠ 0){k:Int->Option α}:my α n d k=k (dnI n d):=by
 simp only [my,af,VD]
 rw [cJ (bne_iff_ne.2 h)];rfl
theorem wU {n d:Int}(h:d ≠ 0){k:Int->Option α}:nx α n d k=k (upI n d):=by
 simp only [nx,af,Z5]
 rw [cJ (bne_iff_ne.2 h)];rfl
def pos (x:Int):Int:=if x > 0 then x else 0
theorem aaL {x y:Int}{k:Int->Int->Option α}:tD α x y k=k (pos x) (pos y):=by rw [tD,af,S7];rfl
end Go.AM.K
