/- Stacks: calculating with balls behind errors, one step after the other. -/
import Derived.Test.YtmcplmhohldpjaaGreatYWd
namespace Go.AM.K
set_option linter.unusedVariables false
set_option linter.unusedSimpArgs false
variable {α:Type}
def sA {β:Type}(n:Int)(f:(m:Int)->n=m->β):β:=match n,f with
 | .ofNat 0,f=>f 0 rfl
 | .ofNat (m+1),f=>f (.ofNat (m+1)) rfl
 | .negSucc 0,f=>f (-1) rfl
 | .negSucc (m+1),f=>f (.negSucc (m+1)) rfl
theorem fT {β:Type}(n:Int)(f:(m:Int)->n=m->β):sA n f=f n rfl:=by
 unfold sA
 split <;> rfl
theorem aqD {u:Bl}{x y r:Int}(hx:u.b.1=x)(hy:u.b.2.1=y)(hr:u.b.2.2=r):okS (x,y,r)=true:=by
 subst hx;subst hy;subst hr
 exact u.ok
def bnd {β:Type}(u:Bl × Int)(f:Bl->Int->β):β:=
 sA u.1.b.1 fun x hx=>sA u.1.b.2.1 fun y hy=>sA u.1.b.2.2 fun r hr=>sA u.2 fun e _=>f ⟨(x,y,r),aqD hx hy hr⟩ e
theorem aK {β:Type}(u:Bl × Int)(f:Bl->Int->β):bnd u f=f u.1 u.2:=by
 unfold bnd
 rw [fT,fT,fT,fT]
theorem gG {β γ:Type}(F:β->γ)(u:Bl × Int)(G:Bl->Int->β):F (bnd u G)=bnd u fun a e=>F (G a e):=by
 rw [aK,aK]
abbrev Q4:=Int × Int × Int × Int
def qo {β:Type}(u:Q4 × Int)(f:Int->Int->Int->Int->Int->β):β:=
 sA u.1.1 fun a _=>sA u.1.2.1 fun b _=>sA u.1.2.2.1 fun c _=>sA u.1.2.2.2 fun d _=>sA u.2 fun e _=>f a b c d e
theorem eF {β:Type}(u:Q4 × Int)(f:Int->Int->Int->Int->Int->β):qo u f=f u.1.1 u.1.2.1 u.1.2.2.1 u.1.2.2.2 u.2:=by
 unfold qo
 rw [fT,fT,fT,fT,fT]
theorem pI {β γ:Type}(F:β->γ)(u:Q4 × Int)(G:Int->Int->Int->Int->Int->β):F (qo u G)=qo u fun a b c d e=>F (G a b c d e):=by
 rw [eF,eF]
def xz {β:Type}(u:Int × Int × Int)(f:Int->Int->Int->β):β:=
 sA u.1 fun a _=>sA u.2.1 fun b _=>sA u.2.2 fun c _=>f a b c
theorem fW {β:Type}(u:Int × Int × Int)(f:Int->Int->Int->β):xz u f=f u.1 u.2.1 u.2.2:=by
 unfold xz
 rw [fT,fT,fT]
theorem ww {β γ:Type}(F:β->γ)(u:Int × Int × Int)(G:Int->Int->Int->β):F (xz u G)=xz u fun a b c=>F (G a b c):=by
 rw [fW,fW]
def Gv {β:Type}(u:Bl × Bool × Int)(f:Bl->Bool->Int->β):β:=
 match u with
 | (q,true,e)=>f q true e
 | (q,false,e)=>f q false e
theorem iI {β:Type}(u:Bl × Bool × Int)(f:Bl->Bool->Int->β):Gv u f=f u.1 u.2.1 u.2.2:=by
 obtain⟨q,b,e⟩:=u
 cases b <;> rfl
theorem vk {β γ:Type}(F:β->γ)(u:Bl × Bool × Int)(G:Bl->Bool->Int->β):F (Gv u G)=Gv u fun a b e=>F (G a b e):=by
 rw [iI,iI]
abbrev Mt:=Bl × Bl × Bl × Bl
def wB {β:Type}(u:Mt × Int)(f:Mt->Int->β):β:=match u with
 | ((a,b,c,d),e)=>f (a,b,c,d) e
theorem pC {β:Type}(u:Mt × Int)(f:Mt->Int->β):wB u f=f u.1 u.2:=rfl
theorem Tq {β γ:Type}(F:β->γ)(u:Mt × Int)(G:Mt->Int->β):F (wB u G)=wB u fun a e=>F (G a e):=rfl
def Yp {β:Type}(u:(Mt × Bl) × Int)(f:Mt->Bl->Int->β):β:=match u with
 | (((a,b,c,d),g),e)=>f (a,b,c,d) g e
theorem LX {β:Type}(u:(Mt × Bl) × Int)(f:Mt->Bl->Int->β):Yp u f=f u.1.1 u.1.2 u.2:=rfl
theorem Sk {β γ:Type}(F:β->γ)(u:(Mt × Bl) × Int)(G:Mt->Bl->Int->β):F (Yp u G)=Yp u fun a g e=>F (G a g e):=rfl
theorem fG {x:Int}{a b:Option α}:cK (x != 0) a b=if x=0 then b else a:=by
 by_cases h:x=0
 ·rw [if_pos h,h];rfl
 ·rw [if_neg h,bne_iff_ne.2 h,aq]
theorem va {x:Int}{a b:Option α}:cK (x == 0) a b=if x=0 then a else b:=by
 by_cases h:x=0
 ·rw [if_pos h,h];rfl
 ·rw [if_neg h,beq_eq_false_iff_ne.2 h,am]
theorem aal {x:Bool}{a b:Option α}:cK x a b=if x=true then a else b:=by cases x <;> rfl
def KN (k:Nat->Nat->Int->Bool->Int->Option α)(u:Bl × Bool × Int):Option α:=k u.1.n1 u.1.n2 u.1.r u.2.1 u.2.2
def KP (k:Int->Int->Int->Int->Int->Option α)(u:Q4 × Int):Option α:=k u.1.1 u.1.2.1 u.1.2.2.1 u.1.2.2.2 u.2
def KMt (k:Nat->Nat->Int->Nat->Nat->Int->Nat->Nat->Int->Nat->Nat->Int->Int->Option α)(u:Mt × Int):Option α:=
 k u.1.1.n1 u.1.1.n2 u.1.1.r u.1.2.1.n1 u.1.2.1.n2 u.1.2.1.r u.1.2.2.1.n1 u.1.2.2.1.n2 u.1.2.2.1.r u.1.2.2.2.n1 u.1.2.2.2.n2 u.1.2.2.2.r u.2
theorem ad3 {k:Nat->Nat->Int->Int->Option α}{a:Bl}{e:Int}:KB k (a,e)=k a.n1 a.n2 a.r e:=rfl
theorem as9 {k:Nat->Nat->Int->Bool->Int->Option α}{a:Bl}{b:Bool}{e:Int}:KN k (a,b,e)=k a.n1 a.n2 a.r b e:=rfl
theorem ahv {k:Nat->Nat->Int->Nat->Nat->Int->Nat->Nat->Int->Nat->Nat->Int->Int->Option α}{a b c d:Bl}{e:Int} :
  KMt k ((a,b,c,d),e)=k a.n1 a.n2 a.r b.n1 b.n2 b.r c.n1 c.n2 c.r d.n1 d.n2 d.r e:=rfl
def two (op:Bl->Bl->Bl × Int)(e:Int)(a b:Bl):Bl × Int:=if e=0 then op a b else (Bl0,e)
theorem vQ {e:Int}{u:Bl × Int}{k:Nat->Nat->Int->Int->Option α}:cK (e != 0) (k 0 0 0 e) (KB k u)=bnd (if e=0 then u else (Bl0,e)) fun u e=>k u.n1 u.n2 u.r e:=by
 rw [aK,fG]
 by_cases h:e=0
 ·simp only [if_pos h];rfl
 ·simp only [if_neg h,A1,z3,G6]
theorem FN (e:Int)(a b:Bl){k:Nat->Nat->Int->Int->Option α}:iF α e a.n1 a.n2 a.r b.n1 b.n2 b.r k=bnd (two ej e a b) fun u e=>k u.n1 u.n2 u.r e:=by
 simp only [iF,af,Wr,Gx,af,NV,fI,af,kz,aeP]
 exact vQ
theorem oM (e:Int)(a b:Bl){k:Nat->Nat->Int->Int->Option α}:eC α e a.n1 a.n2 a.r b.n1 b.n2 b.r k=bnd (two bc e a b) fun u e=>k u.n1 u.n2 u.r e:=by
 simp only [eC,af,VE,Gf,af,QN,fI,af,kz,aeK]
 exact vQ
theorem JL (e:Int)(a b:Bl){k:Nat->Nat->Int->Int->Option α}:xp α e a.n1 a.n2 a.r b.n1 b.n2 b.r k=bnd (two gV e a b) fun u e=>k u.n1 u.n2 u.r e:=by
 simp only [xp,af,abi,F4,af,Q3,fI,af,kz,ag0]
 exact vQ
theorem Kq (e:Int)(a b:Bl){k:Nat->Nat->Int->Int->Option α}:wV α e a.n1 a.n2 a.r b.n1 b.n2 b.r k=bnd (two nu e a b) fun u e=>k u.n1 u.n2 u.r e:=by
 simp only [wV,af,Vz,EJ,af,Pr,fI,af,kz,af6]
 exact vQ
def Bl1:Bl:=⟨(1048576,0,0),by decide⟩
def Blc:Bl:=⟨(0,0,1048576),by decide⟩
theorem asz:FloatKind.nearest .f64 1048576=4697254411347427328:=by decide +kernel
theorem Kc:Bl1.n1=4697254411347427328:=asz
theorem JS:Bl1.n2=0:=abA
theorem aaX:Bl1.r=0:=rfl
theorem amd:Blc.n1=0:=abA
theorem akg:Blc.n2=0:=abA
theorem aqE:Blc.r=1048576:=rfl
theorem afP (e:Int)(b:Bl){k:Nat->Nat->Int->Int->Option α}:iF α e 4697254411347427328 0 0 b.n1 b.n2 b.r k=bnd (two ej e Bl1 b) fun u e=>k u.n1 u.n2 u.r e:=by
 rw [<- FN,Kc,JS,aaX]
theorem adU (e:Int)(b:Bl){k:Nat->Nat->Int->Int->Option α}:xp α e 4697254411347427328 0 0 b.n1 b.n2 b.r k=bnd (two gV e Bl1 b) fun u e=>k u.n1 u.n2 u.r e:=by
 rw [<- JL,Kc,JS,aaX]
theorem aoq (e:Int)(b:Bl){k:Nat->Nat->Int->Int->Option α}:eC α e 0 0 1048576 b.n1 b.n2 b.r k=bnd (two bc e Blc b) fun u e=>k u.n1 u.n2 u.r e:=by
 rw [<- oM,amd,akg,aqE]
def jL (e lo hi:Int):Bl × Int:=if e=0 then cu lo hi else (Bl0,e)
def xh (e n d:Int):Bl × Int:=if e=0 then xo n d else (Bl0,e)
theorem KQ {e lo hi:Int}{k:Nat->Nat->Int->Int->Option α}:wY α e lo hi k=bnd (jL e lo hi) fun u e=>k u.n1 u.n2 u.r e:=by
 simp only [wY,af,aaZ,fI,af,kz,EA]
 exact vQ
theorem MI {e n d:Int}{k:Nat->Nat->Int->Int->Option α}:vS α e n d k=bnd (xh e n d) fun u e=>k u.n1 u.n2 u.r e:=by
 simp only [vS,af,Rs,fI,af,kz,af9]
 exact vQ
theorem abQ (a:Bl){k:Nat->Nat->Int->Int->Option α}:rp α a.n1 a.n2 a.r 1 k=bnd (BR a) fun u e=>k u.n1 u.n2 u.r e:=by
 rw [Rg,aK];rfl
theorem akx (a:Bl){k:Nat->Nat->Int->Int->Option α}:Ck α a.n1 a.n2 a.r k=bnd (tZ a) fun u e=>k u.n1 u.n2 u.r e:=by
 rw [aiJ,aK];rfl
theorem akY {lo hi:Int}{k:Nat->Nat->Int->Int->Option α}:Do α lo hi k=bnd (oK lo hi) fun u e=>k u.n1 u.n2 u.r e:=by
 rw [alu,aK];rfl
theorem adc {lo hi:Int}{k:Nat->Nat->Int->Int->Option α}:vH α lo hi k=bnd (IE lo hi) fun u e=>k u.n1 u.n2 u.r e:=by
 rw [acN,aK];rfl
theorem afY {lo hi:Int}{k:Int->Int->Int->Option α}:rg α lo hi k=xz (mW lo hi) k:=by
 rw [agl,fW]
def fH (e:Int)(a:Bl):Q4 × Int:=if e=0 then ((a.lo1,a.hi1,a.lo2,a.hi2),0) else ((0,0,0,0),e)
theorem KY (e:Int)(a:Bl){k:Int->Int->Int->Int->Int->Option α}:wK α e a.n1 a.n2 a.r k=qo (fH e a) k:=by
 simp only [wK,af,Uj,al9]
 rw [eF,fG]
 unfold fH
 by_cases h:e=0
 ·simp only [if_pos h]
 ·simp only [if_neg h]
def wg (a:Bl):Int × Int × Int:=(a.eLo,a.eHi,0)
theorem abc (a:Bl){k:Int->Int->Int->Option α}:Bw α a.n1 a.n2 a.r k=xz (wg a) k:=by
 rw [amh,fW];rfl
def dnI (n d:Int):Int:=w64 (Int.tdiv n d)
def upI (n d:Int):Int:=w64 (Int.tdiv (w64 (w64 (n+d) - 1)) d)
theorem yC {n d:Int}(h:d ≠ 0){k:Int->Option α}:nU α n d k=k (dnI n d):=by
 simp only [nU,af,Z1]
 rw [cO (bne_iff_ne.2 h)];rfl
theorem tY {n d:Int}(h:d ≠ 0){k:Int->Option α}:mT α n d k=k (upI n d):=by
 simp only [mT,af,WA]
 rw [cO (bne_iff_ne.2 h)];rfl
def pos (x:Int):Int:=if x > 0 then x else 0
theorem XN {x y:Int}{k:Int->Int->Option α}:uZ α x y k=k (pos x) (pos y):=by rw [uZ,af,XX];rfl
end Go.AM.K
