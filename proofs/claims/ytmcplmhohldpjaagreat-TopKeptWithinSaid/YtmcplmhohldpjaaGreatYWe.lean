/- Stacks: calculating with balls behind errors, one step after the other. -/
import Derived.Test.YtmcplmhohldpjaaGreatYWd
namespace Go.AM.K
set_option linter.unusedVariables false
set_option linter.unusedSimpArgs false
variable {α:Type}
def frcP {β:Type}(n:Int)(f:(m:Int)->n=m->β):β:=match n,f with
 | .ofNat 0,f=>f 0 rfl
 | .ofNat (m+1),f=>f (.ofNat (m+1)) rfl
 | .negSucc 0,f=>f (-1) rfl
 | .negSucc (m+1),f=>f (.negSucc (m+1)) rfl
theorem frcP_eq {β:Type}(n:Int)(f:(m:Int)->n=m->β):frcP n f=f n rfl:=by
 unfold frcP
 split <;> rfl
theorem bl_ok {u:Bl}{x y r:Int}(hx:u.b.1=x)(hy:u.b.2.1=y)(hr:u.b.2.2=r):okS (x,y,r)=true:=by
 subst hx;subst hy;subst hr
 exact u.ok
def bnd {β:Type}(u:Bl × Int)(f:Bl->Int->β):β:=
 frcP u.1.b.1 fun x hx=>frcP u.1.b.2.1 fun y hy=>frcP u.1.b.2.2 fun r hr=>frcP u.2 fun e _=>f ⟨(x,y,r),bl_ok hx hy hr⟩ e
theorem bnd_eq {β:Type}(u:Bl × Int)(f:Bl->Int->β):bnd u f=f u.1 u.2:=by
 unfold bnd
 rw [frcP_eq,frcP_eq,frcP_eq,frcP_eq]
theorem bnd_push {β γ:Type}(F:β->γ)(u:Bl × Int)(G:Bl->Int->β):F (bnd u G)=bnd u fun a e=>F (G a e):=by
 rw [bnd_eq,bnd_eq]
abbrev Q4:=Int × Int × Int × Int
def bndP {β:Type}(u:Q4 × Int)(f:Int->Int->Int->Int->Int->β):β:=
 frcP u.1.1 fun a _=>frcP u.1.2.1 fun b _=>frcP u.1.2.2.1 fun c _=>frcP u.1.2.2.2 fun d _=>frcP u.2 fun e _=>f a b c d e
theorem bndP_eq {β:Type}(u:Q4 × Int)(f:Int->Int->Int->Int->Int->β):bndP u f=f u.1.1 u.1.2.1 u.1.2.2.1 u.1.2.2.2 u.2:=by
 unfold bndP
 rw [frcP_eq,frcP_eq,frcP_eq,frcP_eq,frcP_eq]
theorem bndP_push {β γ:Type}(F:β->γ)(u:Q4 × Int)(G:Int->Int->Int->Int->Int->β):F (bndP u G)=bndP u fun a b c d e=>F (G a b c d e):=by
 rw [bndP_eq,bndP_eq]
def bndF {β:Type}(u:Int × Int × Int)(f:Int->Int->Int->β):β:=
 frcP u.1 fun a _=>frcP u.2.1 fun b _=>frcP u.2.2 fun c _=>f a b c
theorem bndF_eq {β:Type}(u:Int × Int × Int)(f:Int->Int->Int->β):bndF u f=f u.1 u.2.1 u.2.2:=by
 unfold bndF
 rw [frcP_eq,frcP_eq,frcP_eq]
theorem bndF_push {β γ:Type}(F:β->γ)(u:Int × Int × Int)(G:Int->Int->Int->β):F (bndF u G)=bndF u fun a b c=>F (G a b c):=by
 rw [bndF_eq,bndF_eq]
def bndN {β:Type}(u:Bl × Bool × Int)(f:Bl->Bool->Int->β):β:=
 match u with
 | (q,true,e)=>f q true e
 | (q,false,e)=>f q false e
theorem bndN_eq {β:Type}(u:Bl × Bool × Int)(f:Bl->Bool->Int->β):bndN u f=f u.1 u.2.1 u.2.2:=by
 obtain⟨q,b,e⟩:=u
 cases b <;> rfl
theorem bndN_push {β γ:Type}(F:β->γ)(u:Bl × Bool × Int)(G:Bl->Bool->Int->β):F (bndN u G)=bndN u fun a b e=>F (G a b e):=by
 rw [bndN_eq,bndN_eq]
abbrev Mt:=Bl × Bl × Bl × Bl
def bndM {β:Type}(u:Mt × Int)(f:Mt->Int->β):β:=match u with
 | ((a,b,c,d),e)=>f (a,b,c,d) e
theorem bndM_eq {β:Type}(u:Mt × Int)(f:Mt->Int->β):bndM u f=f u.1 u.2:=rfl
theorem bndM_push {β γ:Type}(F:β->γ)(u:Mt × Int)(G:Mt->Int->β):F (bndM u G)=bndM u fun a e=>F (G a e):=rfl
def bndT {β:Type}(u:(Mt × Bl) × Int)(f:Mt->Bl->Int->β):β:=match u with
 | (((a,b,c,d),g),e)=>f (a,b,c,d) g e
theorem bndT_eq {β:Type}(u:(Mt × Bl) × Int)(f:Mt->Bl->Int->β):bndT u f=f u.1.1 u.1.2 u.2:=rfl
theorem bndT_push {β γ:Type}(F:β->γ)(u:(Mt × Bl) × Int)(G:Mt->Bl->Int->β):F (bndT u G)=bndT u fun a g e=>F (G a g e):=rfl
theorem cK_bne {x:Int}{a b:Option α}:cK (x != 0) a b=if x=0 then b else a:=by
 by_cases h:x=0
 ·rw [if_pos h,h];rfl
 ·rw [if_neg h,bne_iff_ne.2 h,cK_true]
theorem cK_beq {x:Int}{a b:Option α}:cK (x == 0) a b=if x=0 then a else b:=by
 by_cases h:x=0
 ·rw [if_pos h,h];rfl
 ·rw [if_neg h,beq_eq_false_iff_ne.2 h,cK_false]
theorem cK_b {x:Bool}{a b:Option α}:cK x a b=if x=true then a else b:=by cases x <;> rfl
def KN (k:Nat->Nat->Int->Bool->Int->Option α)(u:Bl × Bool × Int):Option α:=k u.1.n1 u.1.n2 u.1.r u.2.1 u.2.2
def KP (k:Int->Int->Int->Int->Int->Option α)(u:Q4 × Int):Option α:=k u.1.1 u.1.2.1 u.1.2.2.1 u.1.2.2.2 u.2
def KMt (k:Nat->Nat->Int->Nat->Nat->Int->Nat->Nat->Int->Nat->Nat->Int->Int->Option α)(u:Mt × Int):Option α:=
 k u.1.1.n1 u.1.1.n2 u.1.1.r u.1.2.1.n1 u.1.2.1.n2 u.1.2.1.r u.1.2.2.1.n1 u.1.2.2.1.n2 u.1.2.2.1.r u.1.2.2.2.n1 u.1.2.2.2.n2 u.1.2.2.2.r u.2
theorem KB_p {k:Nat->Nat->Int->Int->Option α}{a:Bl}{e:Int}:KB k (a,e)=k a.n1 a.n2 a.r e:=rfl
theorem KN_p {k:Nat->Nat->Int->Bool->Int->Option α}{a:Bl}{b:Bool}{e:Int}:KN k (a,b,e)=k a.n1 a.n2 a.r b e:=rfl
theorem KMt_p {k:Nat->Nat->Int->Nat->Nat->Int->Nat->Nat->Int->Nat->Nat->Int->Int->Option α}{a b c d:Bl}{e:Int} :
  KMt k ((a,b,c,d),e)=k a.n1 a.n2 a.r b.n1 b.n2 b.r c.n1 c.n2 c.r d.n1 d.n2 d.r e:=rfl
def two (op:Bl->Bl->Bl × Int)(e:Int)(a b:Bl):Bl × Int:=if e=0 then op a b else (Bl0,e)
theorem sticky {e:Int}{u:Bl × Int}{k:Nat->Nat->Int->Int->Option α}:cK (e != 0) (k 0 0 0 e) (KB k u)=bnd (if e=0 then u else (Bl0,e)) fun u e=>k u.n1 u.n2 u.r e:=by
 rw [bnd_eq,cK_bne]
 by_cases h:e=0
 ·simp only [if_pos h];rfl
 ·simp only [if_neg h,Bl0_n1,Bl0_n2,Bl0_r]
theorem f75_bl (e:Int)(a b:Bl){k:Nat->Nat->Int->Int->Option α}:f75_0 α e a.n1 a.n2 a.r b.n1 b.n2 b.r k=bnd (two plusE e a b) fun u e=>k u.n1 u.n2 u.r e:=by
 simp only [f75_0,sld_eq,f75_0g,f128_0,sld_eq,f128_0g,f83_0,sld_eq,f83_0g,f129_bl]
 exact sticky
theorem f76_bl (e:Int)(a b:Bl){k:Nat->Nat->Int->Int->Option α}:f76_0 α e a.n1 a.n2 a.r b.n1 b.n2 b.r k=bnd (two timesE e a b) fun u e=>k u.n1 u.n2 u.r e:=by
 simp only [f76_0,sld_eq,f76_0g,f128_1,sld_eq,f128_1g,f83_0,sld_eq,f83_0g,f130_bl]
 exact sticky
theorem f78_bl (e:Int)(a b:Bl){k:Nat->Nat->Int->Int->Option α}:f78_0 α e a.n1 a.n2 a.r b.n1 b.n2 b.r k=bnd (two minusE e a b) fun u e=>k u.n1 u.n2 u.r e:=by
 simp only [f78_0,sld_eq,f78_0g,f128_2,sld_eq,f128_2g,f83_0,sld_eq,f83_0g,f132_bl]
 exact sticky
theorem f77_bl (e:Int)(a b:Bl){k:Nat->Nat->Int->Int->Option α}:f77_0 α e a.n1 a.n2 a.r b.n1 b.n2 b.r k=bnd (two quoE e a b) fun u e=>k u.n1 u.n2 u.r e:=by
 simp only [f77_0,sld_eq,f77_0g,f128_3,sld_eq,f128_3g,f83_0,sld_eq,f83_0g,f131_bl]
 exact sticky
def Bl1:Bl:=⟨(1048576,0,0),by decide⟩
def Blc:Bl:=⟨(0,0,1048576),by decide⟩
theorem nea1:FloatKind.nearest .f64 1048576=4697254411347427328:=by decide +kernel
theorem Bl1_n1:Bl1.n1=4697254411347427328:=nea1
theorem Bl1_n2:Bl1.n2=0:=nea0
theorem Bl1_r:Bl1.r=0:=rfl
theorem Blc_n1:Blc.n1=0:=nea0
theorem Blc_n2:Blc.n2=0:=nea0
theorem Blc_r:Blc.r=1048576:=rfl
theorem f75_one (e:Int)(b:Bl){k:Nat->Nat->Int->Int->Option α}:f75_0 α e 4697254411347427328 0 0 b.n1 b.n2 b.r k=bnd (two plusE e Bl1 b) fun u e=>k u.n1 u.n2 u.r e:=by
 rw [<- f75_bl,Bl1_n1,Bl1_n2,Bl1_r]
theorem f78_one (e:Int)(b:Bl){k:Nat->Nat->Int->Int->Option α}:f78_0 α e 4697254411347427328 0 0 b.n1 b.n2 b.r k=bnd (two minusE e Bl1 b) fun u e=>k u.n1 u.n2 u.r e:=by
 rw [<- f78_bl,Bl1_n1,Bl1_n2,Bl1_r]
theorem f76_c (e:Int)(b:Bl){k:Nat->Nat->Int->Int->Option α}:f76_0 α e 0 0 1048576 b.n1 b.n2 b.r k=bnd (two timesE e Blc b) fun u e=>k u.n1 u.n2 u.r e:=by
 rw [<- f76_bl,Blc_n1,Blc_n2,Blc_r]
def realS (e lo hi:Int):Bl × Int:=if e=0 then rangeE lo hi else (Bl0,e)
def fracS (e n d:Int):Bl × Int:=if e=0 then fracE n d else (Bl0,e)
theorem f81_bl {e lo hi:Int}{k:Nat->Nat->Int->Int->Option α}:f81_0 α e lo hi k=bnd (realS e lo hi) fun u e=>k u.n1 u.n2 u.r e:=by
 simp only [f81_0,sld_eq,f81_0g,f83_0,sld_eq,f83_0g,f136_bl]
 exact sticky
theorem f134_bl {e n d:Int}{k:Nat->Nat->Int->Int->Option α}:f134_0 α e n d k=bnd (fracS e n d) fun u e=>k u.n1 u.n2 u.r e:=by
 simp only [f134_0,sld_eq,f134_0g,f83_0,sld_eq,f83_0g,f179_bl]
 exact sticky
theorem f135_bn (a:Bl){k:Nat->Nat->Int->Int->Option α}:f135_0 α a.n1 a.n2 a.r 1 k=bnd (turnE a) fun u e=>k u.n1 u.n2 u.r e:=by
 rw [f135_bl,bnd_eq];rfl
theorem f84_bn (a:Bl){k:Nat->Nat->Int->Int->Option α}:f84_0 α a.n1 a.n2 a.r k=bnd (rootE a) fun u e=>k u.n1 u.n2 u.r e:=by
 rw [f84_bl,bnd_eq];rfl
theorem f85_bn {lo hi:Int}{k:Nat->Nat->Int->Int->Option α}:f85_0 α lo hi k=bnd (rrootE lo hi) fun u e=>k u.n1 u.n2 u.r e:=by
 rw [f85_bl,bnd_eq];rfl
theorem f164_bn {lo hi:Int}{k:Nat->Nat->Int->Int->Option α}:f164_0 α lo hi k=bnd (arcE lo hi) fun u e=>k u.n1 u.n2 u.r e:=by
 rw [f164_bl,bnd_eq];rfl
theorem f165_bn {lo hi:Int}{k:Int->Int->Int->Option α}:f165_0 α lo hi k=bndF (fadeE lo hi) k:=by
 rw [f165_eq,bndF_eq]
def prtE (e:Int)(a:Bl):Q4 × Int:=if e=0 then ((a.lo1,a.hi1,a.lo2,a.hi2),0) else ((0,0,0,0),e)
theorem f33_bn (e:Int)(a:Bl){k:Int->Int->Int->Int->Int->Option α}:f33_0 α e a.n1 a.n2 a.r k=bndP (prtE e a) k:=by
 simp only [f33_0,sld_eq,f33_0g,f79_bl]
 rw [bndP_eq,cK_bne]
 unfold prtE
 by_cases h:e=0
 ·simp only [if_pos h]
 ·simp only [if_neg h]
def engE (a:Bl):Int × Int × Int:=(a.eLo,a.eHi,0)
theorem f36_bn (a:Bl){k:Int->Int->Int->Option α}:f36_0 α a.n1 a.n2 a.r k=bndF (engE a) k:=by
 rw [f36_bl,bndF_eq];rfl
def dnI (n d:Int):Int:=w64 (Int.tdiv n d)
def upI (n d:Int):Int:=w64 (Int.tdiv (w64 (w64 (n+d) - 1)) d)
theorem f39_raw {n d:Int}(h:d ≠ 0){k:Int->Option α}:f39_0 α n d k=k (dnI n d):=by
 simp only [f39_0,sld_eq,f39_0g]
 rw [gK_of (bne_iff_ne.2 h)];rfl
theorem f40_raw {n d:Int}(h:d ≠ 0){k:Int->Option α}:f40_0 α n d k=k (upI n d):=by
 simp only [f40_0,sld_eq,f40_0g]
 rw [gK_of (bne_iff_ne.2 h)];rfl
def pos (x:Int):Int:=if x > 0 then x else 0
theorem f37_eq {x y:Int}{k:Int->Int->Option α}:f37_0 α x y k=k (pos x) (pos y):=by rw [f37_0,sld_eq,f37_0g];rfl
end Go.AM.K
