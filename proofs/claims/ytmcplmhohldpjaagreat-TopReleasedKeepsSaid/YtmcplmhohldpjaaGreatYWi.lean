/- Stacks: the shares of an ask. -/
import Derived.Test.YtmcplmhohldpjaaGreatYWh
namespace Go.AM.K
set_option linter.unusedVariables false
set_option linter.unusedSimpArgs false
variable {α:Type}
abbrev Q6:=Int × Int × Int × Int × Int × Int
def KS (k:Int->Int->Int->Int->Int->Int->Int->Option α)(u:Q6 × Int):Option α:=k u.1.1 u.1.2.1 u.1.2.2.1 u.1.2.2.2.1 u.1.2.2.2.2.1 u.1.2.2.2.2.2 u.2
theorem asG {k:Int->Int->Int->Int->Int->Int->Int->Option α}{a b c d e f g:Int}:KS k ((a,b,c,d,e,f),g)=k a b c d e f g:=rfl
def xB (x:Int):Int:=if 1048576 < x then 1048576 else x
def B1 (x y:Int):Int:=pos (w64 (w64 (1048576 - x) - y))
theorem UP {x y:Int}{k:Int->Int->Option α}:C2 α x y k=k (xB x) (xB y):=by rw [C2,af,abf];rfl
theorem aiP {a b c d:Int}{k:Int->Int->Option α}:xb α a b c d k=k (B1 b d) (B1 a c):=by rw [xb,af,ZR];rfl
def KL (A:Ask)(st:Bool)(a b c d:Int):Q6 × Int:=
 if st=true then (if LI A=true then ((a,b,0,0,B1 b 0,B1 a 0),0) else ((a,b,0,0,0,0),0))
 else (if LI A=true then ((a,b,c,d,B1 b d,B1 a c),0) else ((a,b,c,d,0,0),0))
def z6:Q6:=(0,0,0,0,0,0)
def dg (A:Ask):Q6 × Int:=
 if ckA A=0 then
  bnd (xC A false 0) fun r e1=>bnd (xC A true e1) fun t e2=>bnd (kY A (A.ls.length+1) e2) fun l e3=>
  qo (fH e3 l) fun ul uh _ _ e4=>bnd (kY A 0 e4) fun f e5=>qo (fH e5 f) fun fl fh _ _ e6=>
  Gv (dv A (A.ls.length+1) e6) fun _ st e7=>
  if e7=0 then
   if fl<=0 then (z6,9) else
   xz (wg r) fun bl bh e8=>if e8=0 then
    xz (wg t) fun tl th e9=>if e9=0 then
     KL A st (xB bl) (xB bh) (xB (dnI (w64 (pos ul*tl)) fh)) (xB (upI (w64 (pos uh*th)) fl))
    else (z6,e9)
   else (z6,e8)
  else (z6,e7)
 else (z6,ckA A)
theorem p8 {β:Type}{u:Bl × Int}{f g:Bl->Int->β}(h:∀ a e,f a e=g a e):bnd u f=bnd u g:=by rw [aK,aK,h]
theorem Ki {β:Type}{u:Q4 × Int}{f g:Int->Int->Int->Int->Int->β}(h:∀ a b c d e,f a b c d e=g a b c d e):qo u f=qo u g:=by rw [eF,eF,h]
theorem Bv {β:Type}{u:Int × Int × Int}{f g:Int->Int->Int->β}(h:∀ a b c,f a b c=g a b c):xz u f=xz u g:=by rw [fW,fW,h]
theorem Ks {β:Type}{u:Bl × Bool × Int}{f g:Bl->Bool->Int->β}(h:∀ a b c,f a b c=g a b c):Gv u f=Gv u g:=by rw [iI,iI,h]
theorem MD {e:Int}{a:Bl}(h:0 < (fH e a).1.1):(fH e a).1.2.1 ≠ 0:=by
 have g:=a.bd
 unfold fH at *
 by_cases c:e=0
 ·rw [if_pos c] at *
  unfold Bl.lo1 at h
  show a.hi1 ≠ 0
  unfold Bl.hi1
  have h':0 < a.b.1 - a.b.2.2:=h
  omega
 ·rw [if_neg c] at *
  exact absurd h (Int.lt_irrefl 0)
theorem aau {β:Type}{e:Int}{a:Bl}{f g:Int->Int->Int->Int->Int->β}(h:∀ x y c d e,(0 < x->y ≠ 0)->f x y c d e=g x y c d e):qo (fH e a) f=qo (fH e a) g:=by
 rw [eF,eF]
 exact h _ _ _ _ _ MD
theorem ajB (A:Ask)(hA:A.ls.length<=40){st:Bool}{a b c d:Int}{k:Int->Int->Int->Int->Int->Int->Int->Option α} :
  uj α st (xm α A.ix (A.ls.map rL) A.oi A.ol fun x=>cK x (xb α a b 0 0 fun x82 x83=>k a b 0 0 x82 x83 0) (k a b 0 0 0 0 0))
   (xm α A.ix (A.ls.map rL) A.oi A.ol fun x=>cK x (xb α a b c d fun x85 x86=>k a b c d x85 x86 0) (k a b c d 0 0 0))=KS k (KL A st a b c d):=by
 simp only [uj,af,JF,ajF A hA,aiP,aq,am]
 unfold KL
 simp only [apply_ite (KS k),asG]
 simp only [aal]
theorem Va (A:Ask){k:Int->Int->Int->Int->Int->Int->Int->Option α} :
  CA α A.ix A.s1 A.s2 A.pol A.w1 A.w2 (A.ls.map rL) A.oi A.ol k=KS k (dg A):=by
 simp only [CA,af,Ub,O1,af,UD,UQ,fG]
 unfold dg
 by_cases c:ckA A=0
 ·rw [if_pos c,if_pos c]
  obtain⟨_,_,_,hw,hA,_⟩:=vC c
  have hw':=aez hw
  have h1:A.w1 ≠ 0:=by omega
  have h2:A.w2 ≠ 0:=by omega
  have hww:w64 ((A.ls.length:Int)+1)=((A.ls.length+1:Nat):Int):=by rw [ak (by omega) (by omega)];omega
  have hl:A.ls.length+1 < 1000000:=by omega
  have h0:∀ (e:Int) (k:Nat->Nat->Int->Int->Option α),nv α e A.ix A.s1 A.s2 A.pol (A.ls.map rL) A.oi A.ol 0 k=bnd (kY A 0 e) fun u e=>k u.n1 u.n2 u.r e:=fun e k=>zF A (n:=0) (by decide) e
  simp only [List.length_map,hww,h0,akh A _ hA h1 h2,zF A hl,Kp A hl,KY,gG (KS k),pI (KS k),vk (KS k)]
  refine p8 fun r e1=>p8 fun t e2=>p8 fun l e3=>Ki fun ul uh _ _ e4=>p8 fun f e5=>aau fun fl fh _ _ e6 hf=>Ks fun _ st e7=>?_
  by_cases c7:e7=0
  ·rw [if_pos c7,if_pos c7,bg]
   by_cases cf:fl<=0
   ·rw [if_pos cf,if_pos cf];rfl
   ·rw [if_neg cf,if_neg cf,abc,ww (KS k)]
    refine Bv fun bl bh e8=>?_
    by_cases c8:e8=0
    ·rw [if_pos c8,if_pos c8,abc,ww (KS k)]
     refine Bv fun tl th e9=>?_
     by_cases c9:e9=0
     ·rw [if_pos c9,if_pos c9,XN,UP,yC (hf (by omega)),tY (by omega),UP]
      exact ajB A hA
     ·rw [if_neg c9,if_neg c9];rfl
    ·rw [if_neg c8,if_neg c8];rfl
  ·rw [if_neg c7,if_neg c7];rfl
 ·rw [if_neg c,if_neg c];rfl
end Go.AM.K
