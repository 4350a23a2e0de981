/- Stacks: the shares of an ask. -/
import Derived.Test.YtmcplmhohldpjaaGreatYWh
namespace Go.AM.K
set_option linter.unusedVariables false
set_option linter.unusedSimpArgs false
variable {α:Type}
abbrev Q6:=Int × Int × Int × Int × Int × Int
def KS (k:Int->Int->Int->Int->Int->Int->Int->Option α)(u:Q6 × Int):Option α:=k u.1.1 u.1.2.1 u.1.2.2.1 u.1.2.2.2.1 u.1.2.2.2.2.1 u.1.2.2.2.2.2 u.2
theorem atL {k:Int->Int->Int->Int->Int->Int->Int->Option α}{a b c d e f g:Int}:KS k ((a,b,c,d,e,f),g)=k a b c d e f g:=rfl
def wC (x:Int):Int:=if 1048576 < x then 1048576 else x
def yS (x y:Int):Int:=pos (w64 (w64 (1048576 - x) - y))
theorem S2 {x y:Int}{k:Int->Int->Option α}:Dz α x y k=k (wC x) (wC y):=by rw [Dz,af,aad];rfl
theorem ai6 {a b c d:Int}{k:Int->Int->Option α}:v5 α a b c d k=k (yS b d) (yS a c):=by rw [v5,af,TI];rfl
def JI (A:Ask)(st:Bool)(a b c d:Int):Q6 × Int:=
 if st=true then (if Qp A=true then ((a,b,0,0,yS b 0,yS a 0),0) else ((a,b,0,0,0,0),0))
 else (if Qp A=true then ((a,b,c,d,yS b d,yS a c),0) else ((a,b,c,d,0,0),0))
def z6:Q6:=(0,0,0,0,0,0)
def eV (A:Ask):Q6 × Int:=
 if ckA A=0 then
  bnd (wH A false 0) fun r e1=>bnd (wH A true e1) fun t e2=>bnd (kx A (A.ls.length+1) e2) fun l e3=>
  pG (fJ e3 l) fun ul uh _ _ e4=>bnd (kx A 0 e4) fun f e5=>pG (fJ e5 f) fun fl fh _ _ e6=>
  EI (dq A (A.ls.length+1) e6) fun _ st e7=>
  if e7=0 then
   if fl<=0 then (z6,9) else
   wE (uY r) fun bl bh e8=>if e8=0 then
    wE (uY t) fun tl th e9=>if e9=0 then
     JI A st (wC bl) (wC bh) (wC (dnI (w64 (pos ul*tl)) fh)) (wC (upI (w64 (pos uh*th)) fl))
    else (z6,e9)
   else (z6,e8)
  else (z6,e7)
 else (z6,ckA A)
theorem pu {β:Type}{u:Bl × Int}{f g:Bl->Int->β}(h:∀ a e,f a e=g a e):bnd u f=bnd u g:=by rw [aL,aL,h]
theorem J5 {β:Type}{u:Q4 × Int}{f g:Int->Int->Int->Int->Int->β}(h:∀ a b c d e,f a b c d e=g a b c d e):pG u f=pG u g:=by rw [eB,eB,h]
theorem Bn {β:Type}{u:Int × Int × Int}{f g:Int->Int->Int->β}(h:∀ a b c,f a b c=g a b c):wE u f=wE u g:=by rw [fN,fN,h]
theorem JE {β:Type}{u:Bl × Bool × Int}{f g:Bl->Bool->Int->β}(h:∀ a b c,f a b c=g a b c):EI u f=EI u g:=by rw [iF,iF,h]
theorem K8 {e:Int}{a:Bl}(h:0 < (fJ e a).1.1):(fJ e a).1.2.1 ≠ 0:=by
 have g:=a.bd
 unfold fJ at *
 by_cases c:e=0
 ·rw [if_pos c] at *
  unfold Bl.lo1 at h
  show a.hi1 ≠ 0
  unfold Bl.hi1
  have h':0 < a.b.1 - a.b.2.2:=h
  omega
 ·rw [if_neg c] at *
  exact absurd h (Int.lt_irrefl 0)
theorem Wl {β:Type}{e:Int}{a:Bl}{f g:Int->Int->Int->Int->Int->β}(h:∀ x y c d e,(0 < x->y ≠ 0)->f x y c d e=g x y c d e):pG (fJ e a) f=pG (fJ e a) g:=by
 rw [eB,eB]
 exact h _ _ _ _ _ K8
theorem aiY (A:Ask)(hA:A.ls.length<=40){st:Bool}{a b c d:Int}{k:Int->Int->Int->Int->Int->Int->Int->Option α} :
  sm α st (v7 α A.ix (A.ls.map rL) A.oi A.ol fun x=>cK x (v5 α a b 0 0 fun x82 x83=>k a b 0 0 x82 x83 0) (k a b 0 0 0 0 0))
   (v7 α A.ix (A.ls.map rL) A.oi A.ol fun x=>cK x (v5 α a b c d fun x85 x86=>k a b c d x85 x86 0) (k a b c d 0 0 0))=KS k (JI A st a b c d):=by
 simp only [sm,af,GQ,akI A hA,ai6,aq,ap]
 unfold JI
 simp only [apply_ite (KS k),atL]
 simp only [Vy]
theorem TO (A:Ask){k:Int->Int->Int->Int->Int->Int->Int->Option α} :
  zS α A.ix A.s1 A.s2 A.pol A.w1 A.w2 (A.ls.map rL) A.oi A.ol k=KS k (eV A):=by
 simp only [zS,af,Wx,Pu,af,Xb,JX,eE]
 unfold eV
 by_cases c:ckA A=0
 ·rw [if_pos c,if_pos c]
  obtain⟨_,_,_,hw,hA,_⟩:=yB c
  have hw':=abf hw
  have h1:A.w1 ≠ 0:=by omega
  have h2:A.w2 ≠ 0:=by omega
  have hww:w64 ((A.ls.length:Int)+1)=((A.ls.length+1:Nat):Int):=by rw [ak (by omega) (by omega)];omega
  have hl:A.ls.length+1 < 1000000:=by omega
  have h0:∀ (e:Int) (k:Nat->Nat->Int->Int->Option α),mH α e A.ix A.s1 A.s2 A.pol (A.ls.map rL) A.oi A.ol 0 k=bnd (kx A 0 e) fun u e=>k u.n1 u.n2 u.r e:=fun e k=>Bd A (n:=0) (by decide) e
  simp only [List.length_map,hww,h0,alz A _ hA h1 h2,Bd A hl,JG A hl,Jv,gu (KS k),oy (KS k),vc (KS k)]
  refine pu fun r e1=>pu fun t e2=>pu fun l e3=>J5 fun ul uh _ _ e4=>pu fun f e5=>Wl fun fl fh _ _ e6 hf=>JE fun _ st e7=>?_
  by_cases c7:e7=0
  ·rw [if_pos c7,if_pos c7,bi]
   by_cases cf:fl<=0
   ·rw [if_pos cf,if_pos cf];rfl
   ·rw [if_neg cf,if_neg cf,W8,uL (KS k)]
    refine Bn fun bl bh e8=>?_
    by_cases c8:e8=0
    ·rw [if_pos c8,if_pos c8,W8,uL (KS k)]
     refine Bn fun tl th e9=>?_
     by_cases c9:e9=0
     ·rw [if_pos c9,if_pos c9,aaL,S2,xi (hf (by omega)),wU (by omega),S2]
      exact aiY A hA
     ·rw [if_neg c9,if_neg c9];rfl
    ·rw [if_neg c8,if_neg c8];rfl
  ·rw [if_neg c7,if_neg c7];rfl
 ·rw [if_neg c,if_neg c];rfl
end Go.AM.K
