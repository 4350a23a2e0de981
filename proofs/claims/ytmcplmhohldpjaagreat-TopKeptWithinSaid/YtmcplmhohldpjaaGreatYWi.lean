/- Stacks: the shares of an ask. -/
import Derived.Test.YtmcplmhohldpjaaGreatYWh
namespace Go.AM.K
set_option linter.unusedVariables false
set_option linter.unusedSimpArgs false
variable {α:Type}
abbrev Q6:=Int × Int × Int × Int × Int × Int
def KS (k:Int->Int->Int->Int->Int->Int->Int->Option α)(u:Q6 × Int):Option α:=k u.1.1 u.1.2.1 u.1.2.2.1 u.1.2.2.2.1 u.1.2.2.2.2.1 u.1.2.2.2.2.2 u.2
theorem KS_p {k:Int->Int->Int->Int->Int->Int->Int->Option α}{a b c d e f g:Int}:KS k ((a,b,c,d,e,f),g)=k a b c d e f g:=rfl
def cut1 (x:Int):Int:=if 1048576 < x then 1048576 else x
def rstE (x y:Int):Int:=pos (w64 (w64 (1048576 - x) - y))
theorem f38_eq {x y:Int}{k:Int->Int->Option α}:f38_0 α x y k=k (cut1 x) (cut1 y):=by rw [f38_0,sld_eq,f38_0g];rfl
theorem f42_eq {a b c d:Int}{k:Int->Int->Option α}:f42_0 α a b c d k=k (rstE b d) (rstE a c):=by rw [f42_0,sld_eq,f42_0g];rfl
def finE (A:Ask)(st:Bool)(a b c d:Int):Q6 × Int:=
 if st=true then (if lossA A=true then ((a,b,0,0,rstE b 0,rstE a 0),0) else ((a,b,0,0,0,0),0))
 else (if lossA A=true then ((a,b,c,d,rstE b d,rstE a c),0) else ((a,b,c,d,0,0),0))
def z6:Q6:=(0,0,0,0,0,0)
def sharesE (A:Ask):Q6 × Int:=
 if ckA A=0 then
  bnd (ampE A false 0) fun r e1=>bnd (ampE A true e1) fun t e2=>bnd (admE A (A.ls.length+1) e2) fun l e3=>
  bndP (prtE e3 l) fun ul uh _ _ e4=>bnd (admE A 0 e4) fun f e5=>bndP (prtE e5 f) fun fl fh _ _ e6=>
  bndN (normalE A (A.ls.length+1) e6) fun _ st e7=>
  if e7=0 then
   if fl<=0 then (z6,9) else
   bndF (engE r) fun bl bh e8=>if e8=0 then
    bndF (engE t) fun tl th e9=>if e9=0 then
     finE A st (cut1 bl) (cut1 bh) (cut1 (dnI (w64 (pos ul*tl)) fh)) (cut1 (upI (w64 (pos uh*th)) fl))
    else (z6,e9)
   else (z6,e8)
  else (z6,e7)
 else (z6,ckA A)
theorem bnd_congr {β:Type}{u:Bl × Int}{f g:Bl->Int->β}(h:∀ a e,f a e=g a e):bnd u f=bnd u g:=by rw [bnd_eq,bnd_eq,h]
theorem bndP_congr {β:Type}{u:Q4 × Int}{f g:Int->Int->Int->Int->Int->β}(h:∀ a b c d e,f a b c d e=g a b c d e):bndP u f=bndP u g:=by rw [bndP_eq,bndP_eq,h]
theorem bndF_congr {β:Type}{u:Int × Int × Int}{f g:Int->Int->Int->β}(h:∀ a b c,f a b c=g a b c):bndF u f=bndF u g:=by rw [bndF_eq,bndF_eq,h]
theorem bndN_congr {β:Type}{u:Bl × Bool × Int}{f g:Bl->Bool->Int->β}(h:∀ a b c,f a b c=g a b c):bndN u f=bndN u g:=by rw [bndN_eq,bndN_eq,h]
theorem prt_pos {e:Int}{a:Bl}(h:0 < (prtE e a).1.1):(prtE e a).1.2.1 ≠ 0:=by
 have g:=a.bd
 unfold prtE at *
 by_cases c:e=0
 ·rw [if_pos c] at *
  unfold Bl.lo1 at h
  show a.hi1 ≠ 0
  unfold Bl.hi1
  have h':0 < a.b.1 - a.b.2.2:=h
  omega
 ·rw [if_neg c] at *
  exact absurd h (Int.lt_irrefl 0)
theorem bndP_prt {β:Type}{e:Int}{a:Bl}{f g:Int->Int->Int->Int->Int->β}(h:∀ x y c d e,(0 < x->y ≠ 0)->f x y c d e=g x y c d e):bndP (prtE e a) f=bndP (prtE e a) g:=by
 rw [bndP_eq,bndP_eq]
 exact h _ _ _ _ _ prt_pos
theorem fin_eq (A:Ask)(hA:A.ls.length<=40){st:Bool}{a b c d:Int}{k:Int->Int->Int->Int->Int->Int->Int->Option α} :
  J12_0_0 α st (f41_0 α A.ix (A.ls.map rL) A.oi A.ol fun x=>cK x (f42_0 α a b 0 0 fun x82 x83=>k a b 0 0 x82 x83 0) (k a b 0 0 0 0 0))
   (f41_0 α A.ix (A.ls.map rL) A.oi A.ol fun x=>cK x (f42_0 α a b c d fun x85 x86=>k a b c d x85 x86 0) (k a b c d 0 0 0))=KS k (finE A st a b c d):=by
 simp only [J12_0_0,sld_eq,J12_0_0g,f41_bn A hA,f42_eq,cK_true,cK_false]
 unfold finE
 simp only [apply_ite (KS k),KS_p]
 simp only [cK_b]
theorem f12_bn (A:Ask){k:Int->Int->Int->Int->Int->Int->Int->Option α} :
  f12_0 α A.ix A.s1 A.s2 A.pol A.w1 A.w2 (A.ls.map rL) A.oi A.ol k=KS k (sharesE A):=by
 simp only [f12_0,sld_eq,f12_0g,f31_0,sld_eq,f31_0g,f70_eq,cK_bne]
 unfold sharesE
 by_cases c:ckA A=0
 ·rw [if_pos c,if_pos c]
  obtain⟨_,_,_,hw,hA,_⟩:=ckA_ok c
  have hw':=rngE_ok hw
  have h1:A.w1 ≠ 0:=by omega
  have h2:A.w2 ≠ 0:=by omega
  have hww:w64 ((A.ls.length:Int)+1)=((A.ls.length+1:Nat):Int):=by rw [w64_in (by omega) (by omega)];omega
  have hl:A.ls.length+1 < 1000000:=by omega
  have h0:∀ (e:Int) (k:Nat->Nat->Int->Int->Option α),f34_0 α e A.ix A.s1 A.s2 A.pol (A.ls.map rL) A.oi A.ol 0 k=bnd (admE A 0 e) fun u e=>k u.n1 u.n2 u.r e:=fun e k=>f34_bn A (n:=0) (by decide) e
  simp only [List.length_map,hww,h0,f32_bn A _ hA h1 h2,f34_bn A hl,f35_bn A hl,f33_bn,bnd_push (KS k),bndP_push (KS k),bndN_push (KS k)]
  refine bnd_congr fun r e1=>bnd_congr fun t e2=>bnd_congr fun l e3=>bndP_congr fun ul uh _ _ e4=>bnd_congr fun f e5=>bndP_prt fun fl fh _ _ e6 hf=>bndN_congr fun _ st e7=>?_
  by_cases c7:e7=0
  ·rw [if_pos c7,if_pos c7,cK_dec]
   by_cases cf:fl<=0
   ·rw [if_pos cf,if_pos cf];rfl
   ·rw [if_neg cf,if_neg cf,f36_bn,bndF_push (KS k)]
    refine bndF_congr fun bl bh e8=>?_
    by_cases c8:e8=0
    ·rw [if_pos c8,if_pos c8,f36_bn,bndF_push (KS k)]
     refine bndF_congr fun tl th e9=>?_
     by_cases c9:e9=0
     ·rw [if_pos c9,if_pos c9,f37_eq,f38_eq,f39_raw (hf (by omega)),f40_raw (by omega),f38_eq]
      exact fin_eq A hA
     ·rw [if_neg c9,if_neg c9];rfl
    ·rw [if_neg c8,if_neg c8];rfl
  ·rw [if_neg c7,if_neg c7];rfl
 ·rw [if_neg c,if_neg c];rfl
end Go.AM.K
