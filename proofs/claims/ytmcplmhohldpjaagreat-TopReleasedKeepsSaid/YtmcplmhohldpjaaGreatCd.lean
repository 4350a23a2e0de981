/- Texts of one kind, put together. -/
import Derived.Test.YtmcplmhohldpjaaGreatCc
import Derived.Test.YtmcplmhohldpjaaGreatYWj
import Derived.Test.YtmcplmhohldpjaaGreatYWl
namespace Go.AM.K
open Go.AM
set_option linter.unusedVariables false
set_option linter.unusedSimpArgs false
def Cc:Nat->Int
 | 0=>fHi 0
 | n+1=>if fHi ((n+1:Nat):Int) < Cc n then fHi ((n+1:Nat):Int) else Cc n
theorem adq:∀ (n k:Nat),k<=n->Cc n<=fHi (k:Int):=by
 intro n
 induction n with
 | zero=>
  intro k h
  have e:k=0:=by omega
  subst e
  exact Int.le_refl _
 | succ n ih=>
  intro k h
  unfold Cc
  by_cases c:k<=n
  ·have:=ih k c
   split <;> omega
  ·have e:k=n+1:=by omega
   subst e
   split <;> omega
theorem afV {hi:Int}:∀ n:Nat,(n:Int)<=hi->fLo hi<=Cc n/\0<=fLo hi:=by
 intro n
 induction n with
 | zero=>
  intro h
  obtain⟨a,b,c⟩:=D7 (lo:=0) (hi:=hi) (Int.le_refl _) h
  exact⟨b,a⟩
 | succ n ih=>
  intro h
  obtain⟨a,b,c⟩:=D7 (lo:=((n+1:Nat):Int)) (hi:=hi) (by omega) h
  have:=ih (by omega)
  unfold Cc
  split <;> omega
theorem aen {lo hi m:Int}(h0:0<=lo)(h1:lo<=m)(h2:m<=hi)(he:(mW lo hi).2.2=0):(mW lo hi).1<=Cc m.toNat/\Cc m.toNat<=(mW lo hi).2.1:=by
 unfold mW at *
 by_cases c:ckE lo hi 0=0
 ·rw [if_pos c] at he ⊢
  have a:=(afV (hi:=hi) m.toNat (by omega)).1
  have b:=adq m.toNat lo.toNat (by omega)
  rw [Int.toNat_of_nonneg h0] at b
  exact⟨a,b⟩
 ·rw [if_neg c] at he;exact absurd he c
def IK (x D d w t:Int):Int:=t*(4*pos x*d*1048576) / (D*w)
structure zj (lo hi x D d w:Int):Prop where
 lo0:0<=lo
 hi0:hi<=4503599627370496
 b:∀ t,t=1\/t=2->t*lo<=IK x D d w t/\IK x D d w t<=t*hi
theorem E9 (x:Int):0<=pos x:=by unfold pos;split <;> omega
theorem Zb {a x D:Int}(hD:0 < D)(h:D*a<=x*1048576):D*pos a<=pos x*1048576:=by
 have hx:=E9 x
 by_cases c:a > 0
 ·have:=Int.mul_pos hD c
  unfold pos
  rw [if_pos c,if_pos (by omega)];exact h
 ·rw [show pos a=0 from if_neg c,Int.mul_zero];omega
theorem Vk {b x D:Int}(hD:0 < D)(h:x*1048576<=D*b):pos x*1048576<=D*pos b:=by
 by_cases c:x > 0
 ·have hb:b > 0:=by
   by_cases c2:b > 0
   ·exact c2
   ·have:=Int.mul_nonneg (Int.le_of_lt hD) (show 0<=-b by omega)
    rw [Int.mul_neg] at this
    omega
  unfold pos
  rw [if_pos c,if_pos hb];exact h
 ·rw [show pos x=0 from if_neg c,Int.zero_mul]
  exact Int.mul_nonneg (Int.le_of_lt hD) (E9 b)
theorem Oy {a b x D d1 d2 d w1 w2 w:Int}(hD:0 < D)(ha:a<=134217728)(hb:b<=134217728)(h1:D*a<=x*1048576)(h2:x*1048576<=D*b)
  (hd0:0<=d1) (hd1:d1<=d) (hd2:d<=d2) (hd3:d2<=1000000) (hw0:1000<=w1) (hw1:w1<=w) (hw2:w<=w2) (hw3:w2<=200000) :
  zj (dnI (w64 ((w64 (4*pos a))*d1)) w2) (upI (w64 ((w64 (4*pos b))*d2)) w1) x D d w:=by
 have pa:=oC ha
 have pb:=oC hb
 have px:=E9 x
 have q1:=Zb hD h1
 have q2:=Vk hD h2
 generalize pos a=a' at *
 generalize pos b=b' at *
 have mA:=iL (x:=4*a') (y:=d1) (A:=536870912) (B:=1000000) (by omega) (by omega) (by omega) (by omega)
 have mB:=iL (x:=4*b') (y:=d2) (A:=536870912) (B:=1000000) (by omega) (by omega) (by omega) (by omega)
 rw [ak (n:=4*a') (by omega) (by omega),ak (n:=4*b') (by omega) (by omega),ak (n:=4*a'*d1) (by omega) (by omega),ak (n:=4*b'*d2) (by omega) (by omega),
  Fl (by omega) (by omega) (by omega),AW (by omega) (by omega) (by omega) (by omega)]
 have hDw:0 < D*w:=Int.mul_pos hD (by omega)
 -- what the numbers are below and above
 have lo1:4*a'*d1 / w2*w2<=4*a'*d1:=Int.ediv_mul_le _ (by omega)
 have lo2:0<=4*a'*d1 / w2:=Int.ediv_nonneg mA.1 (by omega)
 have hi1:4*b'*d2<=(4*b'*d2+w1 - 1) / w1*w1:=by
  have e:=Int.emod_add_mul_ediv (4*b'*d2+w1 - 1) w1
  have e2:=Int.emod_lt_of_pos (4*b'*d2+w1 - 1) (show 0 < w1 by omega)
  rw [Int.mul_comm w1] at e
  omega
 have hi2:0<=(4*b'*d2+w1 - 1) / w1:=Int.ediv_nonneg (by omega) (by omega)
 have hi3:(4*b'*d2+w1 - 1) / w1<=4503599627370496:=Int.le_trans (Int.ediv_le_self _ (by omega)) (by omega)
 refine⟨lo2,hi3,fun t ht=>?_⟩
 unfold IK
 have ht0:0<=t:=by omega
 constructor
 ·rw [Int.le_ediv_iff_mul_le hDw]
  generalize 4*a'*d1 / w2=z at *
  have i1:z*w<=z*w2:=Int.mul_le_mul_of_nonneg_left hw2 lo2
  have i2:D*(z*w)<=D*(4*a'*d1):=Int.mul_le_mul_of_nonneg_left (by omega) (Int.le_of_lt hD)
  have i3:(D*a')*(4*d1)<=(pos x*1048576)*(4*d1):=Int.mul_le_mul_of_nonneg_right q1 (by omega)
  have i4:(pos x*1048576*4)*d1<=(pos x*1048576*4)*d:=Int.mul_le_mul_of_nonneg_left hd1 (by omega)
  have i5:D*(z*w)<=4*pos x*d*1048576:=by
   have e1:D*(4*a'*d1)=(D*a')*(4*d1):=by grind
   have e2:(pos x*1048576)*(4*d1)=(pos x*1048576*4)*d1:=by grind
   have e3:(pos x*1048576*4)*d=4*pos x*d*1048576:=by grind
   omega
  have i6:=Int.mul_le_mul_of_nonneg_left i5 ht0
  have e4:t*z*(D*w)=t*(D*(z*w)):=by grind
  omega
 ·generalize (4*b'*d2+w1 - 1) / w1=z at *
  have i1:z*w1<=z*w:=Int.mul_le_mul_of_nonneg_left hw1 hi2
  have i2:D*(4*b'*d2)<=D*(z*w):=Int.mul_le_mul_of_nonneg_left (by omega) (Int.le_of_lt hD)
  have i3:(pos x*1048576)*(4*d2)<=(D*b')*(4*d2):=Int.mul_le_mul_of_nonneg_right q2 (by omega)
  have i4:(pos x*1048576*4)*d<=(pos x*1048576*4)*d2:=Int.mul_le_mul_of_nonneg_left hd2 (by omega)
  have i5:4*pos x*d*1048576<=D*(z*w):=by
   have e1:D*(4*b'*d2)=(D*b')*(4*d2):=by grind
   have e2:(pos x*1048576)*(4*d2)=(pos x*1048576*4)*d2:=by grind
   have e3:(pos x*1048576*4)*d=4*pos x*d*1048576:=by grind
   omega
  have i6:=Int.mul_le_mul_of_nonneg_left i5 ht0
  have e4:t*(D*(z*w))=t*z*(D*w):=by grind
  rw [e4] at i6
  have i7:=Int.ediv_le_ediv hDw i6
  rw [Int.mul_ediv_cancel _ (by omega)] at i7
  exact i7
theorem aeb {A:Ask}{p:Pt}{σ:Zq}{i:Nat}{l:L5}{x:Int × Int × Int}(h:jM A p)(hl:A.ls[i]?=some l)(hx:p.ls[i]?=some x)(hσ:Ih p (i+1) σ){e:Int}(h0:(oF A l (i+1) e).2=0) :
  e=0/\zj (oF A l (i+1) e).1.1 (oF A l (i+1) e).1.2.1 σ.p σ.d x.2.1 p.w/\zj (oF A l (i+1) e).1.2.2.1 (oF A l (i+1) e).1.2.2.2 σ.q σ.d x.2.1 p.w:=by
 obtain⟨c1,c2,c3,c4,c5,c6,c7,c8⟩:=vC h.ck
 obtain⟨w1,w2,w3⟩:=KZ c4
 obtain⟨wa,wb⟩:=h.w
 have hb:=TZ c6 hl
 have hxx:=(yW h.ls).2 hl hx
 have em:=vv hl
 have ez:=C1 hx
 unfold LBd at hb
 unfold PY at hxx
 unfold oF at *
 rw [iI,eF] at h0 ⊢
 have hn:=hσ.i A e h
 generalize dv A (i+1) e=u at *
 have hd:=σ.h
 have fin:∀ a b c d:Int,a<=134217728->b<=134217728->c<=134217728->d<=134217728->σ.d*a<=σ.p*1048576->σ.p*1048576<=σ.d*b->σ.d*c<=σ.q*1048576->σ.q*1048576<=σ.d*d ->
   zj (GE A l a b c d 0).1.1 (GE A l a b c d 0).1.2.1 σ.p σ.d x.2.1 p.w/\zj (GE A l a b c d 0).1.2.2.1 (GE A l a b c d 0).1.2.2.2 σ.q σ.d x.2.1 p.w:=by
  intro a b c d k1 k2 k3 k4 k5 k6 k7 k8
  exact⟨Oy hd k1 k2 k5 k6 (by omega) (by omega) (by omega) (by omega) (by omega) (by omega) (by omega) (by omega),
   Oy hd k3 k4 k7 k8 (by omega) (by omega) (by omega) (by omega) (by omega) (by omega) (by omega) (by omega)⟩
 have hp2:(fH u.2.2 u.1).2=0:=by
  revert h0
  split
  ·split <;> exact fun h=>h
  ·exact fun h=>h
 obtain⟨e1,e2⟩:=yA hp2
 obtain⟨e0,hi,hk,hk2⟩:=hn e1
 have g:=u.1.bd
 have hb1:u.1.lo1<=134217728/\u.1.hi1<=134217728/\u.1.lo2<=134217728/\u.1.hi2<=134217728:=by
  unfold Bl.lo1 Bl.hi1 Bl.lo2 Bl.hi2
  omega
 obtain⟨⟨p1,p2⟩,p3,p4⟩:=uk hi
 rw [e2] at h0 ⊢
 simp only at h0 ⊢
 refine⟨e0,?_⟩
 by_cases cl:l.2.2.2.2=0
 ·rw [if_pos cl]
  have hz:(iy p (i+1)).2=0:=by rw [ez];simp only;omega
  obtain⟨t1,t2⟩:=hk hz
  by_cases cs:u.2.1=true
  ·rw [if_pos cs]
   have:=t1 cs
   exact fin 0 0 _ _ (by decide) (by decide) hb1.2.2.1 hb1.2.2.2 (by omega) (by omega) p3 p4
  ·rw [if_neg cs]
   have:=t2 (by simpa using cs)
   exact fin _ _ 0 0 hb1.1 hb1.2.1 (by decide) (by decide) p1 p2 (by omega) (by omega)
 ·rw [if_neg cl]
  exact fin _ _ _ _ hb1.1 hb1.2.1 hb1.2.2.1 hb1.2.2.2 p1 p2 p3 p4
def JK (p:Pt)(σ:Zq)(x:Int × Int × Int)(t:Int):Zq:=(iK (IK σ.p σ.d x.2.1 p.w t)).mul (Zq.real (Cc (IK σ.q σ.d x.2.1 p.w t).toNat) 1048576 (by decide))
theorem alG (m:Int):Zq.In Blc (iK m):=by
 have h:=UL m
 have hd:=(iK m).h
 show nle ((iK m).d*0 - (iK m).p*1048576) ((iK m).d*0 - (iK m).q*1048576) ((iK m).d*1048576)
 generalize iK m=z at *
 refine⟨by omega,?_⟩
 have e1:(z.d*0 - z.p*1048576)*(z.d*0 - z.p*1048576)+(z.d*0 - z.q*1048576)*(z.d*0 - z.q*1048576)=1099511627776*(z.p*z.p+z.q*z.q):=by grind
 have e2:z.d*1048576*(z.d*1048576)=1099511627776*(z.d*z.d):=by grind
 omega
theorem aaq {A:Ask}{p:Pt}{σ:Zq}{i:Nat}{l:L5}{x:Int × Int × Int}(h:jM A p)(hl:A.ls[i]?=some l)(hx:p.ls[i]?=some x)(hσ:Ih p (i+1) σ){t e:Int}(ht:t=1\/t=2)(h0:(fR A l (i+1) t e).2=0) :
  e=0/\Zq.In (fR A l (i+1) t e).1 (JK p σ x t):=by
 have hT:=aeb (e:=e) h hl hx hσ
 unfold fR JK at *
 rw [eF] at h0 ⊢
 generalize oF A l (i+1) e=T at *
 by_cases c:T.2=0
 ·rw [if_pos c] at h0 ⊢
  obtain⟨e0,k1,k2⟩:=hT c
  obtain⟨a1,a2⟩:=k1.b t ht
  obtain⟨b1,b2⟩:=k2.b t ht
  have a0:=k1.lo0;have b0:=k2.lo0;have a3:=k1.hi0;have b3:=k2.hi0
  have hti:0<=t:=by omega
  have l1:=Int.mul_nonneg hti a0
  have l2:=Int.mul_nonneg hti b0
  have u1:t*T.1.2.1<=9007199254740992:=by rcases ht with rfl | rfl <;> omega
  have u2:t*T.1.2.2.2<=9007199254740992:=by rcases ht with rfl | rfl <;> omega
  refine⟨e0,?_⟩
  rw [ak (n:=t*T.1.1) (by omega) (by omega),ak (n:=t*T.1.2.1) (by omega) (by omega),ak (n:=t*T.1.2.2.1) (by omega) (by omega),ak (n:=t*T.1.2.2.2) (by omega) (by omega),ak (n:=t*T.1.2.1 - t*T.1.1) (by omega) (by omega)] at h0 ⊢
  have hf:=aen (lo:=t*T.1.2.2.1) (hi:=t*T.1.2.2.2) l2 b1 b2
  generalize mW (t*T.1.2.2.1) (t*T.1.2.2.2)=F at *
  have fin:∀ z:Bl,Zq.In z (iK (IK σ.p σ.d x.2.1 p.w t))->F.2.2=0->(two bc (jL F.2.2 F.1 F.2.1).2 z (jL F.2.2 F.1 F.2.1).1).2=0 ->
    Zq.In (two bc (jL F.2.2 F.1 F.2.1).2 z (jL F.2.2 F.1 F.2.1).1).1 ((iK (IK σ.p σ.d x.2.1 p.w t)).mul (Zq.real (Cc (IK σ.q σ.d x.2.1 p.w t).toNat) 1048576 (by decide))):=by
   intro z hz hF hv
   obtain⟨f1,f2⟩:=hf hF
   obtain⟨v1,v2,v3⟩:=B6 hv
   rw [v2]
   obtain⟨r1,r2,r3⟩:=z5 v1
   rw [r2] at v3 ⊢
   exact lu hz (sH (by decide) (by omega) (by omega) r3) v3
  by_cases c2:t*T.1.2.1 - t*T.1.1 < 1048576
  ·rw [if_pos c2,aK] at h0 ⊢
   by_cases c3:(IE (t*T.1.1) (t*T.1.2.1)).2=0
   ·rw [if_pos c3,fW] at h0 ⊢
    by_cases c4:F.2.2=0
    ·rw [if_pos c4,aK,aK] at h0 ⊢
     simp only at h0 ⊢
     exact fin _ (ajc a1 a2 c2 c3) c4 h0
    ·rw [if_neg c4] at h0;exact absurd h0 c4
   ·rw [if_neg c3] at h0;exact absurd h0 c3
  ·rw [if_neg c2,if_pos c,fW] at h0 ⊢
   by_cases c4:F.2.2=0
   ·rw [if_pos c4,aK,aK] at h0 ⊢
    simp only at h0 ⊢
    exact fin _ (alG _) c4 h0
   ·rw [if_neg c4] at h0;exact absurd h0 c4
 ·rw [if_neg c] at h0;exact absurd h0 c
structure MZ where
 a:Zq
 b:Zq
 c:Zq
 d:Zq
structure MZ.In (m:Mt)(z:MZ):Prop where
 a:Zq.In m.1 z.a
 b:Zq.In m.2.1 z.b
 c:Zq.In m.2.2.1 z.c
 d:Zq.In m.2.2.2 z.d
theorem tP {a b:Bl}{z w:Zq}{v:Bl × Int}(hv:ej a b=v)(h:v.2=0)(ha:Zq.In a z)(hb:Zq.In b w):Zq.In v.1 (z.add w):=by subst hv;exact Mg ha hb h
theorem aaR {a b:Bl}{z w:Zq}{v:Bl × Int}(hv:gV a b=v)(h:v.2=0)(ha:Zq.In a z)(hb:Zq.In b w):Zq.In v.1 (z.sub w):=by subst hv;exact Jk ha hb h
theorem fZ {a b:Bl}{z w:Zq}{v:Bl × Int}(hv:bc a b=v)(h:v.2=0)(ha:Zq.In a z)(hb:Zq.In b w):Zq.In v.1 (z.mul w):=by subst hv;exact lu ha hb h
theorem aml {a b:Bl}{z w:Zq}{v:Bl × Int}(hv:nu a b=v)(h:v.2=0)(ha:Zq.In a z)(hb:Zq.In b w):Zq.In v.1 (z.quo w):=by subst hv;exact ZS ha hb h
def HO:Zq:=Zq.real 1 1 (by decide)
def ama:Zq:=Zq.real 0 1 (by decide)
def Jy:Zq:=Zq.real 1 2 (by decide)
theorem zX:Zq.In Bl1 HO:=KW af0
theorem aaL:Zq.In Bl0 ama:=KW X1
def afu (y g:Zq):MZ:=⟨(HO.add g).mul Jy,((HO.sub g).mul Jy).quo y,((HO.sub g).mul Jy).mul y,(HO.add g).mul Jy⟩
theorem alX {e:Int}{y g:Bl}{zy zg:Zq}(hy:e=0->Zq.In y zy)(hg:e=0->Zq.In g zg)(h:(iR e y g).2=0):e=0/\MZ.In (iR e y g).1 (afu zy zg):=by
 unfold iR at *
 rw [aK,aK,aK,aK,aK,aK,aK] at h ⊢
 simp only at h ⊢
 generalize hh:xh e 1 2=h1 at *
 generalize ha:two ej h1.2 Bl1 g=a at *
 generalize hu:two bc a.2 a.1 h1.1=u at *
 generalize hb:two gV u.2 Bl1 g=b at *
 generalize hc:two bc b.2 b.1 h1.1=c at *
 generalize hv:two nu c.2 c.1 y=v at *
 generalize hw:two bc v.2 c.1 y=w at *
 obtain⟨ev,w1⟩:=cV hw h
 obtain⟨ec,v1⟩:=cV hv ev
 obtain⟨eb,c1⟩:=cV hc ec
 obtain⟨eu,b1⟩:=cV hb eb
 obtain⟨ea,u1⟩:=cV hu eu
 obtain⟨eh,a1⟩:=cV ha ea
 have k0:e=0/\Zq.In h1.1 Jy:=by
  subst hh
  obtain⟨e0,h2,h3⟩:=Ir eh
  rw [h2]
  exact⟨e0,LK h3 (by decide)⟩
 have hy:=hy k0.1
 have hg:=hg k0.1
 have ka:=tP a1 ea zX hg
 have ku:=fZ u1 eu ka k0.2
 have kb:=aaR b1 eb zX hg
 have kc:=fZ c1 ec kb k0.2
 exact⟨k0.1,ku,aml v1 ev kc hy,fZ w1 h kc hy,ku⟩
def ac6 (p m:MZ):MZ:=⟨(p.a.mul m.a).add (p.b.mul m.c),(p.a.mul m.b).add (p.b.mul m.d),(p.c.mul m.a).add (p.d.mul m.c),(p.c.mul m.b).add (p.d.mul m.d)⟩
theorem alM {e:Int}{p m:Mt}{zp zm:MZ}(hp:e=0->MZ.In p zp)(hm:e=0->MZ.In m zm)(h:(qs e p m).2=0):e=0/\MZ.In (qs e p m).1 (ac6 zp zm):=by
 unfold qs at *
 rw [aK,aK,aK,aK,aK,aK,aK,aK,aK,aK,aK,aK] at h ⊢
 simp only at h ⊢
 generalize ha1:two bc e p.1 m.1=a1 at *
 generalize ha2:two bc a1.2 p.2.1 m.2.2.1=a2 at *
 generalize ha:two ej a2.2 a1.1 a2.1=a at *
 generalize hb1:two bc a.2 p.1 m.2.1=b1 at *
 generalize hb2:two bc b1.2 p.2.1 m.2.2.2=b2 at *
 generalize hb:two ej b2.2 b1.1 b2.1=b at *
 generalize hc1:two bc b.2 p.2.2.1 m.1=c1 at *
 generalize hc2:two bc c1.2 p.2.2.2 m.2.2.1=c2 at *
 generalize hc:two ej c2.2 c1.1 c2.1=c at *
 generalize hd1:two bc c.2 p.2.2.1 m.2.1=d1 at *
 generalize hd2:two bc d1.2 p.2.2.2 m.2.2.2=d2 at *
 generalize hd:two ej d2.2 d1.1 d2.1=d at *
 obtain⟨x1,y1⟩:=cV hd h
 obtain⟨x2,y2⟩:=cV hd2 x1
 obtain⟨x3,y3⟩:=cV hd1 x2
 obtain⟨x4,y4⟩:=cV hc x3
 obtain⟨x5,y5⟩:=cV hc2 x4
 obtain⟨x6,y6⟩:=cV hc1 x5
 obtain⟨x7,y7⟩:=cV hb x6
 obtain⟨x8,y8⟩:=cV hb2 x7
 obtain⟨x9,y9⟩:=cV hb1 x8
 obtain⟨x10,y10⟩:=cV ha x9
 obtain⟨x11,y11⟩:=cV ha2 x10
 obtain⟨x12,y12⟩:=cV ha1 x11
 have hp:=hp x12
 have hm:=hm x12
 exact⟨x12,tP y10 x9 (fZ y12 x11 hp.a hm.a) (fZ y11 x10 hp.b hm.c),tP y7 x6 (fZ y9 x8 hp.a hm.b) (fZ y8 x7 hp.b hm.d),
  tP y4 x3 (fZ y6 x5 hp.c hm.a) (fZ y5 x4 hp.d hm.c),tP y1 h (fZ y3 x2 hp.c hm.b) (fZ y2 x1 hp.d hm.d)⟩
end Go.AM.K

namespace Go.AM.K
open Go.AM
set_option linter.unusedVariables false
set_option linter.unusedSimpArgs false
noncomputable def sgZ (p:Pt)(n:Nat):Zq:=(CT p n).choose
theorem wP (p:Pt)(n:Nat):Ih p n (sgZ p n):=(CT p n).choose_spec
noncomputable def G9 (p:Pt)(fs:Bool):List (Int × Int × Int)->Nat->MZ->Zq->MZ × Zq
 | [],_,m,a=>(m,a)
 | x::xs,n,m,a=>G9 p fs xs (n+1) (ac6 m (afu (Au p n (sgZ p n)) (JK p (sgZ p n) x 2))) (if fs=true then a.mul (JK p (sgZ p n) x 1) else a)
theorem Mx {A:Ask}{fs:Bool}{rest:List L5}{n:Nat}{p:Mt}{a:Bl}{e:Int}(h:(ug A fs rest n p a e).2=0):e=0:=by
 cases rest with
 | nil=>exact h
 | cons l ls=>
  rw [vo] at h
  by_cases c:e=0
  ·exact c
  ·rw [if_neg c] at h;exact h
theorem eG {β:Type}{L:List β}{i:Nat}{x:β}{r:List β}(h:L.drop i=x::r):L[i]?=some x/\L.drop (i+1)=r:=by
 have h1:=congrArg List.head? h
 rw [List.head?_drop] at h1
 have h2:=congrArg List.tail h
 rw [List.tail_drop] at h2
 exact⟨h1,h2⟩
theorem ajK {A:Ask}{p:Pt}{fs:Bool}(h:jM A p):∀ (rest:List L5) (xs:List (Int × Int × Int)) (i:Nat) (m:Mt) (a:Bl) (e:Int) (zm:MZ) (za:Zq),A.ls.drop i=rest->p.ls.drop i=xs ->
  MZ.In m zm->Zq.In a za->(ug A fs rest (i+1) m a e).2=0->e=0/\MZ.In (ug A fs rest (i+1) m a e).1.1 (G9 p fs xs (i+1) zm za).1/\Zq.In (ug A fs rest (i+1) m a e).1.2 (G9 p fs xs (i+1) zm za).2:=by
 intro rest
 induction rest with
 | nil=>
  intro xs i m a e zm za h1 h2 hm ha h0
  have hl:A.ls.length<=i:=List.drop_eq_nil_iff.1 h1
  have hx:xs=[]:=by rw [<- h2];exact List.drop_eq_nil_of_le (by have:=(yW h.ls).1;omega)
  subst hx
  exact⟨h0,hm,ha⟩
 | cons l rs ih=>
  intro xs i m a e zm za h1 h2 hm ha h0
  obtain⟨hl,h1'⟩:=eG h1
  have hlt:i < A.ls.length:=(List.getElem?_eq_some_iff.1 hl).1
  have hlen:=(yW h.ls).1
  cases xs with
  | nil=>have:=List.drop_eq_nil_iff.1 h2;omega
  | cons x xs=>
   obtain⟨hx,h2'⟩:=eG h2
   have e0:=Mx h0
   subst e0
   rw [vo,if_pos rfl,aK,aK] at h0 ⊢
   have hA:=B4 (n:=i+1) (e:=0) (wP p (i+1)) h
   generalize kY A (i+1) 0=y at *
   have hG:=aaq (t:=2) (e:=y.2) h hl hx (wP p (i+1)) (Or.inr rfl)
   generalize fR A l (i+1) 2 y.2=g at *
   show (0:Int)=0/\MZ.In _ (G9 p fs xs (i+1+1) _ _).1/\Zq.In _ (G9 p fs xs (i+1+1) _ _).2
   refine⟨rfl,?_⟩
   have fin:∀ (e':Int) (b:Bl) (zb:Zq),(e'=0->g.2=0/\Zq.In b zb)->(ug A fs rs (i+1+1) (qs (iR e' y.1 g.1).2 m (iR e' y.1 g.1).1).1 b (qs (iR e' y.1 g.1).2 m (iR e' y.1 g.1).1).2).2=0 ->
     MZ.In (ug A fs rs (i+1+1) (qs (iR e' y.1 g.1).2 m (iR e' y.1 g.1).1).1 b (qs (iR e' y.1 g.1).2 m (iR e' y.1 g.1).1).2).1.1 (G9 p fs xs (i+1+1) (ac6 zm (afu (Au p (i+1) (sgZ p (i+1))) (JK p (sgZ p (i+1)) x 2))) zb).1 /\
     Zq.In (ug A fs rs (i+1+1) (qs (iR e' y.1 g.1).2 m (iR e' y.1 g.1).1).1 b (qs (iR e' y.1 g.1).2 m (iR e' y.1 g.1).1).2).1.2 (G9 p fs xs (i+1+1) (ac6 zm (afu (Au p (i+1) (sgZ p (i+1))) (JK p (sgZ p (i+1)) x 2))) zb).2:=by
    intro e' b zb hb hv
    have q0:=Mx hv
    have hM:=alX (e:=e') (y:=y.1) (g:=g.1) (zy:=Au p (i+1) (sgZ p (i+1))) (zg:=JK p (sgZ p (i+1)) x 2) (fun e1=>(hA ((hG (hb e1).1).1)).2) (fun e1=>(hG (hb e1).1).2)
    have hU:=alM (e:=(iR e' y.1 g.1).2) (p:=m) (m:=(iR e' y.1 g.1).1) (zp:=zm) (fun _=>hm) (fun e1=>(hM e1).2) q0
    have hE:=(hM hU.1).1
    exact (ih xs (i+1) _ b _ _ zb h1' h2' hU.2 (hb hE).2 hv).2
   cases fs with
   | true=>
    rw [if_pos rfl,aK,aK,pC,pC] at h0 ⊢
    rw [if_pos rfl]
    have hH:=aaq (t:=1) (e:=g.2) h hl hx (wP p (i+1)) (Or.inl rfl)
    generalize fR A l (i+1) 1 g.2=f at *
    refine fin (two bc f.2 a f.1).2 _ _ (fun e1=>?_) h0
    obtain⟨v1,v2,v3⟩:=B6 e1
    obtain⟨f1,f2⟩:=hH v1
    rw [v2]
    exact⟨f1,lu ha f2 v3⟩
   | false=>
    rw [if_neg (by decide),pC,pC] at h0 ⊢
    rw [if_neg (by decide)]
    exact fin g.2 a za (fun e1=>⟨e1,ha⟩) h0
noncomputable def qq (p:Pt)(fs:Bool):MZ × Zq:=G9 p fs p.ls 1 ⟨HO,ama,ama,HO⟩ HO
theorem akJ {A:Ask}{p:Pt}{fs:Bool}(h:jM A p){e:Int}(h0:(jB A fs e).2=0):e=0/\MZ.In (jB A fs e).1.1 (qq p fs).1/\Zq.In (jB A fs e).1.2 (qq p fs).2:=
 ajK h A.ls p.ls 0 _ _ e _ _ rfl rfl ⟨zX,aaL,aaL,zX⟩ zX h0
noncomputable def adZ (p:Pt)(n:Nat):Zq:=Au p n (sgZ p n)
noncomputable def qR (p:Pt)(tr:Bool):Zq:=
 let a:=(adZ p 0).mul ((qq p tr).1.a.add ((qq p tr).1.b.mul (adZ p (p.ls.length+1))))
 let c:=(qq p tr).1.c.add ((qq p tr).1.d.mul (adZ p (p.ls.length+1)))
 if tr=true then (((adZ p 0).add (adZ p 0)).mul (qq p tr).2).quo (a.add c) else (a.sub c).quo (a.add c)
theorem Ua {A:Ask}{p:Pt}{tr:Bool}(hA:jM A p){e:Int}(h:(xC A tr e).2=0):e=0/\Zq.In (xC A tr e).1 (qR p tr):=by
 unfold xC qR at *
 have hlen:=(yW hA.ls).1
 rw [aK,LX,aK,aK,aK,aK,aK,aK,aK] at h ⊢
 simp only at h ⊢
 rw [<- hlen]
 have kf:=B4 (n:=0) (e:=e) (wP p 0) hA
 generalize kY A 0 e=f at *
 have kt:=akJ (fs:=tr) (e:=f.2) hA
 generalize jB A tr f.2=t at *
 have kl:=B4 (n:=A.ls.length+1) (e:=t.2) (wP p (A.ls.length+1)) hA
 generalize kY A (A.ls.length+1) t.2=l at *
 generalize h1:two bc l.2 t.1.1.2.1 l.1=t1 at *
 generalize h2:two ej t1.2 t.1.1.1 t1.1=b at *
 generalize h3:two bc b.2 t.1.1.2.2.2 l.1=t2 at *
 generalize h4:two ej t2.2 t.1.1.2.2.1 t2.1=c at *
 generalize h5:two bc c.2 f.1 b.1=a at *
 generalize h6:two ej a.2 a.1 c.1=d at *
 have pre:d.2=0->e=0/\Zq.In f.1 (adZ p 0)/\Zq.In t.1.2 (qq p tr).2/\Zq.In a.1 ((adZ p 0).mul ((qq p tr).1.a.add ((qq p tr).1.b.mul (adZ p (A.ls.length+1)))))/\Zq.In c.1 ((qq p tr).1.c.add ((qq p tr).1.d.mul (adZ p (A.ls.length+1)))) /\
   Zq.In d.1 (((adZ p 0).mul ((qq p tr).1.a.add ((qq p tr).1.b.mul (adZ p (A.ls.length+1))))).add ((qq p tr).1.c.add ((qq p tr).1.d.mul (adZ p (A.ls.length+1))))):=by
  intro x7
  obtain⟨x6,y6⟩:=cV h6 x7
  obtain⟨x5,y5⟩:=cV h5 x6
  obtain⟨x4,y4⟩:=cV h4 x5
  obtain⟨x3,y3⟩:=cV h3 x4
  obtain⟨x2,y2⟩:=cV h2 x3
  obtain⟨x1,y1⟩:=cV h1 x2
  obtain⟨xt,cl⟩:=kl x1
  obtain⟨xf,cm,cg⟩:=kt xt
  obtain⟨x0,cf⟩:=kf xf
  have kb:=tP y2 x3 cm.a (fZ y1 x2 cm.b cl)
  have kc:=tP y4 x5 cm.c (fZ y3 x4 cm.d cl)
  have ka:=fZ y5 x6 cf kb
  exact⟨x0,cf,cg,ka,kc,tP y6 x7 ka kc⟩
 cases tr with
 | true=>
  rw [if_pos rfl,aK,aK,aK] at h ⊢
  rw [if_pos rfl]
  simp only at h ⊢
  generalize h7:two ej d.2 f.1 f.1=s at *
  generalize h8:two bc s.2 s.1 t.1.2=z at *
  generalize h9:two nu z.2 z.1 d.1=v at *
  obtain⟨x9,y9⟩:=cV h9 h
  obtain⟨x8,y8⟩:=cV h8 x9
  obtain⟨x7,y7⟩:=cV h7 x8
  obtain⟨x0,cf,cg,_,_,cd⟩:=pre x7
  exact⟨x0,aml y9 h (fZ y8 x9 (tP y7 x8 cf cf) cg) cd⟩
 | false=>
  rw [if_neg (by decide),aK,aK] at h ⊢
  rw [if_neg (by decide)]
  simp only at h ⊢
  generalize h7:two gV d.2 a.1 c.1=z at *
  generalize h8:two nu z.2 z.1 d.1=v at *
  obtain⟨x8,y8⟩:=cV h8 h
  obtain⟨x7,y7⟩:=cV h7 x8
  obtain⟨x0,_,_,ca,cc,cd⟩:=pre x7
  exact⟨x0,aml y8 h (aaR y7 x8 ca cc) cd⟩
structure Vl where
 n:Int
 d:Int
 h:0 < d
def Vl.In (v:Vl)(lo hi:Int):Prop:=v.d*lo<=v.n/\v.n<=v.d*hi
def zV:Vl:=⟨0,1,by decide⟩
def SR (v:Vl):Vl:=if v.d*1048576 < v.n then ⟨1048576,1,by decide⟩ else v
def ajh (v w:Vl):Vl:=⟨pos (1048576*(v.d*w.d) - v.n*w.d - w.n*v.d),v.d*w.d,Int.mul_pos v.h w.h⟩
theorem aql:Vl.In zV 0 0:=⟨by decide,by decide⟩
theorem YB {v:Vl}{lo hi:Int}(h:v.In lo hi):(SR v).In (xB lo) (xB hi):=by
 obtain⟨h1,h2⟩:=h
 have hd:=v.h
 unfold SR
 by_cases c:v.d*1048576 < v.n
 ·rw [if_pos c]
  have hh:1048576 < hi:=by
   by_cases c2:1048576 < hi
   ·exact c2
   ·have:=Int.mul_le_mul_of_nonneg_left (show hi<=1048576 by omega) (Int.le_of_lt hd)
    omega
  unfold Vl.In xB
  rw [if_pos hh]
  simp only
  split <;> omega
 ·rw [if_neg c]
  unfold Vl.In xB
  constructor
  ·split
   ·rename_i hl
    have:=Int.mul_le_mul_of_nonneg_left (show (1048576:Int)<=lo by omega) (Int.le_of_lt hd)
    omega
   ·exact h1
  ·split
   ·omega
   ·exact h2
theorem TL {v w:Vl}{a b c d:Int}(ha:cI a)(hb:cI b)(hc:cI c)(hd:cI d)(h1:v.In a b)(h2:w.In c d):(ajh v w).In (B1 b d) (B1 a c):=by
 obtain⟨p1,p2⟩:=h1
 obtain⟨q1,q2⟩:=h2
 have hv:=v.h
 have hw:=w.h
 unfold cI at *
 unfold ajh B1 Vl.In
 rw [ak (n:=1048576 - b) (by omega) (by omega),ak (n:=1048576 - b - d) (by omega) (by omega),ak (n:=1048576 - a) (by omega) (by omega),ak (n:=1048576 - a - c) (by omega) (by omega)]
 simp only
 have e1:v.d*w.d*(1048576 - b - d)=1048576*(v.d*w.d) - w.d*(v.d*b) - v.d*(w.d*d):=by grind
 have e2:v.d*w.d*(1048576 - a - c)=1048576*(v.d*w.d) - w.d*(v.d*a) - v.d*(w.d*c):=by grind
 have i1:=Int.mul_le_mul_of_nonneg_left p1 (Int.le_of_lt hw)
 have i2:=Int.mul_le_mul_of_nonneg_left p2 (Int.le_of_lt hw)
 have i3:=Int.mul_le_mul_of_nonneg_left q1 (Int.le_of_lt hv)
 have i4:=Int.mul_le_mul_of_nonneg_left q2 (Int.le_of_lt hv)
 have e3:w.d*v.n=v.n*w.d:=Int.mul_comm ..
 have e4:v.d*w.n=w.n*v.d:=Int.mul_comm ..
 have hD:=Int.mul_pos hv hw
 have lo1:v.d*w.d*(1048576 - b - d)<=1048576*(v.d*w.d) - v.n*w.d - w.n*v.d:=by omega
 have hi1:1048576*(v.d*w.d) - v.n*w.d - w.n*v.d<=v.d*w.d*(1048576 - a - c):=by omega
 generalize 1048576*(v.d*w.d) - v.n*w.d - w.n*v.d=N at *
 generalize v.d*w.d=D at *
 generalize 1048576 - b - d=x at *
 generalize 1048576 - a - c=y at *
 unfold pos
 constructor
 ·by_cases c1:x > 0
  ·have:=Int.mul_pos hD c1
   rw [if_pos c1,if_pos (by omega)];exact lo1
  ·rw [if_neg c1,Int.mul_zero];split <;> omega
 ·by_cases c1:N > 0
  ·have hy:y > 0:=by
    by_cases c2:y > 0
    ·exact c2
    ·have:=Int.mul_nonneg (Int.le_of_lt hD) (show 0<=-y by omega)
     rw [Int.mul_neg] at this
     omega
   rw [if_pos c1,if_pos hy];exact hi1
  ·rw [if_neg c1]
   split
   ·exact Int.mul_nonneg (Int.le_of_lt hD) (by omega)
   ·omega
def ST (p:Pt):Nat->Nat->Bool
 | 0,_=>false
 | m+1,n=>if (iy p n).2=0 then ST p m (n+1) else true
theorem ajC {A:Ask}{p:Pt}(h:jM A p):∀ m n:Nat,lsy A m n=ST p m n:=by
 intro m
 induction m with
 | zero=>intro n;rfl
 | succ m ih=>
  intro n
  unfold lsy ST
  obtain⟨_,_,e,_⟩:=z4 h n
  rw [e,ih]
noncomputable def vR (p:Pt):Vl:=SR ⟨(qR p false).nrm*1048576,(qR p false).d*(qR p false).d,Int.mul_pos (qR p false).h (qR p false).h⟩
noncomputable def vT (p:Pt):Vl:=if h:0 < (adZ p 0).p then
  SR ⟨pos (adZ p (p.ls.length+1)).p*(qR p true).nrm*(adZ p 0).d*1048576,(adZ p (p.ls.length+1)).d*((qR p true).d*(qR p true).d)*(adZ p 0).p,Int.mul_pos (Int.mul_pos (adZ p (p.ls.length+1)).h (Int.mul_pos (qR p true).h (qR p true).h)) h⟩
 else zV
noncomputable def vA (p:Pt):Vl:=if ST p (p.ls.length+2) 0=true then ajh (vR p) (vT p) else zV
theorem We {ul uh fl fh tl th lp ld tn td fp fd:Int}(hld:0 < ld)(htd:0 < td)(hfd:0 < fd)(hfp:0 < fp)(htn:0<=tn)
  (u1:ld*ul<=lp*1048576) (u2:lp*1048576<=ld*uh) (hul:ul<=134217728) (huh:uh<=134217728)
  (f1:fd*fl<=fp*1048576) (f2:fp*1048576<=fd*fh) (hfl:0 < fl) (hflh:fl<=fh) (hfh:fh<=134217728)
  (t0:0<=tl) (t00:0<=th) (t1:td*tl<=tn*1048576) (t2:tn*1048576<=td*th) (htl:tl<=34359738368) (hth:th<=34359738368) :
  (Vl.mk (pos lp*tn*fd*1048576) (ld*td*fp) (Int.mul_pos (Int.mul_pos hld htd) hfp)).In (dnI (w64 (pos ul*tl)) fh) (upI (w64 (pos uh*th)) fl):=by
 have pa:=oC hul
 have pb:=oC huh
 have px:=E9 lp
 have q1:=Zb hld u1
 have q2:=Vk hld u2
 generalize pos ul=a at *
 generalize pos uh=b at *
 generalize pos lp=x at *
 have mA:=iL pa.1 pa.2 t0 htl
 have mB:=iL pb.1 pb.2 t00 hth
 rw [ak (n:=a*tl) (by omega) (by omega),ak (n:=b*th) (by omega) (by omega),Fl (by omega) (by omega) (by omega),AW (by omega) (by omega) (by omega) (by omega)]
 have l1:a*tl / fh*fh<=a*tl:=Int.ediv_mul_le _ (by omega)
 have l2:0<=a*tl / fh:=Int.ediv_nonneg mA.1 (by omega)
 have h1:b*th<=(b*th+fl - 1) / fl*fl:=by
  have e:=Int.emod_add_mul_ediv (b*th+fl - 1) fl
  have e2:=Int.emod_lt_of_pos (b*th+fl - 1) hfl
  rw [Int.mul_comm fl] at e
  omega
 have h2:0<=(b*th+fl - 1) / fl:=Int.ediv_nonneg (by omega) (by omega)
 generalize a*tl / fh=y at *
 generalize (b*th+fl - 1) / fl=z at *
 unfold Vl.In
 simp only
 have hlt:=Int.mul_pos hld htd
 constructor
 ·-- y fp 2^20<=y fd fh<=fd a tl
  have i1:=Int.mul_le_mul_of_nonneg_left f2 l2
  have i2:=Int.mul_le_mul_of_nonneg_left l1 (Int.le_of_lt hfd)
  have i3:y*(fp*1048576)<=fd*(a*tl):=by
   have e1:y*(fd*fh)=fd*(y*fh):=by grind
   omega
  have i4:(ld*a)*(td*tl)<=(x*1048576)*(tn*1048576):=Int.mul_le_mul q1 t1 (Int.mul_nonneg (Int.le_of_lt htd) t0) (by omega)
  have i5:=Int.mul_le_mul_of_nonneg_left i3 (Int.le_of_lt hlt)
  have i6:=Int.mul_le_mul_of_nonneg_left i4 (Int.le_of_lt hfd)
  have e1:ld*td*(y*(fp*1048576))=(ld*td*fp*y)*1048576:=by grind
  have e2:ld*td*(fd*(a*tl))=fd*((ld*a)*(td*tl)):=by grind
  have e3:fd*((x*1048576)*(tn*1048576))=(x*tn*fd*1048576)*1048576:=by grind
  omega
 ·have i1:=Int.mul_le_mul_of_nonneg_left f1 h2
  have i2:=Int.mul_le_mul_of_nonneg_left h1 (Int.le_of_lt hfd)
  have i3:fd*(b*th)<=z*(fp*1048576):=by
   have e1:z*(fd*fl)=fd*(z*fl):=by grind
   omega
  have i4:(x*1048576)*(tn*1048576)<=(ld*b)*(td*th):=Int.mul_le_mul q2 t2 (by omega) (Int.mul_nonneg (Int.le_of_lt hld) pb.1)
  have i5:=Int.mul_le_mul_of_nonneg_left i3 (Int.le_of_lt hlt)
  have i6:=Int.mul_le_mul_of_nonneg_left i4 (Int.le_of_lt hfd)
  have e1:ld*td*(z*(fp*1048576))=(ld*td*fp*z)*1048576:=by grind
  have e2:ld*td*(fd*(b*th))=fd*((ld*b)*(td*th)):=by grind
  have e3:fd*((x*1048576)*(tn*1048576))=(x*tn*fd*1048576)*1048576:=by grind
  omega
def InQ (p:Pt)(q:Q6):Prop:=(vR p).In q.1 q.2.1/\(vT p).In q.2.2.1 q.2.2.2.1/\(vA p).In q.2.2.2.2.1 q.2.2.2.2.2
theorem ajH {A:Ask}{p:Pt}(hA:jM A p){st:Bool}{a b c d:Int}(ha:cI a)(hb:cI b)(hc:cI c)(hd:cI d)(h1:(vR p).In a b)(h2:st=false->(vT p).In c d)(h3:st=true->(vT p).In 0 0):InQ p (KL A st a b c d).1:=by
 unfold InQ KL vA LI
 have hlen:=(yW hA.ls).1
 rw [ajC hA,hlen]
 cases st with
 | true=>
  rw [if_pos rfl]
  by_cases c:ST p (p.ls.length+2) 0=true
  ·rw [if_pos c,if_pos c]
   exact⟨h1,h3 rfl,TL ha hb u0 u0 h1 (h3 rfl)⟩
  ·rw [if_neg c,if_neg c]
   exact⟨h1,h3 rfl,aql⟩
 | false=>
  rw [if_neg (by decide)]
  by_cases c:ST p (p.ls.length+2) 0=true
  ·rw [if_pos c,if_pos c]
   exact⟨h1,h2 rfl,TL ha hb hc hd h1 (h2 rfl)⟩
  ·rw [if_neg c,if_neg c]
   exact⟨h1,h2 rfl,aql⟩
theorem CX {A:Ask}{p:Pt}(hA:jM A p)(h:(dg A).2=0):InQ p (dg A).1:=by
 have hlen:=(yW hA.ls).1
 unfold dg at *
 rw [if_pos hA.ck,aK,aK,aK,eF,aK,eF,iI] at h ⊢
 have kr:=Ua (tr:=false) (e:=0) hA
 generalize xC A false 0=r at *
 have kt:=Ua (tr:=true) (e:=r.2) hA
 generalize xC A true r.2=t at *
 have kl:=B4 (n:=A.ls.length+1) (e:=t.2) (wP p (A.ls.length+1)) hA
 generalize kY A (A.ls.length+1) t.2=l at *
 have pl:=Fv l.2 l.1
 have kpl:=fun h=>(yA (e:=l.2) (a:=l.1) h)
 generalize fH l.2 l.1=ul at *
 have kf:=B4 (n:=0) (e:=ul.2) (wP p 0) hA
 generalize kY A 0 ul.2=f at *
 have pf:=Fv f.2 f.1
 have po:=aoX f.2 f.1
 have kpf:=fun h=>(yA (e:=f.2) (a:=f.1) h)
 generalize fH f.2 f.1=fr at *
 have kn:=(wP p (A.ls.length+1)).i A fr.2 hA
 generalize dv A (A.ls.length+1) fr.2=n at *
 by_cases c7:n.2.2=0
 ·rw [if_pos c7] at h ⊢
  by_cases cf:fr.1.1<=0
  ·rw [if_pos cf] at h;exact absurd h (by decide)
  ·rw [if_neg cf,fW] at h ⊢
   rw [if_pos (show (wg r.1).2.2=0 from rfl),fW,if_pos (show (wg t.1).2.2=0 from rfl)] at h ⊢
   obtain⟨x6,_,n1,n2⟩:=kn c7
   obtain⟨x5,ef⟩:=kpf x6
   obtain⟨x4,inf⟩:=kf x5
   obtain⟨x3,el⟩:=kpl x4
   obtain⟨x2,inl⟩:=kl x3
   obtain⟨x1,int⟩:=kt x2
   obtain⟨_,inr⟩:=kr x1
   have er:=Gi r.1
   have et:=Gi t.1
   have p1:=oC pl.1.2
   have p2:=oC pl.2.2
   have e0:=anY r.1
   obtain⟨⟨f1,f2⟩,_⟩:=uk inf
   obtain⟨⟨l1,l2⟩,_⟩:=uk inl
   have hfr1:fr.1.1=f.1.lo1:=by rw [ef]
   have hfr2:fr.1.2.1=f.1.hi1:=by rw [ef]
   have hul1:ul.1.1=l.1.lo1:=by rw [el]
   have hul2:ul.1.2.1=l.1.hi1:=by rw [el]
   rw [<- hfr1] at f1
   rw [<- hfr2] at f2
   rw [<- hul1] at l1
   rw [<- hul2] at l2
   have hfd:=(Au p 0 (sgZ p 0)).h
   have hfp:0 < (adZ p 0).p:=by
    have:=Int.mul_pos hfd (show 0 < fr.1.1 by omega)
    show 0 < (Au p 0 (sgZ p 0)).p
    omega
   obtain⟨r1,r2⟩:=Wl inr
   obtain⟨t1,t2⟩:=Wl int
   refine ajH hA (w7 er.1.1) (w7 er.2.1) (w7 (aid p1.1 p1.2 et.1.1 (by omega) (by omega))) (w7 (aik p2.1 p2.2 et.2.1 et.2.2 (by omega) pf.1.2)) ?_ ?_ ?_
   ·exact YB ⟨r1,r2⟩
   ·intro _
    unfold vT
    rw [dif_pos hfp]
    refine YB ?_
    rw [hlen] at l1 l2
    exact We (adZ p (p.ls.length+1)).h (Int.mul_pos (qR p true).h (qR p true).h) (adZ p 0).h hfp (qR p true).nrm_nn l1 l2 pl.1.2 pl.2.2 f1 f2 (by omega) po pf.2.2 et.1.1 et.2.1 t1 t2 (by omega) et.2.2
   ·intro hs
    have hk0:(iy p (A.ls.length+1)).2=0:=by
     by_cases c:(iy p (A.ls.length+1)).2=0
     ·exact c
     ·have:=n2 c
      rw [hs] at this
      cases this
    have hp:=(n1 hk0).1 hs
    have hz:(adZ p (p.ls.length+1)).p=0:=by rw [<- hlen];exact Xq hk0 hp
    unfold vT
    rw [dif_pos hfp]
    have hc:∀ (v:Vl),v.n=0->(SR v).In 0 0:=by
     intro v hv
     have:=v.h
     unfold SR
     rw [if_neg (by omega)]
     unfold Vl.In
     omega
    refine hc _ ?_
    show pos (adZ p (p.ls.length+1)).p*_*_*_=(0:Int)
    rw [hz,show pos 0=0 from rfl,Int.zero_mul,Int.zero_mul,Int.zero_mul]
 ·rw [if_neg c7] at h;exact absurd h c7
end Go.AM.K

namespace Go.AM.K
open Go.AM
set_option linter.unusedVariables false
set_option linter.unusedSimpArgs false
noncomputable def lF (p:Pt)(sh:Int):Vl:=if sh=2 then vA p else if sh=1 then vT p else vR p
theorem Vn {p:Pt}{q:Q6}{sh:Int}(h:InQ p q):(lF p sh).In (kO sh q).1 (kO sh q).2:=by
 obtain⟨h1,h2,h3⟩:=h
 unfold kO lF
 by_cases c2:sh=2
 ·rw [if_pos c2,if_pos c2];exact h3
 ·rw [if_neg c2,if_neg c2]
  by_cases c1:sh=1
  ·rw [if_pos c1,if_pos c1];exact h2
  ·rw [if_neg c1,if_neg c1];exact h1
theorem ahB {q:Q6}{sh:Int}(h:QA q):cI (kO sh q).1/\cI (kO sh q).2:=by
 obtain⟨h1,h2,h3,h4,h5,h6⟩:=h
 unfold kO
 split
 ·exact⟨h5,h6⟩
 ·split
  ·exact⟨h3,h4⟩
  ·exact⟨h1,h2⟩
structure akr (d:Dm)(ls:List L5)(oi ol:Int)(p:Pt):Prop where
 ix:d.ix=p.ix
 s:d.s1<=p.s/\p.s<=d.s2
 pol:d.pol=p.pol
 w:d.w1<=p.w/\p.w<=d.w2
 ls:KO ls p.ls
 oi:oi=p.oi
 ol:ol=p.ol
theorem Wu {d:Dm}{ls:List L5}{oi ol:Int}{p:Pt}(h:akr d ls oi ol p)(h0:(m7 d ls oi ol).2=0) :
  (lF p d.sh).In (m7 d ls oi ol).1.1 (m7 d ls oi ol).1.2/\cI (m7 d ls oi ol).1.1/\cI (m7 d ls oi ol).1.2:=by
 unfold m7 at *
 by_cases c:(dg (sk d ls oi ol)).2=0
 ·rw [if_pos c]
  have hck:ckA (sk d ls oi ol)=0:=by
   by_cases c2:ckA (sk d ls oi ol)=0
   ·exact c2
   ·unfold dg at c
    rw [if_neg c2] at c
    exact absurd c c2
  have hA:jM (sk d ls oi ol) p:=⟨h.ix,h.s,h.pol,h.w,h.ls,h.oi,h.ol,hck⟩
  exact⟨Vn (CX hA c),ahB (IY _)⟩
 ·rw [if_neg c] at h0;exact absurd h0 c
def okD (d:Dm):Prop:=(0<=d.lo/\d.lo<=10000)/\0<=d.hi/\d.hi<=10000
theorem afr {d:Dm}{ls:List L5}{oi ol:Int}{p:Pt}(hb:okD d)(h:akr d ls oi ol p)(h0:fv d ls oi ol=2) :
  (lF p d.sh).d*(d.lo*1048576)<=(lF p d.sh).n*10000/\(lF p d.sh).n*10000<=(lF p d.sh).d*(d.hi*1048576):=by
 unfold okD at hb
 unfold fv at h0
 have hd:=Wu h
 generalize m7 d ls oi ol=u at *
 by_cases c:u.2=0
 ·rw [if_pos c] at h0
  obtain⟨⟨v1,v2⟩,u1,u2⟩:=hd c
  unfold cI at u1 u2
  rw [ak (n:=d.lo*1048576) (by omega) (by omega),ak (n:=u.1.1*10000) (by omega) (by omega),ak (n:=u.1.2*10000) (by omega) (by omega),ak (n:=d.hi*1048576) (by omega) (by omega)] at h0
  by_cases c1:d.lo*1048576<=u.1.1*10000/\u.1.2*10000<=d.hi*1048576
  ·have hv:=(lF p d.sh).h
   generalize lF p d.sh=v at *
   have a1:=Int.mul_le_mul_of_nonneg_left c1.1 (Int.le_of_lt hv)
   have a2:=Int.mul_le_mul_of_nonneg_left c1.2 (Int.le_of_lt hv)
   have e1:v.d*(u.1.1*10000)=v.d*u.1.1*10000:=by grind
   have e2:v.d*(u.1.2*10000)=v.d*u.1.2*10000:=by grind
   omega
  ·rw [if_neg c1] at h0
   split at h0
   ·exact absurd h0 (by decide)
   ·split at h0
    ·exact absurd h0 (by decide)
    ·exact absurd h0 (by decide)
 ·rw [if_neg c] at h0;exact absurd h0 (by decide)
theorem al8 {d:Dm}{ls:List L5}{oi ol:Int}{p:Pt}(hb:okD d)(h:akr d ls oi ol p)(h0:fv d ls oi ol=0) :
  (lF p d.sh).n*10000 < (lF p d.sh).d*(d.lo*1048576)\/(lF p d.sh).d*(d.hi*1048576) < (lF p d.sh).n*10000:=by
 unfold okD at hb
 unfold fv at h0
 have hd:=Wu h
 generalize m7 d ls oi ol=u at *
 by_cases c:u.2=0
 ·rw [if_pos c] at h0
  obtain⟨⟨v1,v2⟩,u1,u2⟩:=hd c
  unfold cI at u1 u2
  rw [ak (n:=d.lo*1048576) (by omega) (by omega),ak (n:=u.1.1*10000) (by omega) (by omega),ak (n:=u.1.2*10000) (by omega) (by omega),ak (n:=d.hi*1048576) (by omega) (by omega)] at h0
  have hv:=(lF p d.sh).h
  generalize lF p d.sh=v at *
  by_cases c1:d.lo*1048576<=u.1.1*10000/\u.1.2*10000<=d.hi*1048576
  ·rw [if_pos c1] at h0;exact absurd h0 (by decide)
  ·rw [if_neg c1] at h0
   by_cases c2:u.1.2*10000 < d.lo*1048576
   ·left
    have a1:=Int.mul_lt_mul_of_pos_left c2 hv
    have e1:v.d*(u.1.2*10000)=v.d*u.1.2*10000:=by grind
    omega
   ·rw [if_neg c2] at h0
    by_cases c3:d.hi*1048576 < u.1.1*10000
    ·right
     have a1:=Int.mul_lt_mul_of_pos_left c3 hv
     have e1:v.d*(u.1.1*10000)=v.d*u.1.1*10000:=by grind
     omega
    ·rw [if_neg c3] at h0;exact absurd h0 (by decide)
 ·rw [if_neg c] at h0;exact absurd h0 (by decide)
structure Pc where
 w1:Int
 w2:Int
 s1:Int
 s2:Int
def Pc.dm (x:Pc)(d:Dm):Dm:={ d with w1:=x.w1,w2:=x.w2,s1:=x.s1,s2:=x.s2 }
def gR (a b:Int):Int:=(a+b) / 2
def Pc.mid (x:Pc):Pc:=⟨gR x.w1 x.w2,gR x.w1 x.w2,gR x.s1 x.s2,gR x.s1 x.s2⟩
def hvP (a b:Int):Prop:=2<=b - a
instance {a b:Int}:Decidable (hvP a b):=by unfold hvP;exact inferInstance
def chE (x:Pc):Int:=if hvP x.w1 x.w2/\(¬ hvP x.s1 x.s2\/x.s2 - x.s1<=x.w2 - x.w1) then 1 else if hvP x.s1 x.s2 then 2 else 0
def Pc.cut (x:Pc)(c:Int):Pc × Pc:=if c=1 then ({ x with w2:=gR x.w1 x.w2 },{ x with w1:=gR x.w1 x.w2 }) else ({ x with s2:=gR x.s1 x.s2 },{ x with s1:=gR x.s1 x.s2 })
def vis (d:Dm)(ls:List L5)(oi ol:Int):Nat->Pc->Option (Int × Int) × Bool
 | 0,x=>if fv (x.dm d) ls oi ol=2 then (none,false) else if fv (x.mid.dm d) ls oi ol=0 then (some (gR x.w1 x.w2,gR x.s1 x.s2),false) else (none,true)
 | n+1,x=>if fv (x.dm d) ls oi ol=2 then (none,false) else if fv (x.mid.dm d) ls oi ol=0 then (some (gR x.w1 x.w2,gR x.s1 x.s2),false) else
  if chE x=0 then (none,true) else
   if (vis d ls oi ol n (x.cut (chE x)).1).1=none then ((vis d ls oi ol n (x.cut (chE x)).2).1,(vis d ls oi ol n (x.cut (chE x)).1).2 || (vis d ls oi ol n (x.cut (chE x)).2).2)
   else vis d ls oi ol n (x.cut (chE x)).1
def Pc.ok (x:Pc):Prop:=x.w1<=x.w2/\x.s1<=x.s2
def Pc.has (x:Pc)(w s:Int):Prop:=(x.w1<=w/\w<=x.w2)/\x.s1<=s/\s<=x.s2
theorem Gy {a b:Int}(h:a<=b):a<=gR a b/\gR a b<=b:=by unfold gR;omega
theorem ae9 {x:Pc}{c w s:Int}(h:x.has w s):(x.cut c).1.has w s\/(x.cut c).2.has w s:=by
 unfold Pc.has at *
 unfold Pc.cut
 by_cases hc:c=1
 ·rw [if_pos hc]
  by_cases hw:w<=gR x.w1 x.w2
  ·left;simp only;omega
  ·right;simp only;omega
 ·rw [if_neg hc]
  by_cases hw:s<=gR x.s1 x.s2
  ·left;simp only;omega
  ·right;simp only;omega
theorem alA {x:Pc}{c:Int}(h:x.ok):(x.cut c).1.ok/\(x.cut c).2.ok/\∀ w s,(x.cut c).1.has w s\/(x.cut c).2.has w s->x.has w s:=by
 unfold Pc.ok Pc.has at *
 have m1:=Gy h.1
 have m2:=Gy h.2
 unfold Pc.cut
 by_cases hc:c=1
 ·rw [if_pos hc]
  simp only
  refine⟨by omega,by omega,fun w s h=>by omega⟩
 ·rw [if_neg hc]
  simp only
  refine⟨by omega,by omega,fun w s h=>by omega⟩
theorem ad9 {d:Dm}{ls:List L5}{oi ol:Int}:∀ (n:Nat) (x:Pc),vis d ls oi ol n x=(none,false)->∀ w s,x.has w s->∃ y:Pc,y.has w s/\fv (y.dm d) ls oi ol=2:=by
 intro n
 induction n with
 | zero=>
  intro x h w s hx
  unfold vis at h
  by_cases c:fv (x.dm d) ls oi ol=2
  ·exact⟨x,hx,c⟩
  ·rw [if_neg c] at h
   split at h
   ·exact absurd h (by simp)
   ·exact absurd h (by simp)
 | succ n ih=>
  intro x h w s hx
  unfold vis at h
  by_cases c:fv (x.dm d) ls oi ol=2
  ·exact⟨x,hx,c⟩
  ·rw [if_neg c] at h
   by_cases c2:fv (x.mid.dm d) ls oi ol=0
   ·rw [if_pos c2] at h;exact absurd h (by simp)
   ·rw [if_neg c2] at h
    by_cases c3:chE x=0
    ·rw [if_pos c3] at h;exact absurd h (by simp)
    ·rw [if_neg c3] at h
     by_cases c4:(vis d ls oi ol n (x.cut (chE x)).1).1=none
     ·rw [if_pos c4] at h
      obtain⟨h1,h2⟩:=Prod.mk.inj h
      obtain⟨h3,h4⟩:=Bool.or_eq_false_iff.1 h2
      rcases ae9 (c:=chE x) hx with hh | hh
      ·exact ih _ (Prod.ext c4 h3) w s hh
      ·exact ih _ (Prod.ext h1 h4) w s hh
     ·rw [if_neg c4] at h
      rw [h] at c4
      exact absurd rfl c4
theorem amc {d:Dm}{ls:List L5}{oi ol:Int}:∀ (n:Nat) (x:Pc) (w s:Int),x.ok->(vis d ls oi ol n x).1=some (w,s)->x.has w s/\fv ((Pc.mk w w s s).dm d) ls oi ol=0:=by
 intro n
 have key:∀ (x:Pc) (w s:Int),x.ok->fv (x.mid.dm d) ls oi ol=0->some (gR x.w1 x.w2,gR x.s1 x.s2)=some (w,s)->x.has w s/\fv ((Pc.mk w w s s).dm d) ls oi ol=0:=by
  intro x w s hx h1 h2
  obtain⟨rfl,rfl⟩:=Prod.mk.inj (Option.some.inj h2)
  have m1:=Gy hx.1
  have m2:=Gy hx.2
  exact⟨⟨m1,m2⟩,h1⟩
 induction n with
 | zero=>
  intro x w s hx h
  unfold vis at h
  by_cases c:fv (x.dm d) ls oi ol=2
  ·rw [if_pos c] at h;exact absurd h (by simp)
  ·rw [if_neg c] at h
   by_cases c2:fv (x.mid.dm d) ls oi ol=0
   ·rw [if_pos c2] at h;exact key x w s hx c2 h
   ·rw [if_neg c2] at h;exact absurd h (by simp)
 | succ n ih=>
  intro x w s hx h
  unfold vis at h
  by_cases c:fv (x.dm d) ls oi ol=2
  ·rw [if_pos c] at h;exact absurd h (by simp)
  ·rw [if_neg c] at h
   by_cases c2:fv (x.mid.dm d) ls oi ol=0
   ·rw [if_pos c2] at h;exact key x w s hx c2 h
   ·rw [if_neg c2] at h
    by_cases c3:chE x=0
    ·rw [if_pos c3] at h;exact absurd h (by simp)
    ·rw [if_neg c3] at h
     obtain⟨k1,k2,k3⟩:=alA (c:=chE x) hx
     by_cases c4:(vis d ls oi ol n (x.cut (chE x)).1).1=none
     ·rw [if_pos c4] at h
      obtain⟨a,b⟩:=ih _ w s k2 h
      exact⟨k3 _ _ (Or.inr a),b⟩
     ·rw [if_neg c4] at h
      obtain⟨a,b⟩:=ih _ w s k1 h
      exact⟨k3 _ _ (Or.inl a),b⟩
end Go.AM.K
