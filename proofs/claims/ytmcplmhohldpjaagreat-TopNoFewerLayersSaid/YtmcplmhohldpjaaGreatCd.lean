/- Texts of one kind, put together. -/
import Derived.Test.YtmcplmhohldpjaaGreatCc
import Derived.Test.YtmcplmhohldpjaaGreatYWj
import Derived.Test.YtmcplmhohldpjaaGreatYWl
namespace Go.AM.K
open Go.AM
set_option linter.unusedVariables false
set_option linter.unusedSimpArgs false
def BD:Nat->Int
 | 0=>fHi 0
 | n+1=>if fHi ((n+1:Nat):Int) < BD n then fHi ((n+1:Nat):Int) else BD n
theorem afD:∀ (n k:Nat),k<=n->BD n<=fHi (k:Int):=by
 intro n
 induction n with
 | zero=>
  intro k h
  have e:k=0:=by omega
  subst e
  exact Int.le_refl _
 | succ n ih=>
  intro k h
  unfold BD
  by_cases c:k<=n
  ·have:=ih k c
   split <;> omega
  ·have e:k=n+1:=by omega
   subst e
   split <;> omega
theorem acS {hi:Int}:∀ n:Nat,(n:Int)<=hi->fLo hi<=BD n/\0<=fLo hi:=by
 intro n
 induction n with
 | zero=>
  intro h
  obtain⟨a,b,c⟩:=Dg (lo:=0) (hi:=hi) (Int.le_refl _) h
  exact⟨b,a⟩
 | succ n ih=>
  intro h
  obtain⟨a,b,c⟩:=Dg (lo:=((n+1:Nat):Int)) (hi:=hi) (by omega) h
  have:=ih (by omega)
  unfold BD
  split <;> omega
theorem adJ {lo hi m:Int}(h0:0<=lo)(h1:lo<=m)(h2:m<=hi)(he:(lU lo hi).2.2=0):(lU lo hi).1<=BD m.toNat/\BD m.toNat<=(lU lo hi).2.1:=by
 unfold lU at *
 by_cases c:ckE lo hi 0=0
 ·rw [if_pos c] at he ⊢
  have a:=(acS (hi:=hi) m.toNat (by omega)).1
  have b:=afD m.toNat lo.toNat (by omega)
  rw [Int.toNat_of_nonneg h0] at b
  exact⟨a,b⟩
 ·rw [if_neg c] at he;exact absurd he c
def HO (x D d w t:Int):Int:=t*(4*pos x*d*1048576) / (D*w)
structure z4 (lo hi x D d w:Int):Prop where
 lo0:0<=lo
 hi0:hi<=4503599627370496
 b:∀ t,t=1\/t=2->t*lo<=HO x D d w t/\HO x D d w t<=t*hi
theorem DZ (x:Int):0<=pos x:=by unfold pos;split <;> omega
theorem aaa {a x D:Int}(hD:0 < D)(h:D*a<=x*1048576):D*pos a<=pos x*1048576:=by
 have hx:=DZ x
 by_cases c:a > 0
 ·have:=Int.mul_pos hD c
  unfold pos
  rw [if_pos c,if_pos (by omega)];exact h
 ·rw [show pos a=0 from if_neg c,Int.mul_zero];omega
theorem SV {b x D:Int}(hD:0 < D)(h:x*1048576<=D*b):pos x*1048576<=D*pos b:=by
 by_cases c:x > 0
 ·have hb:b > 0:=by
   by_cases c2:b > 0
   ·exact c2
   ·have:=Int.mul_nonneg (Int.le_of_lt hD) (show 0<=-b by omega)
    rw [Int.mul_neg] at this
    omega
  unfold pos
  rw [if_pos c,if_pos hb];exact h
 ·rw [show pos x=0 from if_neg c,Int.zero_mul]
  exact Int.mul_nonneg (Int.le_of_lt hD) (DZ b)
theorem KY {a b x D d1 d2 d w1 w2 w:Int}(hD:0 < D)(ha:a<=134217728)(hb:b<=134217728)(h1:D*a<=x*1048576)(h2:x*1048576<=D*b)
  (hd0:0<=d1) (hd1:d1<=d) (hd2:d<=d2) (hd3:d2<=1000000) (hw0:1000<=w1) (hw1:w1<=w) (hw2:w<=w2) (hw3:w2<=200000) :
  z4 (dnI (w64 ((w64 (4*pos a))*d1)) w2) (upI (w64 ((w64 (4*pos b))*d2)) w1) x D d w:=by
 have pa:=mE ha
 have pb:=mE hb
 have px:=DZ x
 have q1:=aaa hD h1
 have q2:=SV hD h2
 generalize pos a=a' at *
 generalize pos b=b' at *
 have mA:=jq (x:=4*a') (y:=d1) (A:=536870912) (B:=1000000) (by omega) (by omega) (by omega) (by omega)
 have mB:=jq (x:=4*b') (y:=d2) (A:=536870912) (B:=1000000) (by omega) (by omega) (by omega) (by omega)
 rw [ak (n:=4*a') (by omega) (by omega),ak (n:=4*b') (by omega) (by omega),ak (n:=4*a'*d1) (by omega) (by omega),ak (n:=4*b'*d2) (by omega) (by omega),
  FV (by omega) (by omega) (by omega),EM (by omega) (by omega) (by omega) (by omega)]
 have hDw:0 < D*w:=Int.mul_pos hD (by omega)
 -- what the numbers are below and above
 have lo1:4*a'*d1 / w2*w2<=4*a'*d1:=Int.ediv_mul_le _ (by omega)
 have lo2:0<=4*a'*d1 / w2:=Int.ediv_nonneg mA.1 (by omega)
 have hi1:4*b'*d2<=(4*b'*d2+w1 - 1) / w1*w1:=by
  have e:=Int.emod_add_mul_ediv (4*b'*d2+w1 - 1) w1
  have e2:=Int.emod_lt_of_pos (4*b'*d2+w1 - 1) (show 0 < w1 by omega)
  rw [Int.mul_comm w1] at e
  omega
 have hi2:0<=(4*b'*d2+w1 - 1) / w1:=Int.ediv_nonneg (by omega) (by omega)
 have hi3:(4*b'*d2+w1 - 1) / w1<=4503599627370496:=Int.le_trans (Int.ediv_le_self _ (by omega)) (by omega)
 refine⟨lo2,hi3,fun t ht=>?_⟩
 unfold HO
 have ht0:0<=t:=by omega
 constructor
 ·rw [Int.le_ediv_iff_mul_le hDw]
  generalize 4*a'*d1 / w2=z at *
  have i1:z*w<=z*w2:=Int.mul_le_mul_of_nonneg_left hw2 lo2
  have i2:D*(z*w)<=D*(4*a'*d1):=Int.mul_le_mul_of_nonneg_left (by omega) (Int.le_of_lt hD)
  have i3:(D*a')*(4*d1)<=(pos x*1048576)*(4*d1):=Int.mul_le_mul_of_nonneg_right q1 (by omega)
  have i4:(pos x*1048576*4)*d1<=(pos x*1048576*4)*d:=Int.mul_le_mul_of_nonneg_left hd1 (by omega)
  have i5:D*(z*w)<=4*pos x*d*1048576:=by
   have e1:D*(4*a'*d1)=(D*a')*(4*d1):=by grind
   have e2:(pos x*1048576)*(4*d1)=(pos x*1048576*4)*d1:=by grind
   have e3:(pos x*1048576*4)*d=4*pos x*d*1048576:=by grind
   omega
  have i6:=Int.mul_le_mul_of_nonneg_left i5 ht0
  have e4:t*z*(D*w)=t*(D*(z*w)):=by grind
  omega
 ·generalize (4*b'*d2+w1 - 1) / w1=z at *
  have i1:z*w1<=z*w:=Int.mul_le_mul_of_nonneg_left hw1 hi2
  have i2:D*(4*b'*d2)<=D*(z*w):=Int.mul_le_mul_of_nonneg_left (by omega) (Int.le_of_lt hD)
  have i3:(pos x*1048576)*(4*d2)<=(D*b')*(4*d2):=Int.mul_le_mul_of_nonneg_right q2 (by omega)
  have i4:(pos x*1048576*4)*d<=(pos x*1048576*4)*d2:=Int.mul_le_mul_of_nonneg_left hd2 (by omega)
  have i5:4*pos x*d*1048576<=D*(z*w):=by
   have e1:D*(4*b'*d2)=(D*b')*(4*d2):=by grind
   have e2:(pos x*1048576)*(4*d2)=(pos x*1048576*4)*d2:=by grind
   have e3:(pos x*1048576*4)*d=4*pos x*d*1048576:=by grind
   omega
  have i6:=Int.mul_le_mul_of_nonneg_left i5 ht0
  have e4:t*(D*(z*w))=t*z*(D*w):=by grind
  rw [e4] at i6
  have i7:=Int.ediv_le_ediv hDw i6
  rw [Int.mul_ediv_cancel _ (by omega)] at i7
  exact i7
theorem af8 {A:Ask}{p:Pt}{σ:Zq}{i:Nat}{l:L5}{x:Int × Int × Int}(h:jT A p)(hl:A.ls[i]?=some l)(hx:p.ls[i]?=some x)(hσ:H7 p (i+1) σ){e:Int}(h0:(m8 A l (i+1) e).2=0) :
  e=0/\z4 (m8 A l (i+1) e).1.1 (m8 A l (i+1) e).1.2.1 σ.p σ.d x.2.1 p.w/\z4 (m8 A l (i+1) e).1.2.2.1 (m8 A l (i+1) e).1.2.2.2 σ.q σ.d x.2.1 p.w:=by
 obtain⟨c1,c2,c3,c4,c5,c6,c7,c8⟩:=yB h.ck
 obtain⟨w1,w2,w3⟩:=Vu c4
 obtain⟨wa,wb⟩:=h.w
 have hb:=WO c6 hl
 have hxx:=(Ak h.ls).2 hl hx
 have em:=uW hl
 have ez:=C7 hx
 unfold LBd at hb
 unfold Mz at hxx
 unfold m8 at *
 rw [iF,eB] at h0 ⊢
 have hn:=hσ.i A e h
 generalize dq A (i+1) e=u at *
 have hd:=σ.h
 have fin:∀ a b c d:Int,a<=134217728->b<=134217728->c<=134217728->d<=134217728->σ.d*a<=σ.p*1048576->σ.p*1048576<=σ.d*b->σ.d*c<=σ.q*1048576->σ.q*1048576<=σ.d*d ->
   z4 (FO A l a b c d 0).1.1 (FO A l a b c d 0).1.2.1 σ.p σ.d x.2.1 p.w/\z4 (FO A l a b c d 0).1.2.2.1 (FO A l a b c d 0).1.2.2.2 σ.q σ.d x.2.1 p.w:=by
  intro a b c d k1 k2 k3 k4 k5 k6 k7 k8
  exact⟨KY hd k1 k2 k5 k6 (by omega) (by omega) (by omega) (by omega) (by omega) (by omega) (by omega) (by omega),
   KY hd k3 k4 k7 k8 (by omega) (by omega) (by omega) (by omega) (by omega) (by omega) (by omega) (by omega)⟩
 have hp2:(fJ u.2.2 u.1).2=0:=by
  revert h0
  split
  ·split <;> exact fun h=>h
  ·exact fun h=>h
 obtain⟨e1,e2⟩:=xa hp2
 obtain⟨e0,hi,hk,hk2⟩:=hn e1
 have g:=u.1.bd
 have hb1:u.1.lo1<=134217728/\u.1.hi1<=134217728/\u.1.lo2<=134217728/\u.1.hi2<=134217728:=by
  unfold Bl.lo1 Bl.hi1 Bl.lo2 Bl.hi2
  omega
 obtain⟨⟨p1,p2⟩,p3,p4⟩:=ri hi
 rw [e2] at h0 ⊢
 simp only at h0 ⊢
 refine⟨e0,?_⟩
 by_cases cl:l.2.2.2.2=0
 ·rw [if_pos cl]
  have hz:(gZ p (i+1)).2=0:=by rw [ez];simp only;omega
  obtain⟨t1,t2⟩:=hk hz
  by_cases cs:u.2.1=true
  ·rw [if_pos cs]
   have:=t1 cs
   exact fin 0 0 _ _ (by decide) (by decide) hb1.2.2.1 hb1.2.2.2 (by omega) (by omega) p3 p4
  ·rw [if_neg cs]
   have:=t2 (by simpa using cs)
   exact fin _ _ 0 0 hb1.1 hb1.2.1 (by decide) (by decide) p1 p2 (by omega) (by omega)
 ·rw [if_neg cl]
  exact fin _ _ _ _ hb1.1 hb1.2.1 hb1.2.2.1 hb1.2.2.2 p1 p2 p3 p4
def Kd (p:Pt)(σ:Zq)(x:Int × Int × Int)(t:Int):Zq:=(iH (HO σ.p σ.d x.2.1 p.w t)).mul (Zq.real (BD (HO σ.q σ.d x.2.1 p.w t).toNat) 1048576 (by decide))
theorem ajF (m:Int):Zq.In Blc (iH m):=by
 have h:=YE m
 have hd:=(iH m).h
 show nle ((iH m).d*0 - (iH m).p*1048576) ((iH m).d*0 - (iH m).q*1048576) ((iH m).d*1048576)
 generalize iH m=z at *
 refine⟨by omega,?_⟩
 have e1:(z.d*0 - z.p*1048576)*(z.d*0 - z.p*1048576)+(z.d*0 - z.q*1048576)*(z.d*0 - z.q*1048576)=1099511627776*(z.p*z.p+z.q*z.q):=by grind
 have e2:z.d*1048576*(z.d*1048576)=1099511627776*(z.d*z.d):=by grind
 omega
theorem Up {A:Ask}{p:Pt}{σ:Zq}{i:Nat}{l:L5}{x:Int × Int × Int}(h:jT A p)(hl:A.ls[i]?=some l)(hx:p.ls[i]?=some x)(hσ:H7 p (i+1) σ){t e:Int}(ht:t=1\/t=2)(h0:(fS A l (i+1) t e).2=0) :
  e=0/\Zq.In (fS A l (i+1) t e).1 (Kd p σ x t):=by
 have hT:=af8 (e:=e) h hl hx hσ
 unfold fS Kd at *
 rw [eB] at h0 ⊢
 generalize m8 A l (i+1) e=T at *
 by_cases c:T.2=0
 ·rw [if_pos c] at h0 ⊢
  obtain⟨e0,k1,k2⟩:=hT c
  obtain⟨a1,a2⟩:=k1.b t ht
  obtain⟨b1,b2⟩:=k2.b t ht
  have a0:=k1.lo0;have b0:=k2.lo0;have a3:=k1.hi0;have b3:=k2.hi0
  have hti:0<=t:=by omega
  have l1:=Int.mul_nonneg hti a0
  have l2:=Int.mul_nonneg hti b0
  have u1:t*T.1.2.1<=9007199254740992:=by rcases ht with rfl | rfl <;> omega
  have u2:t*T.1.2.2.2<=9007199254740992:=by rcases ht with rfl | rfl <;> omega
  refine⟨e0,?_⟩
  rw [ak (n:=t*T.1.1) (by omega) (by omega),ak (n:=t*T.1.2.1) (by omega) (by omega),ak (n:=t*T.1.2.2.1) (by omega) (by omega),ak (n:=t*T.1.2.2.2) (by omega) (by omega),ak (n:=t*T.1.2.1 - t*T.1.1) (by omega) (by omega)] at h0 ⊢
  have hf:=adJ (lo:=t*T.1.2.2.1) (hi:=t*T.1.2.2.2) l2 b1 b2
  generalize lU (t*T.1.2.2.1) (t*T.1.2.2.2)=F at *
  have fin:∀ z:Bl,Zq.In z (iH (HO σ.p σ.d x.2.1 p.w t))->F.2.2=0->(two be (jg F.2.2 F.1 F.2.1).2 z (jg F.2.2 F.1 F.2.1).1).2=0 ->
    Zq.In (two be (jg F.2.2 F.1 F.2.1).2 z (jg F.2.2 F.1 F.2.1).1).1 ((iH (HO σ.p σ.d x.2.1 p.w t)).mul (Zq.real (BD (HO σ.q σ.d x.2.1 p.w t).toNat) 1048576 (by decide))):=by
   intro z hz hF hv
   obtain⟨f1,f2⟩:=hf hF
   obtain⟨v1,v2,v3⟩:=A1 hv
   rw [v2]
   obtain⟨r1,r2,r3⟩:=zi v1
   rw [r2] at v3 ⊢
   exact kV hz (rK (by decide) (by omega) (by omega) r3) v3
  by_cases c2:t*T.1.2.1 - t*T.1.1 < 1048576
  ·rw [if_pos c2,aL] at h0 ⊢
   by_cases c3:(Gb (t*T.1.1) (t*T.1.2.1)).2=0
   ·rw [if_pos c3,fN] at h0 ⊢
    by_cases c4:F.2.2=0
    ·rw [if_pos c4,aL,aL] at h0 ⊢
     simp only at h0 ⊢
     exact fin _ (alv a1 a2 c2 c3) c4 h0
    ·rw [if_neg c4] at h0;exact absurd h0 c4
   ·rw [if_neg c3] at h0;exact absurd h0 c3
  ·rw [if_neg c2,if_pos c,fN] at h0 ⊢
   by_cases c4:F.2.2=0
   ·rw [if_pos c4,aL,aL] at h0 ⊢
    simp only at h0 ⊢
    exact fin _ (ajF _) c4 h0
   ·rw [if_neg c4] at h0;exact absurd h0 c4
 ·rw [if_neg c] at h0;exact absurd h0 c
structure MZ where
 a:Zq
 b:Zq
 c:Zq
 d:Zq
structure MZ.In (m:Mt)(z:MZ):Prop where
 a:Zq.In m.1 z.a
 b:Zq.In m.2.1 z.b
 c:Zq.In m.2.2.1 z.c
 d:Zq.In m.2.2.2 z.d
theorem ta {a b:Bl}{z w:Zq}{v:Bl × Int}(hv:dY a b=v)(h:v.2=0)(ha:Zq.In a z)(hb:Zq.In b w):Zq.In v.1 (z.add w):=by subst hv;exact PC ha hb h
theorem aa8 {a b:Bl}{z w:Zq}{v:Bl × Int}(hv:gG a b=v)(h:v.2=0)(ha:Zq.In a z)(hb:Zq.In b w):Zq.In v.1 (z.sub w):=by subst hv;exact HF ha hb h
theorem fW {a b:Bl}{z w:Zq}{v:Bl × Int}(hv:be a b=v)(h:v.2=0)(ha:Zq.In a z)(hb:Zq.In b w):Zq.In v.1 (z.mul w):=by subst hv;exact kV ha hb h
theorem aiO {a b:Bl}{z w:Zq}{v:Bl × Int}(hv:mG a b=v)(h:v.2=0)(ha:Zq.In a z)(hb:Zq.In b w):Zq.In v.1 (z.quo w):=by subst hv;exact Xv ha hb h
def H6:Zq:=Zq.real 1 1 (by decide)
def ah9:Zq:=Zq.real 0 1 (by decide)
def Hf:Zq:=Zq.real 1 2 (by decide)
theorem zC:Zq.In Bl1 H6:=Jl agH
theorem WT:Zq.In Bl0 ah9:=Jl Zs
def ae7 (y g:Zq):MZ:=⟨(H6.add g).mul Hf,((H6.sub g).mul Hf).quo y,((H6.sub g).mul Hf).mul y,(H6.add g).mul Hf⟩
theorem ai8 {e:Int}{y g:Bl}{zy zg:Zq}(hy:e=0->Zq.In y zy)(hg:e=0->Zq.In g zg)(h:(iD e y g).2=0):e=0/\MZ.In (iD e y g).1 (ae7 zy zg):=by
 unfold iD at *
 rw [aL,aL,aL,aL,aL,aL,aL] at h ⊢
 simp only at h ⊢
 generalize hh:wc e 1 2=h1 at *
 generalize ha:two dY h1.2 Bl1 g=a at *
 generalize hu:two be a.2 a.1 h1.1=u at *
 generalize hb:two gG u.2 Bl1 g=b at *
 generalize hc:two be b.2 b.1 h1.1=c at *
 generalize hv:two mG c.2 c.1 y=v at *
 generalize hw:two be v.2 c.1 y=w at *
 obtain⟨ev,w1⟩:=cP hw h
 obtain⟨ec,v1⟩:=cP hv ev
 obtain⟨eb,c1⟩:=cP hc ec
 obtain⟨eu,b1⟩:=cP hb eb
 obtain⟨ea,u1⟩:=cP hu eu
 obtain⟨eh,a1⟩:=cP ha ea
 have k0:e=0/\Zq.In h1.1 Hf:=by
  subst hh
  obtain⟨e0,h2,h3⟩:=Hz eh
  rw [h2]
  exact⟨e0,O3 h3 (by decide)⟩
 have hy:=hy k0.1
 have hg:=hg k0.1
 have ka:=ta a1 ea zC hg
 have ku:=fW u1 eu ka k0.2
 have kb:=aa8 b1 eb zC hg
 have kc:=fW c1 ec kb k0.2
 exact⟨k0.1,ku,aiO v1 ev kc hy,fW w1 h kc hy,ku⟩
def abJ (p m:MZ):MZ:=⟨(p.a.mul m.a).add (p.b.mul m.c),(p.a.mul m.b).add (p.b.mul m.d),(p.c.mul m.a).add (p.d.mul m.c),(p.c.mul m.b).add (p.d.mul m.d)⟩
theorem alm {e:Int}{p m:Mt}{zp zm:MZ}(hp:e=0->MZ.In p zp)(hm:e=0->MZ.In m zm)(h:(pE e p m).2=0):e=0/\MZ.In (pE e p m).1 (abJ zp zm):=by
 unfold pE at *
 rw [aL,aL,aL,aL,aL,aL,aL,aL,aL,aL,aL,aL] at h ⊢
 simp only at h ⊢
 generalize ha1:two be e p.1 m.1=a1 at *
 generalize ha2:two be a1.2 p.2.1 m.2.2.1=a2 at *
 generalize ha:two dY a2.2 a1.1 a2.1=a at *
 generalize hb1:two be a.2 p.1 m.2.1=b1 at *
 generalize hb2:two be b1.2 p.2.1 m.2.2.2=b2 at *
 generalize hb:two dY b2.2 b1.1 b2.1=b at *
 generalize hc1:two be b.2 p.2.2.1 m.1=c1 at *
 generalize hc2:two be c1.2 p.2.2.2 m.2.2.1=c2 at *
 generalize hc:two dY c2.2 c1.1 c2.1=c at *
 generalize hd1:two be c.2 p.2.2.1 m.2.1=d1 at *
 generalize hd2:two be d1.2 p.2.2.2 m.2.2.2=d2 at *
 generalize hd:two dY d2.2 d1.1 d2.1=d at *
 obtain⟨x1,y1⟩:=cP hd h
 obtain⟨x2,y2⟩:=cP hd2 x1
 obtain⟨x3,y3⟩:=cP hd1 x2
 obtain⟨x4,y4⟩:=cP hc x3
 obtain⟨x5,y5⟩:=cP hc2 x4
 obtain⟨x6,y6⟩:=cP hc1 x5
 obtain⟨x7,y7⟩:=cP hb x6
 obtain⟨x8,y8⟩:=cP hb2 x7
 obtain⟨x9,y9⟩:=cP hb1 x8
 obtain⟨x10,y10⟩:=cP ha x9
 obtain⟨x11,y11⟩:=cP ha2 x10
 obtain⟨x12,y12⟩:=cP ha1 x11
 have hp:=hp x12
 have hm:=hm x12
 exact⟨x12,ta y10 x9 (fW y12 x11 hp.a hm.a) (fW y11 x10 hp.b hm.c),ta y7 x6 (fW y9 x8 hp.a hm.b) (fW y8 x7 hp.b hm.d),
  ta y4 x3 (fW y6 x5 hp.c hm.a) (fW y5 x4 hp.d hm.c),ta y1 h (fW y3 x2 hp.c hm.b) (fW y2 x1 hp.d hm.d)⟩
end Go.AM.K

namespace Go.AM.K
open Go.AM
set_option linter.unusedVariables false
set_option linter.unusedSimpArgs false
noncomputable def sgZ (p:Pt)(n:Nat):Zq:=(Ct p n).choose
theorem vG (p:Pt)(n:Nat):H7 p n (sgZ p n):=(Ct p n).choose_spec
noncomputable def Ge (p:Pt)(fs:Bool):List (Int × Int × Int)->Nat->MZ->Zq->MZ × Zq
 | [],_,m,a=>(m,a)
 | x::xs,n,m,a=>Ge p fs xs (n+1) (abJ m (ae7 (Ah p n (sgZ p n)) (Kd p (sgZ p n) x 2))) (if fs=true then a.mul (Kd p (sgZ p n) x 1) else a)
theorem N3 {A:Ask}{fs:Bool}{rest:List L5}{n:Nat}{p:Mt}{a:Bl}{e:Int}(h:(qV A fs rest n p a e).2=0):e=0:=by
 cases rest with
 | nil=>exact h
 | cons l ls=>
  rw [vf] at h
  by_cases c:e=0
  ·exact c
  ·rw [if_neg c] at h;exact h
theorem fX {β:Type}{L:List β}{i:Nat}{x:β}{r:List β}(h:L.drop i=x::r):L[i]?=some x/\L.drop (i+1)=r:=by
 have h1:=congrArg List.head? h
 rw [List.head?_drop] at h1
 have h2:=congrArg List.tail h
 rw [List.tail_drop] at h2
 exact⟨h1,h2⟩
theorem al1 {A:Ask}{p:Pt}{fs:Bool}(h:jT A p):∀ (rest:List L5) (xs:List (Int × Int × Int)) (i:Nat) (m:Mt) (a:Bl) (e:Int) (zm:MZ) (za:Zq),A.ls.drop i=rest->p.ls.drop i=xs ->
  MZ.In m zm->Zq.In a za->(qV A fs rest (i+1) m a e).2=0->e=0/\MZ.In (qV A fs rest (i+1) m a e).1.1 (Ge p fs xs (i+1) zm za).1/\Zq.In (qV A fs rest (i+1) m a e).1.2 (Ge p fs xs (i+1) zm za).2:=by
 intro rest
 induction rest with
 | nil=>
  intro xs i m a e zm za h1 h2 hm ha h0
  have hl:A.ls.length<=i:=List.drop_eq_nil_iff.1 h1
  have hx:xs=[]:=by rw [<- h2];exact List.drop_eq_nil_of_le (by have:=(Ak h.ls).1;omega)
  subst hx
  exact⟨h0,hm,ha⟩
 | cons l rs ih=>
  intro xs i m a e zm za h1 h2 hm ha h0
  obtain⟨hl,h1'⟩:=fX h1
  have hlt:i < A.ls.length:=(List.getElem?_eq_some_iff.1 hl).1
  have hlen:=(Ak h.ls).1
  cases xs with
  | nil=>have:=List.drop_eq_nil_iff.1 h2;omega
  | cons x xs=>
   obtain⟨hx,h2'⟩:=fX h2
   have e0:=N3 h0
   subst e0
   rw [vf,if_pos rfl,aL,aL] at h0 ⊢
   have hA:=Au (n:=i+1) (e:=0) (vG p (i+1)) h
   generalize kx A (i+1) 0=y at *
   have hG:=Up (t:=2) (e:=y.2) h hl hx (vG p (i+1)) (Or.inr rfl)
   generalize fS A l (i+1) 2 y.2=g at *
   show (0:Int)=0/\MZ.In _ (Ge p fs xs (i+1+1) _ _).1/\Zq.In _ (Ge p fs xs (i+1+1) _ _).2
   refine⟨rfl,?_⟩
   have fin:∀ (e':Int) (b:Bl) (zb:Zq),(e'=0->g.2=0/\Zq.In b zb)->(qV A fs rs (i+1+1) (pE (iD e' y.1 g.1).2 m (iD e' y.1 g.1).1).1 b (pE (iD e' y.1 g.1).2 m (iD e' y.1 g.1).1).2).2=0 ->
     MZ.In (qV A fs rs (i+1+1) (pE (iD e' y.1 g.1).2 m (iD e' y.1 g.1).1).1 b (pE (iD e' y.1 g.1).2 m (iD e' y.1 g.1).1).2).1.1 (Ge p fs xs (i+1+1) (abJ zm (ae7 (Ah p (i+1) (sgZ p (i+1))) (Kd p (sgZ p (i+1)) x 2))) zb).1 /\
     Zq.In (qV A fs rs (i+1+1) (pE (iD e' y.1 g.1).2 m (iD e' y.1 g.1).1).1 b (pE (iD e' y.1 g.1).2 m (iD e' y.1 g.1).1).2).1.2 (Ge p fs xs (i+1+1) (abJ zm (ae7 (Ah p (i+1) (sgZ p (i+1))) (Kd p (sgZ p (i+1)) x 2))) zb).2:=by
    intro e' b zb hb hv
    have q0:=N3 hv
    have hM:=ai8 (e:=e') (y:=y.1) (g:=g.1) (zy:=Ah p (i+1) (sgZ p (i+1))) (zg:=Kd p (sgZ p (i+1)) x 2) (fun e1=>(hA ((hG (hb e1).1).1)).2) (fun e1=>(hG (hb e1).1).2)
    have hU:=alm (e:=(iD e' y.1 g.1).2) (p:=m) (m:=(iD e' y.1 g.1).1) (zp:=zm) (fun _=>hm) (fun e1=>(hM e1).2) q0
    have hE:=(hM hU.1).1
    exact (ih xs (i+1) _ b _ _ zb h1' h2' hU.2 (hb hE).2 hv).2
   cases fs with
   | true=>
    rw [if_pos rfl,aL,aL,pp,pp] at h0 ⊢
    rw [if_pos rfl]
    have hH:=Up (t:=1) (e:=g.2) h hl hx (vG p (i+1)) (Or.inl rfl)
    generalize fS A l (i+1) 1 g.2=f at *
    refine fin (two be f.2 a f.1).2 _ _ (fun e1=>?_) h0
    obtain⟨v1,v2,v3⟩:=A1 e1
    obtain⟨f1,f2⟩:=hH v1
    rw [v2]
    exact⟨f1,kV ha f2 v3⟩
   | false=>
    rw [if_neg (by decide),pp,pp] at h0 ⊢
    rw [if_neg (by decide)]
    exact fin g.2 a za (fun e1=>⟨e1,ha⟩) h0
noncomputable def pD (p:Pt)(fs:Bool):MZ × Zq:=Ge p fs p.ls 1 ⟨H6,ah9,ah9,H6⟩ H6
theorem aiy {A:Ask}{p:Pt}{fs:Bool}(h:jT A p){e:Int}(h0:(jy A fs e).2=0):e=0/\MZ.In (jy A fs e).1.1 (pD p fs).1/\Zq.In (jy A fs e).1.2 (pD p fs).2:=
 al1 h A.ls p.ls 0 _ _ e _ _ rfl rfl ⟨zC,WT,WT,zC⟩ zC h0
noncomputable def adZ (p:Pt)(n:Nat):Zq:=Ah p n (sgZ p n)
noncomputable def qx (p:Pt)(tr:Bool):Zq:=
 let a:=(adZ p 0).mul ((pD p tr).1.a.add ((pD p tr).1.b.mul (adZ p (p.ls.length+1))))
 let c:=(pD p tr).1.c.add ((pD p tr).1.d.mul (adZ p (p.ls.length+1)))
 if tr=true then (((adZ p 0).add (adZ p 0)).mul (pD p tr).2).quo (a.add c) else (a.sub c).quo (a.add c)
theorem Y9 {A:Ask}{p:Pt}{tr:Bool}(hA:jT A p){e:Int}(h:(wH A tr e).2=0):e=0/\Zq.In (wH A tr e).1 (qx p tr):=by
 unfold wH qx at *
 have hlen:=(Ak hA.ls).1
 rw [aL,MH,aL,aL,aL,aL,aL,aL,aL] at h ⊢
 simp only at h ⊢
 rw [<- hlen]
 have kf:=Au (n:=0) (e:=e) (vG p 0) hA
 generalize kx A 0 e=f at *
 have kt:=aiy (fs:=tr) (e:=f.2) hA
 generalize jy A tr f.2=t at *
 have kl:=Au (n:=A.ls.length+1) (e:=t.2) (vG p (A.ls.length+1)) hA
 generalize kx A (A.ls.length+1) t.2=l at *
 generalize h1:two be l.2 t.1.1.2.1 l.1=t1 at *
 generalize h2:two dY t1.2 t.1.1.1 t1.1=b at *
 generalize h3:two be b.2 t.1.1.2.2.2 l.1=t2 at *
 generalize h4:two dY t2.2 t.1.1.2.2.1 t2.1=c at *
 generalize h5:two be c.2 f.1 b.1=a at *
 generalize h6:two dY a.2 a.1 c.1=d at *
 have pre:d.2=0->e=0/\Zq.In f.1 (adZ p 0)/\Zq.In t.1.2 (pD p tr).2/\Zq.In a.1 ((adZ p 0).mul ((pD p tr).1.a.add ((pD p tr).1.b.mul (adZ p (A.ls.length+1)))))/\Zq.In c.1 ((pD p tr).1.c.add ((pD p tr).1.d.mul (adZ p (A.ls.length+1)))) /\
   Zq.In d.1 (((adZ p 0).mul ((pD p tr).1.a.add ((pD p tr).1.b.mul (adZ p (A.ls.length+1))))).add ((pD p tr).1.c.add ((pD p tr).1.d.mul (adZ p (A.ls.length+1))))):=by
  intro x7
  obtain⟨x6,y6⟩:=cP h6 x7
  obtain⟨x5,y5⟩:=cP h5 x6
  obtain⟨x4,y4⟩:=cP h4 x5
  obtain⟨x3,y3⟩:=cP h3 x4
  obtain⟨x2,y2⟩:=cP h2 x3
  obtain⟨x1,y1⟩:=cP h1 x2
  obtain⟨xt,cl⟩:=kl x1
  obtain⟨xf,cm,cg⟩:=kt xt
  obtain⟨x0,cf⟩:=kf xf
  have kb:=ta y2 x3 cm.a (fW y1 x2 cm.b cl)
  have kc:=ta y4 x5 cm.c (fW y3 x4 cm.d cl)
  have ka:=fW y5 x6 cf kb
  exact⟨x0,cf,cg,ka,kc,ta y6 x7 ka kc⟩
 cases tr with
 | true=>
  rw [if_pos rfl,aL,aL,aL] at h ⊢
  rw [if_pos rfl]
  simp only at h ⊢
  generalize h7:two dY d.2 f.1 f.1=s at *
  generalize h8:two be s.2 s.1 t.1.2=z at *
  generalize h9:two mG z.2 z.1 d.1=v at *
  obtain⟨x9,y9⟩:=cP h9 h
  obtain⟨x8,y8⟩:=cP h8 x9
  obtain⟨x7,y7⟩:=cP h7 x8
  obtain⟨x0,cf,cg,_,_,cd⟩:=pre x7
  exact⟨x0,aiO y9 h (fW y8 x9 (ta y7 x8 cf cf) cg) cd⟩
 | false=>
  rw [if_neg (by decide),aL,aL] at h ⊢
  rw [if_neg (by decide)]
  simp only at h ⊢
  generalize h7:two gG d.2 a.1 c.1=z at *
  generalize h8:two mG z.2 z.1 d.1=v at *
  obtain⟨x8,y8⟩:=cP h8 h
  obtain⟨x7,y7⟩:=cP h7 x8
  obtain⟨x0,_,_,ca,cc,cd⟩:=pre x7
  exact⟨x0,aiO y8 h (aa8 y7 x8 ca cc) cd⟩
structure Vl where
 n:Int
 d:Int
 h:0 < d
def Vl.In (v:Vl)(lo hi:Int):Prop:=v.d*lo<=v.n/\v.n<=v.d*hi
def zV:Vl:=⟨0,1,by decide⟩
def Sr (v:Vl):Vl:=if v.d*1048576 < v.n then ⟨1048576,1,by decide⟩ else v
def alU (v w:Vl):Vl:=⟨pos (1048576*(v.d*w.d) - v.n*w.d - w.n*v.d),v.d*w.d,Int.mul_pos v.h w.h⟩
theorem ap4:Vl.In zV 0 0:=⟨by decide,by decide⟩
theorem aaE {v:Vl}{lo hi:Int}(h:v.In lo hi):(Sr v).In (wC lo) (wC hi):=by
 obtain⟨h1,h2⟩:=h
 have hd:=v.h
 unfold Sr
 by_cases c:v.d*1048576 < v.n
 ·rw [if_pos c]
  have hh:1048576 < hi:=by
   by_cases c2:1048576 < hi
   ·exact c2
   ·have:=Int.mul_le_mul_of_nonneg_left (show hi<=1048576 by omega) (Int.le_of_lt hd)
    omega
  unfold Vl.In wC
  rw [if_pos hh]
  simp only
  split <;> omega
 ·rw [if_neg c]
  unfold Vl.In wC
  constructor
  ·split
   ·rename_i hl
    have:=Int.mul_le_mul_of_nonneg_left (show (1048576:Int)<=lo by omega) (Int.le_of_lt hd)
    omega
   ·exact h1
  ·split
   ·omega
   ·exact h2
theorem ZX {v w:Vl}{a b c d:Int}(ha:cW a)(hb:cW b)(hc:cW c)(hd:cW d)(h1:v.In a b)(h2:w.In c d):(alU v w).In (yS b d) (yS a c):=by
 obtain⟨p1,p2⟩:=h1
 obtain⟨q1,q2⟩:=h2
 have hv:=v.h
 have hw:=w.h
 unfold cW at *
 unfold alU yS Vl.In
 rw [ak (n:=1048576 - b) (by omega) (by omega),ak (n:=1048576 - b - d) (by omega) (by omega),ak (n:=1048576 - a) (by omega) (by omega),ak (n:=1048576 - a - c) (by omega) (by omega)]
 simp only
 have e1:v.d*w.d*(1048576 - b - d)=1048576*(v.d*w.d) - w.d*(v.d*b) - v.d*(w.d*d):=by grind
 have e2:v.d*w.d*(1048576 - a - c)=1048576*(v.d*w.d) - w.d*(v.d*a) - v.d*(w.d*c):=by grind
 have i1:=Int.mul_le_mul_of_nonneg_left p1 (Int.le_of_lt hw)
 have i2:=Int.mul_le_mul_of_nonneg_left p2 (Int.le_of_lt hw)
 have i3:=Int.mul_le_mul_of_nonneg_left q1 (Int.le_of_lt hv)
 have i4:=Int.mul_le_mul_of_nonneg_left q2 (Int.le_of_lt hv)
 have e3:w.d*v.n=v.n*w.d:=Int.mul_comm ..
 have e4:v.d*w.n=w.n*v.d:=Int.mul_comm ..
 have hD:=Int.mul_pos hv hw
 have lo1:v.d*w.d*(1048576 - b - d)<=1048576*(v.d*w.d) - v.n*w.d - w.n*v.d:=by omega
 have hi1:1048576*(v.d*w.d) - v.n*w.d - w.n*v.d<=v.d*w.d*(1048576 - a - c):=by omega
 generalize 1048576*(v.d*w.d) - v.n*w.d - w.n*v.d=N at *
 generalize v.d*w.d=D at *
 generalize 1048576 - b - d=x at *
 generalize 1048576 - a - c=y at *
 unfold pos
 constructor
 ·by_cases c1:x > 0
  ·have:=Int.mul_pos hD c1
   rw [if_pos c1,if_pos (by omega)];exact lo1
  ·rw [if_neg c1,Int.mul_zero];split <;> omega
 ·by_cases c1:N > 0
  ·have hy:y > 0:=by
    by_cases c2:y > 0
    ·exact c2
    ·have:=Int.mul_nonneg (Int.le_of_lt hD) (show 0<=-y by omega)
     rw [Int.mul_neg] at this
     omega
   rw [if_pos c1,if_pos hy];exact hi1
  ·rw [if_neg c1]
   split
   ·exact Int.mul_nonneg (Int.le_of_lt hD) (by omega)
   ·omega
def R9 (p:Pt):Nat->Nat->Bool
 | 0,_=>false
 | m+1,n=>if (gZ p n).2=0 then R9 p m (n+1) else true
theorem aij {A:Ask}{p:Pt}(h:jT A p):∀ m n:Nat,lsy A m n=R9 p m n:=by
 intro m
 induction m with
 | zero=>intro n;rfl
 | succ m ih=>
  intro n
  unfold lsy R9
  obtain⟨_,_,e,_⟩:=AO h n
  rw [e,ih]
noncomputable def vR (p:Pt):Vl:=Sr ⟨(qx p false).nrm*1048576,(qx p false).d*(qx p false).d,Int.mul_pos (qx p false).h (qx p false).h⟩
noncomputable def vT (p:Pt):Vl:=if h:0 < (adZ p 0).p then
  Sr ⟨pos (adZ p (p.ls.length+1)).p*(qx p true).nrm*(adZ p 0).d*1048576,(adZ p (p.ls.length+1)).d*((qx p true).d*(qx p true).d)*(adZ p 0).p,Int.mul_pos (Int.mul_pos (adZ p (p.ls.length+1)).h (Int.mul_pos (qx p true).h (qx p true).h)) h⟩
 else zV
noncomputable def vA (p:Pt):Vl:=if R9 p (p.ls.length+2) 0=true then alU (vR p) (vT p) else zV
theorem Ty {ul uh fl fh tl th lp ld tn td fp fd:Int}(hld:0 < ld)(htd:0 < td)(hfd:0 < fd)(hfp:0 < fp)(htn:0<=tn)
  (u1:ld*ul<=lp*1048576) (u2:lp*1048576<=ld*uh) (hul:ul<=134217728) (huh:uh<=134217728)
  (f1:fd*fl<=fp*1048576) (f2:fp*1048576<=fd*fh) (hfl:0 < fl) (hflh:fl<=fh) (hfh:fh<=134217728)
  (t0:0<=tl) (t00:0<=th) (t1:td*tl<=tn*1048576) (t2:tn*1048576<=td*th) (htl:tl<=34359738368) (hth:th<=34359738368) :
  (Vl.mk (pos lp*tn*fd*1048576) (ld*td*fp) (Int.mul_pos (Int.mul_pos hld htd) hfp)).In (dnI (w64 (pos ul*tl)) fh) (upI (w64 (pos uh*th)) fl):=by
 have pa:=mE hul
 have pb:=mE huh
 have px:=DZ lp
 have q1:=aaa hld u1
 have q2:=SV hld u2
 generalize pos ul=a at *
 generalize pos uh=b at *
 generalize pos lp=x at *
 have mA:=jq pa.1 pa.2 t0 htl
 have mB:=jq pb.1 pb.2 t00 hth
 rw [ak (n:=a*tl) (by omega) (by omega),ak (n:=b*th) (by omega) (by omega),FV (by omega) (by omega) (by omega),EM (by omega) (by omega) (by omega) (by omega)]
 have l1:a*tl / fh*fh<=a*tl:=Int.ediv_mul_le _ (by omega)
 have l2:0<=a*tl / fh:=Int.ediv_nonneg mA.1 (by omega)
 have h1:b*th<=(b*th+fl - 1) / fl*fl:=by
  have e:=Int.emod_add_mul_ediv (b*th+fl - 1) fl
  have e2:=Int.emod_lt_of_pos (b*th+fl - 1) hfl
  rw [Int.mul_comm fl] at e
  omega
 have h2:0<=(b*th+fl - 1) / fl:=Int.ediv_nonneg (by omega) (by omega)
 generalize a*tl / fh=y at *
 generalize (b*th+fl - 1) / fl=z at *
 unfold Vl.In
 simp only
 have hlt:=Int.mul_pos hld htd
 constructor
 ·-- y fp 2^20<=y fd fh<=fd a tl
  have i1:=Int.mul_le_mul_of_nonneg_left f2 l2
  have i2:=Int.mul_le_mul_of_nonneg_left l1 (Int.le_of_lt hfd)
  have i3:y*(fp*1048576)<=fd*(a*tl):=by
   have e1:y*(fd*fh)=fd*(y*fh):=by grind
   omega
  have i4:(ld*a)*(td*tl)<=(x*1048576)*(tn*1048576):=Int.mul_le_mul q1 t1 (Int.mul_nonneg (Int.le_of_lt htd) t0) (by omega)
  have i5:=Int.mul_le_mul_of_nonneg_left i3 (Int.le_of_lt hlt)
  have i6:=Int.mul_le_mul_of_nonneg_left i4 (Int.le_of_lt hfd)
  have e1:ld*td*(y*(fp*1048576))=(ld*td*fp*y)*1048576:=by grind
  have e2:ld*td*(fd*(a*tl))=fd*((ld*a)*(td*tl)):=by grind
  have e3:fd*((x*1048576)*(tn*1048576))=(x*tn*fd*1048576)*1048576:=by grind
  omega
 ·have i1:=Int.mul_le_mul_of_nonneg_left f1 h2
  have i2:=Int.mul_le_mul_of_nonneg_left h1 (Int.le_of_lt hfd)
  have i3:fd*(b*th)<=z*(fp*1048576):=by
   have e1:z*(fd*fl)=fd*(z*fl):=by grind
   omega
  have i4:(x*1048576)*(tn*1048576)<=(ld*b)*(td*th):=Int.mul_le_mul q2 t2 (by omega) (Int.mul_nonneg (Int.le_of_lt hld) pb.1)
  have i5:=Int.mul_le_mul_of_nonneg_left i3 (Int.le_of_lt hlt)
  have i6:=Int.mul_le_mul_of_nonneg_left i4 (Int.le_of_lt hfd)
  have e1:ld*td*(z*(fp*1048576))=(ld*td*fp*z)*1048576:=by grind
  have e2:ld*td*(fd*(b*th))=fd*((ld*b)*(td*th)):=by grind
  have e3:fd*((x*1048576)*(tn*1048576))=(x*tn*fd*1048576)*1048576:=by grind
  omega
def InQ (p:Pt)(q:Q6):Prop:=(vR p).In q.1 q.2.1/\(vT p).In q.2.2.1 q.2.2.2.1/\(vA p).In q.2.2.2.2.1 q.2.2.2.2.2
theorem ajS {A:Ask}{p:Pt}(hA:jT A p){st:Bool}{a b c d:Int}(ha:cW a)(hb:cW b)(hc:cW c)(hd:cW d)(h1:(vR p).In a b)(h2:st=false->(vT p).In c d)(h3:st=true->(vT p).In 0 0):InQ p (JI A st a b c d).1:=by
 unfold InQ JI vA Qp
 have hlen:=(Ak hA.ls).1
 rw [aij hA,hlen]
 cases st with
 | true=>
  rw [if_pos rfl]
  by_cases c:R9 p (p.ls.length+2) 0=true
  ·rw [if_pos c,if_pos c]
   exact⟨h1,h3 rfl,ZX ha hb u0 u0 h1 (h3 rfl)⟩
  ·rw [if_neg c,if_neg c]
   exact⟨h1,h3 rfl,ap4⟩
 | false=>
  rw [if_neg (by decide)]
  by_cases c:R9 p (p.ls.length+2) 0=true
  ·rw [if_pos c,if_pos c]
   exact⟨h1,h2 rfl,ZX ha hb hc hd h1 (h2 rfl)⟩
  ·rw [if_neg c,if_neg c]
   exact⟨h1,h2 rfl,ap4⟩
theorem Rl {A:Ask}{p:Pt}(hA:jT A p)(h:(eV A).2=0):InQ p (eV A).1:=by
 have hlen:=(Ak hA.ls).1
 unfold eV at *
 rw [if_pos hA.ck,aL,aL,aL,eB,aL,eB,iF] at h ⊢
 have kr:=Y9 (tr:=false) (e:=0) hA
 generalize wH A false 0=r at *
 have kt:=Y9 (tr:=true) (e:=r.2) hA
 generalize wH A true r.2=t at *
 have kl:=Au (n:=A.ls.length+1) (e:=t.2) (vG p (A.ls.length+1)) hA
 generalize kx A (A.ls.length+1) t.2=l at *
 have pl:=Fa l.2 l.1
 have kpl:=fun h=>(xa (e:=l.2) (a:=l.1) h)
 generalize fJ l.2 l.1=ul at *
 have kf:=Au (n:=0) (e:=ul.2) (vG p 0) hA
 generalize kx A 0 ul.2=f at *
 have pf:=Fa f.2 f.1
 have po:=amp f.2 f.1
 have kpf:=fun h=>(xa (e:=f.2) (a:=f.1) h)
 generalize fJ f.2 f.1=fr at *
 have kn:=(vG p (A.ls.length+1)).i A fr.2 hA
 generalize dq A (A.ls.length+1) fr.2=n at *
 by_cases c7:n.2.2=0
 ·rw [if_pos c7] at h ⊢
  by_cases cf:fr.1.1<=0
  ·rw [if_pos cf] at h;exact absurd h (by decide)
  ·rw [if_neg cf,fN] at h ⊢
   rw [if_pos (show (uY r.1).2.2=0 from rfl),fN,if_pos (show (uY t.1).2.2=0 from rfl)] at h ⊢
   obtain⟨x6,_,n1,n2⟩:=kn c7
   obtain⟨x5,ef⟩:=kpf x6
   obtain⟨x4,inf⟩:=kf x5
   obtain⟨x3,el⟩:=kpl x4
   obtain⟨x2,inl⟩:=kl x3
   obtain⟨x1,int⟩:=kt x2
   obtain⟨_,inr⟩:=kr x1
   have er:=Fk r.1
   have et:=Fk t.1
   have p1:=mE pl.1.2
   have p2:=mE pl.2.2
   have e0:=amG r.1
   obtain⟨⟨f1,f2⟩,_⟩:=ri inf
   obtain⟨⟨l1,l2⟩,_⟩:=ri inl
   have hfr1:fr.1.1=f.1.lo1:=by rw [ef]
   have hfr2:fr.1.2.1=f.1.hi1:=by rw [ef]
   have hul1:ul.1.1=l.1.lo1:=by rw [el]
   have hul2:ul.1.2.1=l.1.hi1:=by rw [el]
   rw [<- hfr1] at f1
   rw [<- hfr2] at f2
   rw [<- hul1] at l1
   rw [<- hul2] at l2
   have hfd:=(Ah p 0 (sgZ p 0)).h
   have hfp:0 < (adZ p 0).p:=by
    have:=Int.mul_pos hfd (show 0 < fr.1.1 by omega)
    show 0 < (Ah p 0 (sgZ p 0)).p
    omega
   obtain⟨r1,r2⟩:=UJ inr
   obtain⟨t1,t2⟩:=UJ int
   refine ajS hA (wh er.1.1) (wh er.2.1) (wh (ahQ p1.1 p1.2 et.1.1 (by omega) (by omega))) (wh (ahX p2.1 p2.2 et.2.1 et.2.2 (by omega) pf.1.2)) ?_ ?_ ?_
   ·exact aaE ⟨r1,r2⟩
   ·intro _
    unfold vT
    rw [dif_pos hfp]
    refine aaE ?_
    rw [hlen] at l1 l2
    exact Ty (adZ p (p.ls.length+1)).h (Int.mul_pos (qx p true).h (qx p true).h) (adZ p 0).h hfp (qx p true).nrm_nn l1 l2 pl.1.2 pl.2.2 f1 f2 (by omega) po pf.2.2 et.1.1 et.2.1 t1 t2 (by omega) et.2.2
   ·intro hs
    have hk0:(gZ p (A.ls.length+1)).2=0:=by
     by_cases c:(gZ p (A.ls.length+1)).2=0
     ·exact c
     ·have:=n2 c
      rw [hs] at this
      cases this
    have hp:=(n1 hk0).1 hs
    have hz:(adZ p (p.ls.length+1)).p=0:=by rw [<- hlen];exact VB hk0 hp
    unfold vT
    rw [dif_pos hfp]
    have hc:∀ (v:Vl),v.n=0->(Sr v).In 0 0:=by
     intro v hv
     have:=v.h
     unfold Sr
     rw [if_neg (by omega)]
     unfold Vl.In
     omega
    refine hc _ ?_
    show pos (adZ p (p.ls.length+1)).p*_*_*_=(0:Int)
    rw [hz,show pos 0=0 from rfl,Int.zero_mul,Int.zero_mul,Int.zero_mul]
 ·rw [if_neg c7] at h;exact absurd h c7
end Go.AM.K

namespace Go.AM.K
open Go.AM
set_option linter.unusedVariables false
set_option linter.unusedSimpArgs false
noncomputable def gL (p:Pt)(sh:Int):Vl:=if sh=2 then vA p else if sh=1 then vT p else vR p
theorem akY {p:Pt}{q:Q6}{sh:Int}(h:InQ p q):(gL p sh).In (HD sh q).1 (HD sh q).2:=by
 obtain⟨h1,h2,h3⟩:=h
 unfold HD gL
 by_cases c2:sh=2
 ·rw [if_pos c2,if_pos c2];exact h3
 ·rw [if_neg c2,if_neg c2]
  by_cases c1:sh=1
  ·rw [if_pos c1,if_pos c1];exact h2
  ·rw [if_neg c1,if_neg c1];exact h1
theorem amz {q:Q6}{sh:Int}(h:MU q):cW (HD sh q).1/\cW (HD sh q).2:=by
 obtain⟨h1,h2,h3,h4,h5,h6⟩:=h
 unfold HD
 split
 ·exact⟨h5,h6⟩
 ·split
  ·exact⟨h3,h4⟩
  ·exact⟨h1,h2⟩
structure alk (d:Dm)(ls:List L5)(oi ol:Int)(p:Pt):Prop where
 ix:d.ix=p.ix
 s:d.s1<=p.s/\p.s<=d.s2
 pol:d.pol=p.pol
 w:d.w1<=p.w/\p.w<=d.w2
 ls:DM ls p.ls
 oi:oi=p.oi
 ol:ol=p.ol
theorem S9 {d:Dm}{ls:List L5}{oi ol:Int}{p:Pt}(h:alk d ls oi ol p)(h0:(l8 d ls oi ol).2=0) :
  (gL p d.sh).In (l8 d ls oi ol).1.1 (l8 d ls oi ol).1.2/\cW (l8 d ls oi ol).1.1/\cW (l8 d ls oi ol).1.2:=by
 unfold l8 at *
 by_cases c:(eV (py d ls oi ol)).2=0
 ·rw [if_pos c]
  have hck:ckA (py d ls oi ol)=0:=by
   by_cases c2:ckA (py d ls oi ol)=0
   ·exact c2
   ·unfold eV at c
    rw [if_neg c2] at c
    exact absurd c c2
  have hA:jT (py d ls oi ol) p:=⟨h.ix,h.s,h.pol,h.w,h.ls,h.oi,h.ol,hck⟩
  exact⟨akY (Rl hA c),amz (YI _)⟩
 ·rw [if_neg c] at h0;exact absurd h0 c
def okD (d:Dm):Prop:=(0<=d.lo/\d.lo<=10000)/\0<=d.hi/\d.hi<=10000
theorem aeD {d:Dm}{ls:List L5}{oi ol:Int}{p:Pt}(hb:okD d)(h:alk d ls oi ol p)(h0:fj d ls oi ol=2) :
  (gL p d.sh).d*(d.lo*1048576)<=(gL p d.sh).n*10000/\(gL p d.sh).n*10000<=(gL p d.sh).d*(d.hi*1048576):=by
 unfold okD at hb
 unfold fj at h0
 have hd:=S9 h
 generalize l8 d ls oi ol=u at *
 by_cases c:u.2=0
 ·rw [if_pos c] at h0
  obtain⟨⟨v1,v2⟩,u1,u2⟩:=hd c
  unfold cW at u1 u2
  rw [ak (n:=d.lo*1048576) (by omega) (by omega),ak (n:=u.1.1*10000) (by omega) (by omega),ak (n:=u.1.2*10000) (by omega) (by omega),ak (n:=d.hi*1048576) (by omega) (by omega)] at h0
  by_cases c1:d.lo*1048576<=u.1.1*10000/\u.1.2*10000<=d.hi*1048576
  ·have hv:=(gL p d.sh).h
   generalize gL p d.sh=v at *
   have a1:=Int.mul_le_mul_of_nonneg_left c1.1 (Int.le_of_lt hv)
   have a2:=Int.mul_le_mul_of_nonneg_left c1.2 (Int.le_of_lt hv)
   have e1:v.d*(u.1.1*10000)=v.d*u.1.1*10000:=by grind
   have e2:v.d*(u.1.2*10000)=v.d*u.1.2*10000:=by grind
   omega
  ·rw [if_neg c1] at h0
   split at h0
   ·exact absurd h0 (by decide)
   ·split at h0
    ·exact absurd h0 (by decide)
    ·exact absurd h0 (by decide)
 ·rw [if_neg c] at h0;exact absurd h0 (by decide)
theorem VN {d:Dm}{ls:List L5}{oi ol:Int}{p:Pt}(hb:okD d)(h:alk d ls oi ol p)(h0:fj d ls oi ol=0) :
  (gL p d.sh).n*10000 < (gL p d.sh).d*(d.lo*1048576)\/(gL p d.sh).d*(d.hi*1048576) < (gL p d.sh).n*10000:=by
 unfold okD at hb
 unfold fj at h0
 have hd:=S9 h
 generalize l8 d ls oi ol=u at *
 by_cases c:u.2=0
 ·rw [if_pos c] at h0
  obtain⟨⟨v1,v2⟩,u1,u2⟩:=hd c
  unfold cW at u1 u2
  rw [ak (n:=d.lo*1048576) (by omega) (by omega),ak (n:=u.1.1*10000) (by omega) (by omega),ak (n:=u.1.2*10000) (by omega) (by omega),ak (n:=d.hi*1048576) (by omega) (by omega)] at h0
  have hv:=(gL p d.sh).h
  generalize gL p d.sh=v at *
  by_cases c1:d.lo*1048576<=u.1.1*10000/\u.1.2*10000<=d.hi*1048576
  ·rw [if_pos c1] at h0;exact absurd h0 (by decide)
  ·rw [if_neg c1] at h0
   by_cases c2:u.1.2*10000 < d.lo*1048576
   ·left
    have a1:=Int.mul_lt_mul_of_pos_left c2 hv
    have e1:v.d*(u.1.2*10000)=v.d*u.1.2*10000:=by grind
    omega
   ·rw [if_neg c2] at h0
    by_cases c3:d.hi*1048576 < u.1.1*10000
    ·right
     have a1:=Int.mul_lt_mul_of_pos_left c3 hv
     have e1:v.d*(u.1.1*10000)=v.d*u.1.1*10000:=by grind
     omega
    ·rw [if_neg c3] at h0;exact absurd h0 (by decide)
 ·rw [if_neg c] at h0;exact absurd h0 (by decide)
structure Pc where
 w1:Int
 w2:Int
 s1:Int
 s2:Int
def Pc.dm (x:Pc)(d:Dm):Dm:={ d with w1:=x.w1,w2:=x.w2,s1:=x.s1,s2:=x.s2 }
def gB (a b:Int):Int:=(a+b) / 2
def Pc.mid (x:Pc):Pc:=⟨gB x.w1 x.w2,gB x.w1 x.w2,gB x.s1 x.s2,gB x.s1 x.s2⟩
def hvP (a b:Int):Prop:=2<=b - a
instance {a b:Int}:Decidable (hvP a b):=by unfold hvP;exact inferInstance
def chE (x:Pc):Int:=if hvP x.w1 x.w2/\(¬ hvP x.s1 x.s2\/x.s2 - x.s1<=x.w2 - x.w1) then 1 else if hvP x.s1 x.s2 then 2 else 0
def Pc.cut (x:Pc)(c:Int):Pc × Pc:=if c=1 then ({ x with w2:=gB x.w1 x.w2 },{ x with w1:=gB x.w1 x.w2 }) else ({ x with s2:=gB x.s1 x.s2 },{ x with s1:=gB x.s1 x.s2 })
def vis (d:Dm)(ls:List L5)(oi ol:Int):Nat->Pc->Option (Int × Int) × Bool
 | 0,x=>if fj (x.dm d) ls oi ol=2 then (none,false) else if fj (x.mid.dm d) ls oi ol=0 then (some (gB x.w1 x.w2,gB x.s1 x.s2),false) else (none,true)
 | n+1,x=>if fj (x.dm d) ls oi ol=2 then (none,false) else if fj (x.mid.dm d) ls oi ol=0 then (some (gB x.w1 x.w2,gB x.s1 x.s2),false) else
  if chE x=0 then (none,true) else
   if (vis d ls oi ol n (x.cut (chE x)).1).1=none then ((vis d ls oi ol n (x.cut (chE x)).2).1,(vis d ls oi ol n (x.cut (chE x)).1).2 || (vis d ls oi ol n (x.cut (chE x)).2).2)
   else vis d ls oi ol n (x.cut (chE x)).1
def Pc.ok (x:Pc):Prop:=x.w1<=x.w2/\x.s1<=x.s2
def Pc.has (x:Pc)(w s:Int):Prop:=(x.w1<=w/\w<=x.w2)/\x.s1<=s/\s<=x.s2
theorem FU {a b:Int}(h:a<=b):a<=gB a b/\gB a b<=b:=by unfold gB;omega
theorem agM {x:Pc}{c w s:Int}(h:x.has w s):(x.cut c).1.has w s\/(x.cut c).2.has w s:=by
 unfold Pc.has at *
 unfold Pc.cut
 by_cases hc:c=1
 ·rw [if_pos hc]
  by_cases hw:w<=gB x.w1 x.w2
  ·left;simp only;omega
  ·right;simp only;omega
 ·rw [if_neg hc]
  by_cases hw:s<=gB x.s1 x.s2
  ·left;simp only;omega
  ·right;simp only;omega
theorem aih {x:Pc}{c:Int}(h:x.ok):(x.cut c).1.ok/\(x.cut c).2.ok/\∀ w s,(x.cut c).1.has w s\/(x.cut c).2.has w s->x.has w s:=by
 unfold Pc.ok Pc.has at *
 have m1:=FU h.1
 have m2:=FU h.2
 unfold Pc.cut
 by_cases hc:c=1
 ·rw [if_pos hc]
  simp only
  refine⟨by omega,by omega,fun w s h=>by omega⟩
 ·rw [if_neg hc]
  simp only
  refine⟨by omega,by omega,fun w s h=>by omega⟩
theorem ady {d:Dm}{ls:List L5}{oi ol:Int}:∀ (n:Nat) (x:Pc),vis d ls oi ol n x=(none,false)->∀ w s,x.has w s->∃ y:Pc,y.has w s/\fj (y.dm d) ls oi ol=2:=by
 intro n
 induction n with
 | zero=>
  intro x h w s hx
  unfold vis at h
  by_cases c:fj (x.dm d) ls oi ol=2
  ·exact⟨x,hx,c⟩
  ·rw [if_neg c] at h
   split at h
   ·exact absurd h (by simp)
   ·exact absurd h (by simp)
 | succ n ih=>
  intro x h w s hx
  unfold vis at h
  by_cases c:fj (x.dm d) ls oi ol=2
  ·exact⟨x,hx,c⟩
  ·rw [if_neg c] at h
   by_cases c2:fj (x.mid.dm d) ls oi ol=0
   ·rw [if_pos c2] at h;exact absurd h (by simp)
   ·rw [if_neg c2] at h
    by_cases c3:chE x=0
    ·rw [if_pos c3] at h;exact absurd h (by simp)
    ·rw [if_neg c3] at h
     by_cases c4:(vis d ls oi ol n (x.cut (chE x)).1).1=none
     ·rw [if_pos c4] at h
      obtain⟨h1,h2⟩:=Prod.mk.inj h
      obtain⟨h3,h4⟩:=Bool.or_eq_false_iff.1 h2
      rcases agM (c:=chE x) hx with hh | hh
      ·exact ih _ (Prod.ext c4 h3) w s hh
      ·exact ih _ (Prod.ext h1 h4) w s hh
     ·rw [if_neg c4] at h
      rw [h] at c4
      exact absurd rfl c4
theorem ali {d:Dm}{ls:List L5}{oi ol:Int}:∀ (n:Nat) (x:Pc) (w s:Int),x.ok->(vis d ls oi ol n x).1=some (w,s)->x.has w s/\fj ((Pc.mk w w s s).dm d) ls oi ol=0:=by
 intro n
 have key:∀ (x:Pc) (w s:Int),x.ok->fj (x.mid.dm d) ls oi ol=0->some (gB x.w1 x.w2,gB x.s1 x.s2)=some (w,s)->x.has w s/\fj ((Pc.mk w w s s).dm d) ls oi ol=0:=by
  intro x w s hx h1 h2
  obtain⟨rfl,rfl⟩:=Prod.mk.inj (Option.some.inj h2)
  have m1:=FU hx.1
  have m2:=FU hx.2
  exact⟨⟨m1,m2⟩,h1⟩
 induction n with
 | zero=>
  intro x w s hx h
  unfold vis at h
  by_cases c:fj (x.dm d) ls oi ol=2
  ·rw [if_pos c] at h;exact absurd h (by simp)
  ·rw [if_neg c] at h
   by_cases c2:fj (x.mid.dm d) ls oi ol=0
   ·rw [if_pos c2] at h;exact key x w s hx c2 h
   ·rw [if_neg c2] at h;exact absurd h (by simp)
 | succ n ih=>
  intro x w s hx h
  unfold vis at h
  by_cases c:fj (x.dm d) ls oi ol=2
  ·rw [if_pos c] at h;exact absurd h (by simp)
  ·rw [if_neg c] at h
   by_cases c2:fj (x.mid.dm d) ls oi ol=0
   ·rw [if_pos c2] at h;exact key x w s hx c2 h
   ·rw [if_neg c2] at h
    by_cases c3:chE x=0
    ·rw [if_pos c3] at h;exact absurd h (by simp)
    ·rw [if_neg c3] at h
     obtain⟨k1,k2,k3⟩:=aih (c:=chE x) hx
     by_cases c4:(vis d ls oi ol n (x.cut (chE x)).1).1=none
     ·rw [if_pos c4] at h
      obtain⟨a,b⟩:=ih _ w s k2 h
      exact⟨k3 _ _ (Or.inr a),b⟩
     ·rw [if_neg c4] at h
      obtain⟨a,b⟩:=ih _ w s k1 h
      exact⟨k3 _ _ (Or.inl a),b⟩
end Go.AM.K
