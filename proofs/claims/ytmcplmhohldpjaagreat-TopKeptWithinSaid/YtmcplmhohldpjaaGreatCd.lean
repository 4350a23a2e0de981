/- Texts of one kind, put together. -/
import Derived.Test.YtmcplmhohldpjaaGreatCc
import Derived.Test.YtmcplmhohldpjaaGreatYWj
import Derived.Test.YtmcplmhohldpjaaGreatYWl
namespace Go.AM.K
open Go.AM
set_option linter.unusedVariables false
set_option linter.unusedSimpArgs false
def minU:Nat->Int
 | 0=>fHi 0
 | n+1=>if fHi ((n+1:Nat):Int) < minU n then fHi ((n+1:Nat):Int) else minU n
theorem minU_le:∀ (n k:Nat),k<=n->minU n<=fHi (k:Int):=by
 intro n
 induction n with
 | zero=>
  intro k h
  have e:k=0:=by omega
  subst e
  exact Int.le_refl _
 | succ n ih=>
  intro k h
  unfold minU
  by_cases c:k<=n
  ·have:=ih k c
   split <;> omega
  ·have e:k=n+1:=by omega
   subst e
   split <;> omega
theorem minU_ge {hi:Int}:∀ n:Nat,(n:Int)<=hi->fLo hi<=minU n/\0<=fLo hi:=by
 intro n
 induction n with
 | zero=>
  intro h
  obtain⟨a,b,c⟩:=fade_ends (lo:=0) (hi:=hi) (Int.le_refl _) h
  exact⟨b,a⟩
 | succ n ih=>
  intro h
  obtain⟨a,b,c⟩:=fade_ends (lo:=((n+1:Nat):Int)) (hi:=hi) (by omega) h
  have:=ih (by omega)
  unfold minU
  split <;> omega
theorem fade_in {lo hi m:Int}(h0:0<=lo)(h1:lo<=m)(h2:m<=hi)(he:(fadeE lo hi).2.2=0):(fadeE lo hi).1<=minU m.toNat/\minU m.toNat<=(fadeE lo hi).2.1:=by
 unfold fadeE at *
 by_cases c:ckE lo hi 0=0
 ·rw [if_pos c] at he ⊢
  have a:=(minU_ge (hi:=hi) m.toNat (by omega)).1
  have b:=minU_le m.toNat lo.toNat (by omega)
  rw [Int.toNat_of_nonneg h0] at b
  exact⟨a,b⟩
 ·rw [if_neg c] at he;exact absurd he c
def trnA (x D d w t:Int):Int:=t*(4*pos x*d*1048576) / (D*w)
structure PartIn (lo hi x D d w:Int):Prop where
 lo0:0<=lo
 hi0:hi<=4503599627370496
 b:∀ t,t=1\/t=2->t*lo<=trnA x D d w t/\trnA x D d w t<=t*hi
theorem pos_nn (x:Int):0<=pos x:=by unfold pos;split <;> omega
theorem pos_lo {a x D:Int}(hD:0 < D)(h:D*a<=x*1048576):D*pos a<=pos x*1048576:=by
 have hx:=pos_nn x
 by_cases c:a > 0
 ·have:=Int.mul_pos hD c
  unfold pos
  rw [if_pos c,if_pos (by omega)];exact h
 ·rw [show pos a=0 from if_neg c,Int.mul_zero];omega
theorem pos_hi {b x D:Int}(hD:0 < D)(h:x*1048576<=D*b):pos x*1048576<=D*pos b:=by
 by_cases c:x > 0
 ·have hb:b > 0:=by
   by_cases c2:b > 0
   ·exact c2
   ·have:=Int.mul_nonneg (Int.le_of_lt hD) (show 0<=-b by omega)
    rw [Int.mul_neg] at this
    omega
  unfold pos
  rw [if_pos c,if_pos hb];exact h
 ·rw [show pos x=0 from if_neg c,Int.zero_mul]
  exact Int.mul_nonneg (Int.le_of_lt hD) (pos_nn b)
theorem part_in {a b x D d1 d2 d w1 w2 w:Int}(hD:0 < D)(ha:a<=134217728)(hb:b<=134217728)(h1:D*a<=x*1048576)(h2:x*1048576<=D*b)
  (hd0:0<=d1) (hd1:d1<=d) (hd2:d<=d2) (hd3:d2<=1000000) (hw0:1000<=w1) (hw1:w1<=w) (hw2:w<=w2) (hw3:w2<=200000) :
  PartIn (dnI (w64 ((w64 (4*pos a))*d1)) w2) (upI (w64 ((w64 (4*pos b))*d2)) w1) x D d w:=by
 have pa:=pos_bd ha
 have pb:=pos_bd hb
 have px:=pos_nn x
 have q1:=pos_lo hD h1
 have q2:=pos_hi hD h2
 generalize pos a=a' at *
 generalize pos b=b' at *
 have mA:=mulB (x:=4*a') (y:=d1) (A:=536870912) (B:=1000000) (by omega) (by omega) (by omega) (by omega)
 have mB:=mulB (x:=4*b') (y:=d2) (A:=536870912) (B:=1000000) (by omega) (by omega) (by omega) (by omega)
 rw [w64_in (n:=4*a') (by omega) (by omega),w64_in (n:=4*b') (by omega) (by omega),w64_in (n:=4*a'*d1) (by omega) (by omega),w64_in (n:=4*b'*d2) (by omega) (by omega),
  dnI_eq (by omega) (by omega) (by omega),upI_eq (by omega) (by omega) (by omega) (by omega)]
 have hDw:0 < D*w:=Int.mul_pos hD (by omega)
 -- what the numbers are below and above
 have lo1:4*a'*d1 / w2*w2<=4*a'*d1:=Int.ediv_mul_le _ (by omega)
 have lo2:0<=4*a'*d1 / w2:=Int.ediv_nonneg mA.1 (by omega)
 have hi1:4*b'*d2<=(4*b'*d2+w1 - 1) / w1*w1:=by
  have e:=Int.emod_add_mul_ediv (4*b'*d2+w1 - 1) w1
  have e2:=Int.emod_lt_of_pos (4*b'*d2+w1 - 1) (show 0 < w1 by omega)
  rw [Int.mul_comm w1] at e
  omega
 have hi2:0<=(4*b'*d2+w1 - 1) / w1:=Int.ediv_nonneg (by omega) (by omega)
 have hi3:(4*b'*d2+w1 - 1) / w1<=4503599627370496:=Int.le_trans (Int.ediv_le_self _ (by omega)) (by omega)
 refine⟨lo2,hi3,fun t ht=>?_⟩
 unfold trnA
 have ht0:0<=t:=by omega
 constructor
 ·rw [Int.le_ediv_iff_mul_le hDw]
  generalize 4*a'*d1 / w2=z at *
  have i1:z*w<=z*w2:=Int.mul_le_mul_of_nonneg_left hw2 lo2
  have i2:D*(z*w)<=D*(4*a'*d1):=Int.mul_le_mul_of_nonneg_left (by omega) (Int.le_of_lt hD)
  have i3:(D*a')*(4*d1)<=(pos x*1048576)*(4*d1):=Int.mul_le_mul_of_nonneg_right q1 (by omega)
  have i4:(pos x*1048576*4)*d1<=(pos x*1048576*4)*d:=Int.mul_le_mul_of_nonneg_left hd1 (by omega)
  have i5:D*(z*w)<=4*pos x*d*1048576:=by
   have e1:D*(4*a'*d1)=(D*a')*(4*d1):=by grind
   have e2:(pos x*1048576)*(4*d1)=(pos x*1048576*4)*d1:=by grind
   have e3:(pos x*1048576*4)*d=4*pos x*d*1048576:=by grind
   omega
  have i6:=Int.mul_le_mul_of_nonneg_left i5 ht0
  have e4:t*z*(D*w)=t*(D*(z*w)):=by grind
  omega
 ·generalize (4*b'*d2+w1 - 1) / w1=z at *
  have i1:z*w1<=z*w:=Int.mul_le_mul_of_nonneg_left hw1 hi2
  have i2:D*(4*b'*d2)<=D*(z*w):=Int.mul_le_mul_of_nonneg_left (by omega) (Int.le_of_lt hD)
  have i3:(pos x*1048576)*(4*d2)<=(D*b')*(4*d2):=Int.mul_le_mul_of_nonneg_right q2 (by omega)
  have i4:(pos x*1048576*4)*d<=(pos x*1048576*4)*d2:=Int.mul_le_mul_of_nonneg_left hd2 (by omega)
  have i5:4*pos x*d*1048576<=D*(z*w):=by
   have e1:D*(4*b'*d2)=(D*b')*(4*d2):=by grind
   have e2:(pos x*1048576)*(4*d2)=(pos x*1048576*4)*d2:=by grind
   have e3:(pos x*1048576*4)*d=4*pos x*d*1048576:=by grind
   omega
  have i6:=Int.mul_le_mul_of_nonneg_left i5 ht0
  have e4:t*(D*(z*w))=t*z*(D*w):=by grind
  rw [e4] at i6
  have i7:=Int.ediv_le_ediv hDw i6
  rw [Int.mul_ediv_cancel _ (by omega)] at i7
  exact i7
theorem turn_in {A:Ask}{p:Pt}{σ:Zq}{i:Nat}{l:L5}{x:Int × Int × Int}(h:AskAt A p)(hl:A.ls[i]?=some l)(hx:p.ls[i]?=some x)(hσ:NrmAt p (i+1) σ){e:Int}(h0:(turnP A l (i+1) e).2=0) :
  e=0/\PartIn (turnP A l (i+1) e).1.1 (turnP A l (i+1) e).1.2.1 σ.p σ.d x.2.1 p.w/\PartIn (turnP A l (i+1) e).1.2.2.1 (turnP A l (i+1) e).1.2.2.2 σ.q σ.d x.2.1 p.w:=by
 obtain⟨c1,c2,c3,c4,c5,c6,c7,c8⟩:=ckA_ok h.ck
 obtain⟨w1,w2,w3⟩:=rngE_b c4
 obtain⟨wa,wb⟩:=h.w
 have hb:=lsE_bd c6 hl
 have hxx:=(ls_at h.ls).2 hl hx
 have em:=medE_some hl
 have ez:=medZ_some hx
 unfold LBd at hb
 unfold LayAt at hxx
 unfold turnP at *
 rw [bndN_eq,bndP_eq] at h0 ⊢
 have hn:=hσ.i A e h
 generalize normalE A (i+1) e=u at *
 have hd:=σ.h
 have fin:∀ a b c d:Int,a<=134217728->b<=134217728->c<=134217728->d<=134217728->σ.d*a<=σ.p*1048576->σ.p*1048576<=σ.d*b->σ.d*c<=σ.q*1048576->σ.q*1048576<=σ.d*d ->
   PartIn (trnE A l a b c d 0).1.1 (trnE A l a b c d 0).1.2.1 σ.p σ.d x.2.1 p.w/\PartIn (trnE A l a b c d 0).1.2.2.1 (trnE A l a b c d 0).1.2.2.2 σ.q σ.d x.2.1 p.w:=by
  intro a b c d k1 k2 k3 k4 k5 k6 k7 k8
  exact⟨part_in hd k1 k2 k5 k6 (by omega) (by omega) (by omega) (by omega) (by omega) (by omega) (by omega) (by omega),
   part_in hd k3 k4 k7 k8 (by omega) (by omega) (by omega) (by omega) (by omega) (by omega) (by omega) (by omega)⟩
 have hp2:(prtE u.2.2 u.1).2=0:=by
  revert h0
  split
  ·split <;> exact fun h=>h
  ·exact fun h=>h
 obtain⟨e1,e2⟩:=prtE_ok hp2
 obtain⟨e0,hi,hk,hk2⟩:=hn e1
 have g:=u.1.bd
 have hb1:u.1.lo1<=134217728/\u.1.hi1<=134217728/\u.1.lo2<=134217728/\u.1.hi2<=134217728:=by
  unfold Bl.lo1 Bl.hi1 Bl.lo2 Bl.hi2
  omega
 obtain⟨⟨p1,p2⟩,p3,p4⟩:=in_parts hi
 rw [e2] at h0 ⊢
 simp only at h0 ⊢
 refine⟨e0,?_⟩
 by_cases cl:l.2.2.2.2=0
 ·rw [if_pos cl]
  have hz:(medZ p (i+1)).2=0:=by rw [ez];simp only;omega
  obtain⟨t1,t2⟩:=hk hz
  by_cases cs:u.2.1=true
  ·rw [if_pos cs]
   have:=t1 cs
   exact fin 0 0 _ _ (by decide) (by decide) hb1.2.2.1 hb1.2.2.2 (by omega) (by omega) p3 p4
  ·rw [if_neg cs]
   have:=t2 (by simpa using cs)
   exact fin _ _ 0 0 hb1.1 hb1.2.1 (by decide) (by decide) p1 p2 (by omega) (by omega)
 ·rw [if_neg cl]
  exact fin _ _ _ _ hb1.1 hb1.2.1 hb1.2.2.1 hb1.2.2.2 p1 p2 p3 p4
def facZ (p:Pt)(σ:Zq)(x:Int × Int × Int)(t:Int):Zq:=(dirZ (trnA σ.p σ.d x.2.1 p.w t)).mul (Zq.real (minU (trnA σ.q σ.d x.2.1 p.w t).toNat) 1048576 (by decide))
theorem blc_in (m:Int):Zq.In Blc (dirZ m):=by
 have h:=dirZ_one m
 have hd:=(dirZ m).h
 show nle ((dirZ m).d*0 - (dirZ m).p*1048576) ((dirZ m).d*0 - (dirZ m).q*1048576) ((dirZ m).d*1048576)
 generalize dirZ m=z at *
 refine⟨by omega,?_⟩
 have e1:(z.d*0 - z.p*1048576)*(z.d*0 - z.p*1048576)+(z.d*0 - z.q*1048576)*(z.d*0 - z.q*1048576)=1099511627776*(z.p*z.p+z.q*z.q):=by grind
 have e2:z.d*1048576*(z.d*1048576)=1099511627776*(z.d*z.d):=by grind
 omega
theorem fac_in {A:Ask}{p:Pt}{σ:Zq}{i:Nat}{l:L5}{x:Int × Int × Int}(h:AskAt A p)(hl:A.ls[i]?=some l)(hx:p.ls[i]?=some x)(hσ:NrmAt p (i+1) σ){t e:Int}(ht:t=1\/t=2)(h0:(factorE A l (i+1) t e).2=0) :
  e=0/\Zq.In (factorE A l (i+1) t e).1 (facZ p σ x t):=by
 have hT:=turn_in (e:=e) h hl hx hσ
 unfold factorE facZ at *
 rw [bndP_eq] at h0 ⊢
 generalize turnP A l (i+1) e=T at *
 by_cases c:T.2=0
 ·rw [if_pos c] at h0 ⊢
  obtain⟨e0,k1,k2⟩:=hT c
  obtain⟨a1,a2⟩:=k1.b t ht
  obtain⟨b1,b2⟩:=k2.b t ht
  have a0:=k1.lo0;have b0:=k2.lo0;have a3:=k1.hi0;have b3:=k2.hi0
  have hti:0<=t:=by omega
  have l1:=Int.mul_nonneg hti a0
  have l2:=Int.mul_nonneg hti b0
  have u1:t*T.1.2.1<=9007199254740992:=by rcases ht with rfl | rfl <;> omega
  have u2:t*T.1.2.2.2<=9007199254740992:=by rcases ht with rfl | rfl <;> omega
  refine⟨e0,?_⟩
  rw [w64_in (n:=t*T.1.1) (by omega) (by omega),w64_in (n:=t*T.1.2.1) (by omega) (by omega),w64_in (n:=t*T.1.2.2.1) (by omega) (by omega),w64_in (n:=t*T.1.2.2.2) (by omega) (by omega),w64_in (n:=t*T.1.2.1 - t*T.1.1) (by omega) (by omega)] at h0 ⊢
  have hf:=fade_in (lo:=t*T.1.2.2.1) (hi:=t*T.1.2.2.2) l2 b1 b2
  generalize fadeE (t*T.1.2.2.1) (t*T.1.2.2.2)=F at *
  have fin:∀ z:Bl,Zq.In z (dirZ (trnA σ.p σ.d x.2.1 p.w t))->F.2.2=0->(two timesE (realS F.2.2 F.1 F.2.1).2 z (realS F.2.2 F.1 F.2.1).1).2=0 ->
    Zq.In (two timesE (realS F.2.2 F.1 F.2.1).2 z (realS F.2.2 F.1 F.2.1).1).1 ((dirZ (trnA σ.p σ.d x.2.1 p.w t)).mul (Zq.real (minU (trnA σ.q σ.d x.2.1 p.w t).toNat) 1048576 (by decide))):=by
   intro z hz hF hv
   obtain⟨f1,f2⟩:=hf hF
   obtain⟨v1,v2,v3⟩:=two_ok hv
   rw [v2]
   obtain⟨r1,r2,r3⟩:=realS_ok v1
   rw [r2] at v3 ⊢
   exact in_times hz (in_range (by decide) (by omega) (by omega) r3) v3
  by_cases c2:t*T.1.2.1 - t*T.1.1 < 1048576
  ·rw [if_pos c2,bnd_eq] at h0 ⊢
   by_cases c3:(arcE (t*T.1.1) (t*T.1.2.1)).2=0
   ·rw [if_pos c3,bndF_eq] at h0 ⊢
    by_cases c4:F.2.2=0
    ·rw [if_pos c4,bnd_eq,bnd_eq] at h0 ⊢
     simp only at h0 ⊢
     exact fin _ (arc_in a1 a2 c2 c3) c4 h0
    ·rw [if_neg c4] at h0;exact absurd h0 c4
   ·rw [if_neg c3] at h0;exact absurd h0 c3
  ·rw [if_neg c2,if_pos c,bndF_eq] at h0 ⊢
   by_cases c4:F.2.2=0
   ·rw [if_pos c4,bnd_eq,bnd_eq] at h0 ⊢
    simp only at h0 ⊢
    exact fin _ (blc_in _) c4 h0
   ·rw [if_neg c4] at h0;exact absurd h0 c4
 ·rw [if_neg c] at h0;exact absurd h0 c
structure MZ where
 a:Zq
 b:Zq
 c:Zq
 d:Zq
structure MZ.In (m:Mt)(z:MZ):Prop where
 a:Zq.In m.1 z.a
 b:Zq.In m.2.1 z.b
 c:Zq.In m.2.2.1 z.c
 d:Zq.In m.2.2.2 z.d
theorem iplus {a b:Bl}{z w:Zq}{v:Bl × Int}(hv:plusE a b=v)(h:v.2=0)(ha:Zq.In a z)(hb:Zq.In b w):Zq.In v.1 (z.add w):=by subst hv;exact in_plus ha hb h
theorem iminus {a b:Bl}{z w:Zq}{v:Bl × Int}(hv:minusE a b=v)(h:v.2=0)(ha:Zq.In a z)(hb:Zq.In b w):Zq.In v.1 (z.sub w):=by subst hv;exact in_minus ha hb h
theorem itimes {a b:Bl}{z w:Zq}{v:Bl × Int}(hv:timesE a b=v)(h:v.2=0)(ha:Zq.In a z)(hb:Zq.In b w):Zq.In v.1 (z.mul w):=by subst hv;exact in_times ha hb h
theorem iquo {a b:Bl}{z w:Zq}{v:Bl × Int}(hv:quoE a b=v)(h:v.2=0)(ha:Zq.In a z)(hb:Zq.In b w):Zq.In v.1 (z.quo w):=by subst hv;exact in_quo ha hb h
def oneZ:Zq:=Zq.real 1 1 (by decide)
def nilZ:Zq:=Zq.real 0 1 (by decide)
def halfZ:Zq:=Zq.real 1 2 (by decide)
theorem one_in:Zq.In Bl1 oneZ:=in_con con_one
theorem nil_in:Zq.In Bl0 nilZ:=in_con con_none
def matZ (y g:Zq):MZ:=⟨(oneZ.add g).mul halfZ,((oneZ.sub g).mul halfZ).quo y,((oneZ.sub g).mul halfZ).mul y,(oneZ.add g).mul halfZ⟩
theorem mat_in {e:Int}{y g:Bl}{zy zg:Zq}(hy:e=0->Zq.In y zy)(hg:e=0->Zq.In g zg)(h:(matE e y g).2=0):e=0/\MZ.In (matE e y g).1 (matZ zy zg):=by
 unfold matE at *
 rw [bnd_eq,bnd_eq,bnd_eq,bnd_eq,bnd_eq,bnd_eq,bnd_eq] at h ⊢
 simp only at h ⊢
 generalize hh:fracS e 1 2=h1 at *
 generalize ha:two plusE h1.2 Bl1 g=a at *
 generalize hu:two timesE a.2 a.1 h1.1=u at *
 generalize hb:two minusE u.2 Bl1 g=b at *
 generalize hc:two timesE b.2 b.1 h1.1=c at *
 generalize hv:two quoE c.2 c.1 y=v at *
 generalize hw:two timesE v.2 c.1 y=w at *
 obtain⟨ev,w1⟩:=two_v hw h
 obtain⟨ec,v1⟩:=two_v hv ev
 obtain⟨eb,c1⟩:=two_v hc ec
 obtain⟨eu,b1⟩:=two_v hb eb
 obtain⟨ea,u1⟩:=two_v hu eu
 obtain⟨eh,a1⟩:=two_v ha ea
 have k0:e=0/\Zq.In h1.1 halfZ:=by
  subst hh
  obtain⟨e0,h2,h3⟩:=fracS_ok eh
  rw [h2]
  exact⟨e0,in_frac h3 (by decide)⟩
 have hy:=hy k0.1
 have hg:=hg k0.1
 have ka:=iplus a1 ea one_in hg
 have ku:=itimes u1 eu ka k0.2
 have kb:=iminus b1 eb one_in hg
 have kc:=itimes c1 ec kb k0.2
 exact⟨k0.1,ku,iquo v1 ev kc hy,itimes w1 h kc hy,ku⟩
def mulZ (p m:MZ):MZ:=⟨(p.a.mul m.a).add (p.b.mul m.c),(p.a.mul m.b).add (p.b.mul m.d),(p.c.mul m.a).add (p.d.mul m.c),(p.c.mul m.b).add (p.d.mul m.d)⟩
theorem mul_in {e:Int}{p m:Mt}{zp zm:MZ}(hp:e=0->MZ.In p zp)(hm:e=0->MZ.In m zm)(h:(mulE e p m).2=0):e=0/\MZ.In (mulE e p m).1 (mulZ zp zm):=by
 unfold mulE at *
 rw [bnd_eq,bnd_eq,bnd_eq,bnd_eq,bnd_eq,bnd_eq,bnd_eq,bnd_eq,bnd_eq,bnd_eq,bnd_eq,bnd_eq] at h ⊢
 simp only at h ⊢
 generalize ha1:two timesE e p.1 m.1=a1 at *
 generalize ha2:two timesE a1.2 p.2.1 m.2.2.1=a2 at *
 generalize ha:two plusE a2.2 a1.1 a2.1=a at *
 generalize hb1:two timesE a.2 p.1 m.2.1=b1 at *
 generalize hb2:two timesE b1.2 p.2.1 m.2.2.2=b2 at *
 generalize hb:two plusE b2.2 b1.1 b2.1=b at *
 generalize hc1:two timesE b.2 p.2.2.1 m.1=c1 at *
 generalize hc2:two timesE c1.2 p.2.2.2 m.2.2.1=c2 at *
 generalize hc:two plusE c2.2 c1.1 c2.1=c at *
 generalize hd1:two timesE c.2 p.2.2.1 m.2.1=d1 at *
 generalize hd2:two timesE d1.2 p.2.2.2 m.2.2.2=d2 at *
 generalize hd:two plusE d2.2 d1.1 d2.1=d at *
 obtain⟨x1,y1⟩:=two_v hd h
 obtain⟨x2,y2⟩:=two_v hd2 x1
 obtain⟨x3,y3⟩:=two_v hd1 x2
 obtain⟨x4,y4⟩:=two_v hc x3
 obtain⟨x5,y5⟩:=two_v hc2 x4
 obtain⟨x6,y6⟩:=two_v hc1 x5
 obtain⟨x7,y7⟩:=two_v hb x6
 obtain⟨x8,y8⟩:=two_v hb2 x7
 obtain⟨x9,y9⟩:=two_v hb1 x8
 obtain⟨x10,y10⟩:=two_v ha x9
 obtain⟨x11,y11⟩:=two_v ha2 x10
 obtain⟨x12,y12⟩:=two_v ha1 x11
 have hp:=hp x12
 have hm:=hm x12
 exact⟨x12,iplus y10 x9 (itimes y12 x11 hp.a hm.a) (itimes y11 x10 hp.b hm.c),iplus y7 x6 (itimes y9 x8 hp.a hm.b) (itimes y8 x7 hp.b hm.d),
  iplus y4 x3 (itimes y6 x5 hp.c hm.a) (itimes y5 x4 hp.d hm.c),iplus y1 h (itimes y3 x2 hp.c hm.b) (itimes y2 x1 hp.d hm.d)⟩
end Go.AM.K

namespace Go.AM.K
open Go.AM
set_option linter.unusedVariables false
set_option linter.unusedSimpArgs false
noncomputable def sgZ (p:Pt)(n:Nat):Zq:=(normal_in p n).choose
theorem sg_at (p:Pt)(n:Nat):NrmAt p n (sgZ p n):=(normal_in p n).choose_spec
noncomputable def thrZ (p:Pt)(fs:Bool):List (Int × Int × Int)->Nat->MZ->Zq->MZ × Zq
 | [],_,m,a=>(m,a)
 | x::xs,n,m,a=>thrZ p fs xs (n+1) (mulZ m (matZ (admZ p n (sgZ p n)) (facZ p (sgZ p n) x 2))) (if fs=true then a.mul (facZ p (sgZ p n) x 1) else a)
theorem thr_stk {A:Ask}{fs:Bool}{rest:List L5}{n:Nat}{p:Mt}{a:Bl}{e:Int}(h:(thrE A fs rest n p a e).2=0):e=0:=by
 cases rest with
 | nil=>exact h
 | cons l ls=>
  rw [thrE_cons] at h
  by_cases c:e=0
  ·exact c
  ·rw [if_neg c] at h;exact h
theorem drop_split {β:Type}{L:List β}{i:Nat}{x:β}{r:List β}(h:L.drop i=x::r):L[i]?=some x/\L.drop (i+1)=r:=by
 have h1:=congrArg List.head? h
 rw [List.head?_drop] at h1
 have h2:=congrArg List.tail h
 rw [List.tail_drop] at h2
 exact⟨h1,h2⟩
theorem thr_in {A:Ask}{p:Pt}{fs:Bool}(h:AskAt A p):∀ (rest:List L5) (xs:List (Int × Int × Int)) (i:Nat) (m:Mt) (a:Bl) (e:Int) (zm:MZ) (za:Zq),A.ls.drop i=rest->p.ls.drop i=xs ->
  MZ.In m zm->Zq.In a za->(thrE A fs rest (i+1) m a e).2=0->e=0/\MZ.In (thrE A fs rest (i+1) m a e).1.1 (thrZ p fs xs (i+1) zm za).1/\Zq.In (thrE A fs rest (i+1) m a e).1.2 (thrZ p fs xs (i+1) zm za).2:=by
 intro rest
 induction rest with
 | nil=>
  intro xs i m a e zm za h1 h2 hm ha h0
  have hl:A.ls.length<=i:=List.drop_eq_nil_iff.1 h1
  have hx:xs=[]:=by rw [<- h2];exact List.drop_eq_nil_of_le (by have:=(ls_at h.ls).1;omega)
  subst hx
  exact⟨h0,hm,ha⟩
 | cons l rs ih=>
  intro xs i m a e zm za h1 h2 hm ha h0
  obtain⟨hl,h1'⟩:=drop_split h1
  have hlt:i < A.ls.length:=(List.getElem?_eq_some_iff.1 hl).1
  have hlen:=(ls_at h.ls).1
  cases xs with
  | nil=>have:=List.drop_eq_nil_iff.1 h2;omega
  | cons x xs=>
   obtain⟨hx,h2'⟩:=drop_split h2
   have e0:=thr_stk h0
   subst e0
   rw [thrE_cons,if_pos rfl,bnd_eq,bnd_eq] at h0 ⊢
   have hA:=adm_in (n:=i+1) (e:=0) (sg_at p (i+1)) h
   generalize admE A (i+1) 0=y at *
   have hG:=fac_in (t:=2) (e:=y.2) h hl hx (sg_at p (i+1)) (Or.inr rfl)
   generalize factorE A l (i+1) 2 y.2=g at *
   show (0:Int)=0/\MZ.In _ (thrZ p fs xs (i+1+1) _ _).1/\Zq.In _ (thrZ p fs xs (i+1+1) _ _).2
   refine⟨rfl,?_⟩
   have fin:∀ (e':Int) (b:Bl) (zb:Zq),(e'=0->g.2=0/\Zq.In b zb)->(thrE A fs rs (i+1+1) (mulE (matE e' y.1 g.1).2 m (matE e' y.1 g.1).1).1 b (mulE (matE e' y.1 g.1).2 m (matE e' y.1 g.1).1).2).2=0 ->
     MZ.In (thrE A fs rs (i+1+1) (mulE (matE e' y.1 g.1).2 m (matE e' y.1 g.1).1).1 b (mulE (matE e' y.1 g.1).2 m (matE e' y.1 g.1).1).2).1.1 (thrZ p fs xs (i+1+1) (mulZ zm (matZ (admZ p (i+1) (sgZ p (i+1))) (facZ p (sgZ p (i+1)) x 2))) zb).1 /\
     Zq.In (thrE A fs rs (i+1+1) (mulE (matE e' y.1 g.1).2 m (matE e' y.1 g.1).1).1 b (mulE (matE e' y.1 g.1).2 m (matE e' y.1 g.1).1).2).1.2 (thrZ p fs xs (i+1+1) (mulZ zm (matZ (admZ p (i+1) (sgZ p (i+1))) (facZ p (sgZ p (i+1)) x 2))) zb).2:=by
    intro e' b zb hb hv
    have q0:=thr_stk hv
    have hM:=mat_in (e:=e') (y:=y.1) (g:=g.1) (zy:=admZ p (i+1) (sgZ p (i+1))) (zg:=facZ p (sgZ p (i+1)) x 2) (fun e1=>(hA ((hG (hb e1).1).1)).2) (fun e1=>(hG (hb e1).1).2)
    have hU:=mul_in (e:=(matE e' y.1 g.1).2) (p:=m) (m:=(matE e' y.1 g.1).1) (zp:=zm) (fun _=>hm) (fun e1=>(hM e1).2) q0
    have hE:=(hM hU.1).1
    exact (ih xs (i+1) _ b _ _ zb h1' h2' hU.2 (hb hE).2 hv).2
   cases fs with
   | true=>
    rw [if_pos rfl,bnd_eq,bnd_eq,bndM_eq,bndM_eq] at h0 ⊢
    rw [if_pos rfl]
    have hH:=fac_in (t:=1) (e:=g.2) h hl hx (sg_at p (i+1)) (Or.inl rfl)
    generalize factorE A l (i+1) 1 g.2=f at *
    refine fin (two timesE f.2 a f.1).2 _ _ (fun e1=>?_) h0
    obtain⟨v1,v2,v3⟩:=two_ok e1
    obtain⟨f1,f2⟩:=hH v1
    rw [v2]
    exact⟨f1,in_times ha f2 v3⟩
   | false=>
    rw [if_neg (by decide),bndM_eq,bndM_eq] at h0 ⊢
    rw [if_neg (by decide)]
    exact fin g.2 a za (fun e1=>⟨e1,ha⟩) h0
noncomputable def allZ (p:Pt)(fs:Bool):MZ × Zq:=thrZ p fs p.ls 1 ⟨oneZ,nilZ,nilZ,oneZ⟩ oneZ
theorem all_in {A:Ask}{p:Pt}{fs:Bool}(h:AskAt A p){e:Int}(h0:(throughE A fs e).2=0):e=0/\MZ.In (throughE A fs e).1.1 (allZ p fs).1/\Zq.In (throughE A fs e).1.2 (allZ p fs).2:=
 thr_in h A.ls p.ls 0 _ _ e _ _ rfl rfl ⟨one_in,nil_in,nil_in,one_in⟩ one_in h0
noncomputable def adZ (p:Pt)(n:Nat):Zq:=admZ p n (sgZ p n)
noncomputable def ampZ (p:Pt)(tr:Bool):Zq:=
 let a:=(adZ p 0).mul ((allZ p tr).1.a.add ((allZ p tr).1.b.mul (adZ p (p.ls.length+1))))
 let c:=(allZ p tr).1.c.add ((allZ p tr).1.d.mul (adZ p (p.ls.length+1)))
 if tr=true then (((adZ p 0).add (adZ p 0)).mul (allZ p tr).2).quo (a.add c) else (a.sub c).quo (a.add c)
theorem amp_in {A:Ask}{p:Pt}{tr:Bool}(hA:AskAt A p){e:Int}(h:(ampE A tr e).2=0):e=0/\Zq.In (ampE A tr e).1 (ampZ p tr):=by
 unfold ampE ampZ at *
 have hlen:=(ls_at hA.ls).1
 rw [bnd_eq,bndT_eq,bnd_eq,bnd_eq,bnd_eq,bnd_eq,bnd_eq,bnd_eq,bnd_eq] at h ⊢
 simp only at h ⊢
 rw [<- hlen]
 have kf:=adm_in (n:=0) (e:=e) (sg_at p 0) hA
 generalize admE A 0 e=f at *
 have kt:=all_in (fs:=tr) (e:=f.2) hA
 generalize throughE A tr f.2=t at *
 have kl:=adm_in (n:=A.ls.length+1) (e:=t.2) (sg_at p (A.ls.length+1)) hA
 generalize admE A (A.ls.length+1) t.2=l at *
 generalize h1:two timesE l.2 t.1.1.2.1 l.1=t1 at *
 generalize h2:two plusE t1.2 t.1.1.1 t1.1=b at *
 generalize h3:two timesE b.2 t.1.1.2.2.2 l.1=t2 at *
 generalize h4:two plusE t2.2 t.1.1.2.2.1 t2.1=c at *
 generalize h5:two timesE c.2 f.1 b.1=a at *
 generalize h6:two plusE a.2 a.1 c.1=d at *
 have pre:d.2=0->e=0/\Zq.In f.1 (adZ p 0)/\Zq.In t.1.2 (allZ p tr).2/\Zq.In a.1 ((adZ p 0).mul ((allZ p tr).1.a.add ((allZ p tr).1.b.mul (adZ p (A.ls.length+1)))))/\Zq.In c.1 ((allZ p tr).1.c.add ((allZ p tr).1.d.mul (adZ p (A.ls.length+1)))) /\
   Zq.In d.1 (((adZ p 0).mul ((allZ p tr).1.a.add ((allZ p tr).1.b.mul (adZ p (A.ls.length+1))))).add ((allZ p tr).1.c.add ((allZ p tr).1.d.mul (adZ p (A.ls.length+1))))):=by
  intro x7
  obtain⟨x6,y6⟩:=two_v h6 x7
  obtain⟨x5,y5⟩:=two_v h5 x6
  obtain⟨x4,y4⟩:=two_v h4 x5
  obtain⟨x3,y3⟩:=two_v h3 x4
  obtain⟨x2,y2⟩:=two_v h2 x3
  obtain⟨x1,y1⟩:=two_v h1 x2
  obtain⟨xt,cl⟩:=kl x1
  obtain⟨xf,cm,cg⟩:=kt xt
  obtain⟨x0,cf⟩:=kf xf
  have kb:=iplus y2 x3 cm.a (itimes y1 x2 cm.b cl)
  have kc:=iplus y4 x5 cm.c (itimes y3 x4 cm.d cl)
  have ka:=itimes y5 x6 cf kb
  exact⟨x0,cf,cg,ka,kc,iplus y6 x7 ka kc⟩
 cases tr with
 | true=>
  rw [if_pos rfl,bnd_eq,bnd_eq,bnd_eq] at h ⊢
  rw [if_pos rfl]
  simp only at h ⊢
  generalize h7:two plusE d.2 f.1 f.1=s at *
  generalize h8:two timesE s.2 s.1 t.1.2=z at *
  generalize h9:two quoE z.2 z.1 d.1=v at *
  obtain⟨x9,y9⟩:=two_v h9 h
  obtain⟨x8,y8⟩:=two_v h8 x9
  obtain⟨x7,y7⟩:=two_v h7 x8
  obtain⟨x0,cf,cg,_,_,cd⟩:=pre x7
  exact⟨x0,iquo y9 h (itimes y8 x9 (iplus y7 x8 cf cf) cg) cd⟩
 | false=>
  rw [if_neg (by decide),bnd_eq,bnd_eq] at h ⊢
  rw [if_neg (by decide)]
  simp only at h ⊢
  generalize h7:two minusE d.2 a.1 c.1=z at *
  generalize h8:two quoE z.2 z.1 d.1=v at *
  obtain⟨x8,y8⟩:=two_v h8 h
  obtain⟨x7,y7⟩:=two_v h7 x8
  obtain⟨x0,_,_,ca,cc,cd⟩:=pre x7
  exact⟨x0,iquo y8 h (iminus y7 x8 ca cc) cd⟩
structure Vl where
 n:Int
 d:Int
 h:0 < d
def Vl.In (v:Vl)(lo hi:Int):Prop:=v.d*lo<=v.n/\v.n<=v.d*hi
def zV:Vl:=⟨0,1,by decide⟩
def cutV (v:Vl):Vl:=if v.d*1048576 < v.n then ⟨1048576,1,by decide⟩ else v
def rstV (v w:Vl):Vl:=⟨pos (1048576*(v.d*w.d) - v.n*w.d - w.n*v.d),v.d*w.d,Int.mul_pos v.h w.h⟩
theorem z_in:Vl.In zV 0 0:=⟨by decide,by decide⟩
theorem cut_in {v:Vl}{lo hi:Int}(h:v.In lo hi):(cutV v).In (cut1 lo) (cut1 hi):=by
 obtain⟨h1,h2⟩:=h
 have hd:=v.h
 unfold cutV
 by_cases c:v.d*1048576 < v.n
 ·rw [if_pos c]
  have hh:1048576 < hi:=by
   by_cases c2:1048576 < hi
   ·exact c2
   ·have:=Int.mul_le_mul_of_nonneg_left (show hi<=1048576 by omega) (Int.le_of_lt hd)
    omega
  unfold Vl.In cut1
  rw [if_pos hh]
  simp only
  split <;> omega
 ·rw [if_neg c]
  unfold Vl.In cut1
  constructor
  ·split
   ·rename_i hl
    have:=Int.mul_le_mul_of_nonneg_left (show (1048576:Int)<=lo by omega) (Int.le_of_lt hd)
    omega
   ·exact h1
  ·split
   ·omega
   ·exact h2
theorem rst_in {v w:Vl}{a b c d:Int}(ha:unitI a)(hb:unitI b)(hc:unitI c)(hd:unitI d)(h1:v.In a b)(h2:w.In c d):(rstV v w).In (rstE b d) (rstE a c):=by
 obtain⟨p1,p2⟩:=h1
 obtain⟨q1,q2⟩:=h2
 have hv:=v.h
 have hw:=w.h
 unfold unitI at *
 unfold rstV rstE Vl.In
 rw [w64_in (n:=1048576 - b) (by omega) (by omega),w64_in (n:=1048576 - b - d) (by omega) (by omega),w64_in (n:=1048576 - a) (by omega) (by omega),w64_in (n:=1048576 - a - c) (by omega) (by omega)]
 simp only
 have e1:v.d*w.d*(1048576 - b - d)=1048576*(v.d*w.d) - w.d*(v.d*b) - v.d*(w.d*d):=by grind
 have e2:v.d*w.d*(1048576 - a - c)=1048576*(v.d*w.d) - w.d*(v.d*a) - v.d*(w.d*c):=by grind
 have i1:=Int.mul_le_mul_of_nonneg_left p1 (Int.le_of_lt hw)
 have i2:=Int.mul_le_mul_of_nonneg_left p2 (Int.le_of_lt hw)
 have i3:=Int.mul_le_mul_of_nonneg_left q1 (Int.le_of_lt hv)
 have i4:=Int.mul_le_mul_of_nonneg_left q2 (Int.le_of_lt hv)
 have e3:w.d*v.n=v.n*w.d:=Int.mul_comm ..
 have e4:v.d*w.n=w.n*v.d:=Int.mul_comm ..
 have hD:=Int.mul_pos hv hw
 have lo1:v.d*w.d*(1048576 - b - d)<=1048576*(v.d*w.d) - v.n*w.d - w.n*v.d:=by omega
 have hi1:1048576*(v.d*w.d) - v.n*w.d - w.n*v.d<=v.d*w.d*(1048576 - a - c):=by omega
 generalize 1048576*(v.d*w.d) - v.n*w.d - w.n*v.d=N at *
 generalize v.d*w.d=D at *
 generalize 1048576 - b - d=x at *
 generalize 1048576 - a - c=y at *
 unfold pos
 constructor
 ·by_cases c1:x > 0
  ·have:=Int.mul_pos hD c1
   rw [if_pos c1,if_pos (by omega)];exact lo1
  ·rw [if_neg c1,Int.mul_zero];split <;> omega
 ·by_cases c1:N > 0
  ·have hy:y > 0:=by
    by_cases c2:y > 0
    ·exact c2
    ·have:=Int.mul_nonneg (Int.le_of_lt hD) (show 0<=-y by omega)
     rw [Int.mul_neg] at this
     omega
   rw [if_pos c1,if_pos hy];exact hi1
  ·rw [if_neg c1]
   split
   ·exact Int.mul_nonneg (Int.le_of_lt hD) (by omega)
   ·omega
def lsyZ (p:Pt):Nat->Nat->Bool
 | 0,_=>false
 | m+1,n=>if (medZ p n).2=0 then lsyZ p m (n+1) else true
theorem lsy_at {A:Ask}{p:Pt}(h:AskAt A p):∀ m n:Nat,lsy A m n=lsyZ p m n:=by
 intro m
 induction m with
 | zero=>intro n;rfl
 | succ m ih=>
  intro n
  unfold lsy lsyZ
  obtain⟨_,_,e,_⟩:=med_at h n
  rw [e,ih]
noncomputable def vR (p:Pt):Vl:=cutV ⟨(ampZ p false).nrm*1048576,(ampZ p false).d*(ampZ p false).d,Int.mul_pos (ampZ p false).h (ampZ p false).h⟩
noncomputable def vT (p:Pt):Vl:=if h:0 < (adZ p 0).p then
  cutV ⟨pos (adZ p (p.ls.length+1)).p*(ampZ p true).nrm*(adZ p 0).d*1048576,(adZ p (p.ls.length+1)).d*((ampZ p true).d*(ampZ p true).d)*(adZ p 0).p,Int.mul_pos (Int.mul_pos (adZ p (p.ls.length+1)).h (Int.mul_pos (ampZ p true).h (ampZ p true).h)) h⟩
 else zV
noncomputable def vA (p:Pt):Vl:=if lsyZ p (p.ls.length+2) 0=true then rstV (vR p) (vT p) else zV
theorem trans_in {ul uh fl fh tl th lp ld tn td fp fd:Int}(hld:0 < ld)(htd:0 < td)(hfd:0 < fd)(hfp:0 < fp)(htn:0<=tn)
  (u1:ld*ul<=lp*1048576) (u2:lp*1048576<=ld*uh) (hul:ul<=134217728) (huh:uh<=134217728)
  (f1:fd*fl<=fp*1048576) (f2:fp*1048576<=fd*fh) (hfl:0 < fl) (hflh:fl<=fh) (hfh:fh<=134217728)
  (t0:0<=tl) (t00:0<=th) (t1:td*tl<=tn*1048576) (t2:tn*1048576<=td*th) (htl:tl<=34359738368) (hth:th<=34359738368) :
  (Vl.mk (pos lp*tn*fd*1048576) (ld*td*fp) (Int.mul_pos (Int.mul_pos hld htd) hfp)).In (dnI (w64 (pos ul*tl)) fh) (upI (w64 (pos uh*th)) fl):=by
 have pa:=pos_bd hul
 have pb:=pos_bd huh
 have px:=pos_nn lp
 have q1:=pos_lo hld u1
 have q2:=pos_hi hld u2
 generalize pos ul=a at *
 generalize pos uh=b at *
 generalize pos lp=x at *
 have mA:=mulB pa.1 pa.2 t0 htl
 have mB:=mulB pb.1 pb.2 t00 hth
 rw [w64_in (n:=a*tl) (by omega) (by omega),w64_in (n:=b*th) (by omega) (by omega),dnI_eq (by omega) (by omega) (by omega),upI_eq (by omega) (by omega) (by omega) (by omega)]
 have l1:a*tl / fh*fh<=a*tl:=Int.ediv_mul_le _ (by omega)
 have l2:0<=a*tl / fh:=Int.ediv_nonneg mA.1 (by omega)
 have h1:b*th<=(b*th+fl - 1) / fl*fl:=by
  have e:=Int.emod_add_mul_ediv (b*th+fl - 1) fl
  have e2:=Int.emod_lt_of_pos (b*th+fl - 1) hfl
  rw [Int.mul_comm fl] at e
  omega
 have h2:0<=(b*th+fl - 1) / fl:=Int.ediv_nonneg (by omega) (by omega)
 generalize a*tl / fh=y at *
 generalize (b*th+fl - 1) / fl=z at *
 unfold Vl.In
 simp only
 have hlt:=Int.mul_pos hld htd
 constructor
 ·-- y fp 2^20<=y fd fh<=fd a tl
  have i1:=Int.mul_le_mul_of_nonneg_left f2 l2
  have i2:=Int.mul_le_mul_of_nonneg_left l1 (Int.le_of_lt hfd)
  have i3:y*(fp*1048576)<=fd*(a*tl):=by
   have e1:y*(fd*fh)=fd*(y*fh):=by grind
   omega
  have i4:(ld*a)*(td*tl)<=(x*1048576)*(tn*1048576):=Int.mul_le_mul q1 t1 (Int.mul_nonneg (Int.le_of_lt htd) t0) (by omega)
  have i5:=Int.mul_le_mul_of_nonneg_left i3 (Int.le_of_lt hlt)
  have i6:=Int.mul_le_mul_of_nonneg_left i4 (Int.le_of_lt hfd)
  have e1:ld*td*(y*(fp*1048576))=(ld*td*fp*y)*1048576:=by grind
  have e2:ld*td*(fd*(a*tl))=fd*((ld*a)*(td*tl)):=by grind
  have e3:fd*((x*1048576)*(tn*1048576))=(x*tn*fd*1048576)*1048576:=by grind
  omega
 ·have i1:=Int.mul_le_mul_of_nonneg_left f1 h2
  have i2:=Int.mul_le_mul_of_nonneg_left h1 (Int.le_of_lt hfd)
  have i3:fd*(b*th)<=z*(fp*1048576):=by
   have e1:z*(fd*fl)=fd*(z*fl):=by grind
   omega
  have i4:(x*1048576)*(tn*1048576)<=(ld*b)*(td*th):=Int.mul_le_mul q2 t2 (by omega) (Int.mul_nonneg (Int.le_of_lt hld) pb.1)
  have i5:=Int.mul_le_mul_of_nonneg_left i3 (Int.le_of_lt hlt)
  have i6:=Int.mul_le_mul_of_nonneg_left i4 (Int.le_of_lt hfd)
  have e1:ld*td*(z*(fp*1048576))=(ld*td*fp*z)*1048576:=by grind
  have e2:ld*td*(fd*(b*th))=fd*((ld*b)*(td*th)):=by grind
  have e3:fd*((x*1048576)*(tn*1048576))=(x*tn*fd*1048576)*1048576:=by grind
  omega
def InQ (p:Pt)(q:Q6):Prop:=(vR p).In q.1 q.2.1/\(vT p).In q.2.2.1 q.2.2.2.1/\(vA p).In q.2.2.2.2.1 q.2.2.2.2.2
theorem fin_in {A:Ask}{p:Pt}(hA:AskAt A p){st:Bool}{a b c d:Int}(ha:unitI a)(hb:unitI b)(hc:unitI c)(hd:unitI d)(h1:(vR p).In a b)(h2:st=false->(vT p).In c d)(h3:st=true->(vT p).In 0 0):InQ p (finE A st a b c d).1:=by
 unfold InQ finE vA lossA
 have hlen:=(ls_at hA.ls).1
 rw [lsy_at hA,hlen]
 cases st with
 | true=>
  rw [if_pos rfl]
  by_cases c:lsyZ p (p.ls.length+2) 0=true
  ·rw [if_pos c,if_pos c]
   exact⟨h1,h3 rfl,rst_in ha hb u0 u0 h1 (h3 rfl)⟩
  ·rw [if_neg c,if_neg c]
   exact⟨h1,h3 rfl,z_in⟩
 | false=>
  rw [if_neg (by decide)]
  by_cases c:lsyZ p (p.ls.length+2) 0=true
  ·rw [if_pos c,if_pos c]
   exact⟨h1,h2 rfl,rst_in ha hb hc hd h1 (h2 rfl)⟩
  ·rw [if_neg c,if_neg c]
   exact⟨h1,h2 rfl,z_in⟩
theorem shares_in {A:Ask}{p:Pt}(hA:AskAt A p)(h:(sharesE A).2=0):InQ p (sharesE A).1:=by
 have hlen:=(ls_at hA.ls).1
 unfold sharesE at *
 rw [if_pos hA.ck,bnd_eq,bnd_eq,bnd_eq,bndP_eq,bnd_eq,bndP_eq,bndN_eq] at h ⊢
 have kr:=amp_in (tr:=false) (e:=0) hA
 generalize ampE A false 0=r at *
 have kt:=amp_in (tr:=true) (e:=r.2) hA
 generalize ampE A true r.2=t at *
 have kl:=adm_in (n:=A.ls.length+1) (e:=t.2) (sg_at p (A.ls.length+1)) hA
 generalize admE A (A.ls.length+1) t.2=l at *
 have pl:=prt_bd l.2 l.1
 have kpl:=fun h=>(prtE_ok (e:=l.2) (a:=l.1) h)
 generalize prtE l.2 l.1=ul at *
 have kf:=adm_in (n:=0) (e:=ul.2) (sg_at p 0) hA
 generalize admE A 0 ul.2=f at *
 have pf:=prt_bd f.2 f.1
 have po:=prt_o f.2 f.1
 have kpf:=fun h=>(prtE_ok (e:=f.2) (a:=f.1) h)
 generalize prtE f.2 f.1=fr at *
 have kn:=(sg_at p (A.ls.length+1)).i A fr.2 hA
 generalize normalE A (A.ls.length+1) fr.2=n at *
 by_cases c7:n.2.2=0
 ·rw [if_pos c7] at h ⊢
  by_cases cf:fr.1.1<=0
  ·rw [if_pos cf] at h;exact absurd h (by decide)
  ·rw [if_neg cf,bndF_eq] at h ⊢
   rw [if_pos (show (engE r.1).2.2=0 from rfl),bndF_eq,if_pos (show (engE t.1).2.2=0 from rfl)] at h ⊢
   obtain⟨x6,_,n1,n2⟩:=kn c7
   obtain⟨x5,ef⟩:=kpf x6
   obtain⟨x4,inf⟩:=kf x5
   obtain⟨x3,el⟩:=kpl x4
   obtain⟨x2,inl⟩:=kl x3
   obtain⟨x1,int⟩:=kt x2
   obtain⟨_,inr⟩:=kr x1
   have er:=eng_bd r.1
   have et:=eng_bd t.1
   have p1:=pos_bd pl.1.2
   have p2:=pos_bd pl.2.2
   have e0:=eng_o r.1
   obtain⟨⟨f1,f2⟩,_⟩:=in_parts inf
   obtain⟨⟨l1,l2⟩,_⟩:=in_parts inl
   have hfr1:fr.1.1=f.1.lo1:=by rw [ef]
   have hfr2:fr.1.2.1=f.1.hi1:=by rw [ef]
   have hul1:ul.1.1=l.1.lo1:=by rw [el]
   have hul2:ul.1.2.1=l.1.hi1:=by rw [el]
   rw [<- hfr1] at f1
   rw [<- hfr2] at f2
   rw [<- hul1] at l1
   rw [<- hul2] at l2
   have hfd:=(admZ p 0 (sgZ p 0)).h
   have hfp:0 < (adZ p 0).p:=by
    have:=Int.mul_pos hfd (show 0 < fr.1.1 by omega)
    show 0 < (admZ p 0 (sgZ p 0)).p
    omega
   obtain⟨r1,r2⟩:=in_eng inr
   obtain⟨t1,t2⟩:=in_eng int
   refine fin_in hA (cut_u er.1.1) (cut_u er.2.1) (cut_u (dn_nn p1.1 p1.2 et.1.1 (by omega) (by omega))) (cut_u (up_nn p2.1 p2.2 et.2.1 et.2.2 (by omega) pf.1.2)) ?_ ?_ ?_
   ·exact cut_in ⟨r1,r2⟩
   ·intro _
    unfold vT
    rw [dif_pos hfp]
    refine cut_in ?_
    rw [hlen] at l1 l2
    exact trans_in (adZ p (p.ls.length+1)).h (Int.mul_pos (ampZ p true).h (ampZ p true).h) (adZ p 0).h hfp (ampZ p true).nrm_nn l1 l2 pl.1.2 pl.2.2 f1 f2 (by omega) po pf.2.2 et.1.1 et.2.1 t1 t2 (by omega) et.2.2
   ·intro hs
    have hk0:(medZ p (A.ls.length+1)).2=0:=by
     by_cases c:(medZ p (A.ls.length+1)).2=0
     ·exact c
     ·have:=n2 c
      rw [hs] at this
      cases this
    have hp:=(n1 hk0).1 hs
    have hz:(adZ p (p.ls.length+1)).p=0:=by rw [<- hlen];exact adm_stop hk0 hp
    unfold vT
    rw [dif_pos hfp]
    have hc:∀ (v:Vl),v.n=0->(cutV v).In 0 0:=by
     intro v hv
     have:=v.h
     unfold cutV
     rw [if_neg (by omega)]
     unfold Vl.In
     omega
    refine hc _ ?_
    show pos (adZ p (p.ls.length+1)).p*_*_*_=(0:Int)
    rw [hz,show pos 0=0 from rfl,Int.zero_mul,Int.zero_mul,Int.zero_mul]
 ·rw [if_neg c7] at h;exact absurd h c7
end Go.AM.K

namespace Go.AM.K
open Go.AM
set_option linter.unusedVariables false
set_option linter.unusedSimpArgs false
noncomputable def valZ (p:Pt)(sh:Int):Vl:=if sh=2 then vA p else if sh=1 then vT p else vR p
theorem sel_in {p:Pt}{q:Q6}{sh:Int}(h:InQ p q):(valZ p sh).In (selE sh q).1 (selE sh q).2:=by
 obtain⟨h1,h2,h3⟩:=h
 unfold selE valZ
 by_cases c2:sh=2
 ·rw [if_pos c2,if_pos c2];exact h3
 ·rw [if_neg c2,if_neg c2]
  by_cases c1:sh=1
  ·rw [if_pos c1,if_pos c1];exact h2
  ·rw [if_neg c1,if_neg c1];exact h1
theorem sel_u {q:Q6}{sh:Int}(h:Unit6 q):unitI (selE sh q).1/\unitI (selE sh q).2:=by
 obtain⟨h1,h2,h3,h4,h5,h6⟩:=h
 unfold selE
 split
 ·exact⟨h5,h6⟩
 ·split
  ·exact⟨h3,h4⟩
  ·exact⟨h1,h2⟩
structure DmAt (d:Dm)(ls:List L5)(oi ol:Int)(p:Pt):Prop where
 ix:d.ix=p.ix
 s:d.s1<=p.s/\p.s<=d.s2
 pol:d.pol=p.pol
 w:d.w1<=p.w/\p.w<=d.w2
 ls:LsAt ls p.ls
 oi:oi=p.oi
 ol:ol=p.ol
theorem dsh_in {d:Dm}{ls:List L5}{oi ol:Int}{p:Pt}(h:DmAt d ls oi ol p)(h0:(dshE d ls oi ol).2=0) :
  (valZ p d.sh).In (dshE d ls oi ol).1.1 (dshE d ls oi ol).1.2/\unitI (dshE d ls oi ol).1.1/\unitI (dshE d ls oi ol).1.2:=by
 unfold dshE at *
 by_cases c:(sharesE (askD d ls oi ol)).2=0
 ·rw [if_pos c]
  have hck:ckA (askD d ls oi ol)=0:=by
   by_cases c2:ckA (askD d ls oi ol)=0
   ·exact c2
   ·unfold sharesE at c
    rw [if_neg c2] at c
    exact absurd c c2
  have hA:AskAt (askD d ls oi ol) p:=⟨h.ix,h.s,h.pol,h.w,h.ls,h.oi,h.ol,hck⟩
  exact⟨sel_in (shares_in hA c),sel_u (shares_u _)⟩
 ·rw [if_neg c] at h0;exact absurd h0 c
def okD (d:Dm):Prop:=(0<=d.lo/\d.lo<=10000)/\0<=d.hi/\d.hi<=10000
theorem ans_yes {d:Dm}{ls:List L5}{oi ol:Int}{p:Pt}(hb:okD d)(h:DmAt d ls oi ol p)(h0:ansE d ls oi ol=2) :
  (valZ p d.sh).d*(d.lo*1048576)<=(valZ p d.sh).n*10000/\(valZ p d.sh).n*10000<=(valZ p d.sh).d*(d.hi*1048576):=by
 unfold okD at hb
 unfold ansE at h0
 have hd:=dsh_in h
 generalize dshE d ls oi ol=u at *
 by_cases c:u.2=0
 ·rw [if_pos c] at h0
  obtain⟨⟨v1,v2⟩,u1,u2⟩:=hd c
  unfold unitI at u1 u2
  rw [w64_in (n:=d.lo*1048576) (by omega) (by omega),w64_in (n:=u.1.1*10000) (by omega) (by omega),w64_in (n:=u.1.2*10000) (by omega) (by omega),w64_in (n:=d.hi*1048576) (by omega) (by omega)] at h0
  by_cases c1:d.lo*1048576<=u.1.1*10000/\u.1.2*10000<=d.hi*1048576
  ·have hv:=(valZ p d.sh).h
   generalize valZ p d.sh=v at *
   have a1:=Int.mul_le_mul_of_nonneg_left c1.1 (Int.le_of_lt hv)
   have a2:=Int.mul_le_mul_of_nonneg_left c1.2 (Int.le_of_lt hv)
   have e1:v.d*(u.1.1*10000)=v.d*u.1.1*10000:=by grind
   have e2:v.d*(u.1.2*10000)=v.d*u.1.2*10000:=by grind
   omega
  ·rw [if_neg c1] at h0
   split at h0
   ·exact absurd h0 (by decide)
   ·split at h0
    ·exact absurd h0 (by decide)
    ·exact absurd h0 (by decide)
 ·rw [if_neg c] at h0;exact absurd h0 (by decide)
theorem ans_no {d:Dm}{ls:List L5}{oi ol:Int}{p:Pt}(hb:okD d)(h:DmAt d ls oi ol p)(h0:ansE d ls oi ol=0) :
  (valZ p d.sh).n*10000 < (valZ p d.sh).d*(d.lo*1048576)\/(valZ p d.sh).d*(d.hi*1048576) < (valZ p d.sh).n*10000:=by
 unfold okD at hb
 unfold ansE at h0
 have hd:=dsh_in h
 generalize dshE d ls oi ol=u at *
 by_cases c:u.2=0
 ·rw [if_pos c] at h0
  obtain⟨⟨v1,v2⟩,u1,u2⟩:=hd c
  unfold unitI at u1 u2
  rw [w64_in (n:=d.lo*1048576) (by omega) (by omega),w64_in (n:=u.1.1*10000) (by omega) (by omega),w64_in (n:=u.1.2*10000) (by omega) (by omega),w64_in (n:=d.hi*1048576) (by omega) (by omega)] at h0
  have hv:=(valZ p d.sh).h
  generalize valZ p d.sh=v at *
  by_cases c1:d.lo*1048576<=u.1.1*10000/\u.1.2*10000<=d.hi*1048576
  ·rw [if_pos c1] at h0;exact absurd h0 (by decide)
  ·rw [if_neg c1] at h0
   by_cases c2:u.1.2*10000 < d.lo*1048576
   ·left
    have a1:=Int.mul_lt_mul_of_pos_left c2 hv
    have e1:v.d*(u.1.2*10000)=v.d*u.1.2*10000:=by grind
    omega
   ·rw [if_neg c2] at h0
    by_cases c3:d.hi*1048576 < u.1.1*10000
    ·right
     have a1:=Int.mul_lt_mul_of_pos_left c3 hv
     have e1:v.d*(u.1.1*10000)=v.d*u.1.1*10000:=by grind
     omega
    ·rw [if_neg c3] at h0;exact absurd h0 (by decide)
 ·rw [if_neg c] at h0;exact absurd h0 (by decide)
structure Pc where
 w1:Int
 w2:Int
 s1:Int
 s2:Int
def Pc.dm (x:Pc)(d:Dm):Dm:={ d with w1:=x.w1,w2:=x.w2,s1:=x.s1,s2:=x.s2 }
def midE (a b:Int):Int:=(a+b) / 2
def Pc.mid (x:Pc):Pc:=⟨midE x.w1 x.w2,midE x.w1 x.w2,midE x.s1 x.s2,midE x.s1 x.s2⟩
def hvP (a b:Int):Prop:=2<=b - a
instance {a b:Int}:Decidable (hvP a b):=by unfold hvP;exact inferInstance
def chE (x:Pc):Int:=if hvP x.w1 x.w2/\(¬ hvP x.s1 x.s2\/x.s2 - x.s1<=x.w2 - x.w1) then 1 else if hvP x.s1 x.s2 then 2 else 0
def Pc.cut (x:Pc)(c:Int):Pc × Pc:=if c=1 then ({ x with w2:=midE x.w1 x.w2 },{ x with w1:=midE x.w1 x.w2 }) else ({ x with s2:=midE x.s1 x.s2 },{ x with s1:=midE x.s1 x.s2 })
def vis (d:Dm)(ls:List L5)(oi ol:Int):Nat->Pc->Option (Int × Int) × Bool
 | 0,x=>if ansE (x.dm d) ls oi ol=2 then (none,false) else if ansE (x.mid.dm d) ls oi ol=0 then (some (midE x.w1 x.w2,midE x.s1 x.s2),false) else (none,true)
 | n+1,x=>if ansE (x.dm d) ls oi ol=2 then (none,false) else if ansE (x.mid.dm d) ls oi ol=0 then (some (midE x.w1 x.w2,midE x.s1 x.s2),false) else
  if chE x=0 then (none,true) else
   if (vis d ls oi ol n (x.cut (chE x)).1).1=none then ((vis d ls oi ol n (x.cut (chE x)).2).1,(vis d ls oi ol n (x.cut (chE x)).1).2 || (vis d ls oi ol n (x.cut (chE x)).2).2)
   else vis d ls oi ol n (x.cut (chE x)).1
def Pc.ok (x:Pc):Prop:=x.w1<=x.w2/\x.s1<=x.s2
def Pc.has (x:Pc)(w s:Int):Prop:=(x.w1<=w/\w<=x.w2)/\x.s1<=s/\s<=x.s2
theorem mid_in {a b:Int}(h:a<=b):a<=midE a b/\midE a b<=b:=by unfold midE;omega
theorem cut_has {x:Pc}{c w s:Int}(h:x.has w s):(x.cut c).1.has w s\/(x.cut c).2.has w s:=by
 unfold Pc.has at *
 unfold Pc.cut
 by_cases hc:c=1
 ·rw [if_pos hc]
  by_cases hw:w<=midE x.w1 x.w2
  ·left;simp only;omega
  ·right;simp only;omega
 ·rw [if_neg hc]
  by_cases hw:s<=midE x.s1 x.s2
  ·left;simp only;omega
  ·right;simp only;omega
theorem cut_ok {x:Pc}{c:Int}(h:x.ok):(x.cut c).1.ok/\(x.cut c).2.ok/\∀ w s,(x.cut c).1.has w s\/(x.cut c).2.has w s->x.has w s:=by
 unfold Pc.ok Pc.has at *
 have m1:=mid_in h.1
 have m2:=mid_in h.2
 unfold Pc.cut
 by_cases hc:c=1
 ·rw [if_pos hc]
  simp only
  refine⟨by omega,by omega,fun w s h=>by omega⟩
 ·rw [if_neg hc]
  simp only
  refine⟨by omega,by omega,fun w s h=>by omega⟩
theorem vis_yes {d:Dm}{ls:List L5}{oi ol:Int}:∀ (n:Nat) (x:Pc),vis d ls oi ol n x=(none,false)->∀ w s,x.has w s->∃ y:Pc,y.has w s/\ansE (y.dm d) ls oi ol=2:=by
 intro n
 induction n with
 | zero=>
  intro x h w s hx
  unfold vis at h
  by_cases c:ansE (x.dm d) ls oi ol=2
  ·exact⟨x,hx,c⟩
  ·rw [if_neg c] at h
   split at h
   ·exact absurd h (by simp)
   ·exact absurd h (by simp)
 | succ n ih=>
  intro x h w s hx
  unfold vis at h
  by_cases c:ansE (x.dm d) ls oi ol=2
  ·exact⟨x,hx,c⟩
  ·rw [if_neg c] at h
   by_cases c2:ansE (x.mid.dm d) ls oi ol=0
   ·rw [if_pos c2] at h;exact absurd h (by simp)
   ·rw [if_neg c2] at h
    by_cases c3:chE x=0
    ·rw [if_pos c3] at h;exact absurd h (by simp)
    ·rw [if_neg c3] at h
     by_cases c4:(vis d ls oi ol n (x.cut (chE x)).1).1=none
     ·rw [if_pos c4] at h
      obtain⟨h1,h2⟩:=Prod.mk.inj h
      obtain⟨h3,h4⟩:=Bool.or_eq_false_iff.1 h2
      rcases cut_has (c:=chE x) hx with hh | hh
      ·exact ih _ (Prod.ext c4 h3) w s hh
      ·exact ih _ (Prod.ext h1 h4) w s hh
     ·rw [if_neg c4] at h
      rw [h] at c4
      exact absurd rfl c4
theorem vis_no {d:Dm}{ls:List L5}{oi ol:Int}:∀ (n:Nat) (x:Pc) (w s:Int),x.ok->(vis d ls oi ol n x).1=some (w,s)->x.has w s/\ansE ((Pc.mk w w s s).dm d) ls oi ol=0:=by
 intro n
 have key:∀ (x:Pc) (w s:Int),x.ok->ansE (x.mid.dm d) ls oi ol=0->some (midE x.w1 x.w2,midE x.s1 x.s2)=some (w,s)->x.has w s/\ansE ((Pc.mk w w s s).dm d) ls oi ol=0:=by
  intro x w s hx h1 h2
  obtain⟨rfl,rfl⟩:=Prod.mk.inj (Option.some.inj h2)
  have m1:=mid_in hx.1
  have m2:=mid_in hx.2
  exact⟨⟨m1,m2⟩,h1⟩
 induction n with
 | zero=>
  intro x w s hx h
  unfold vis at h
  by_cases c:ansE (x.dm d) ls oi ol=2
  ·rw [if_pos c] at h;exact absurd h (by simp)
  ·rw [if_neg c] at h
   by_cases c2:ansE (x.mid.dm d) ls oi ol=0
   ·rw [if_pos c2] at h;exact key x w s hx c2 h
   ·rw [if_neg c2] at h;exact absurd h (by simp)
 | succ n ih=>
  intro x w s hx h
  unfold vis at h
  by_cases c:ansE (x.dm d) ls oi ol=2
  ·rw [if_pos c] at h;exact absurd h (by simp)
  ·rw [if_neg c] at h
   by_cases c2:ansE (x.mid.dm d) ls oi ol=0
   ·rw [if_pos c2] at h;exact key x w s hx c2 h
   ·rw [if_neg c2] at h
    by_cases c3:chE x=0
    ·rw [if_pos c3] at h;exact absurd h (by simp)
    ·rw [if_neg c3] at h
     obtain⟨k1,k2,k3⟩:=cut_ok (c:=chE x) hx
     by_cases c4:(vis d ls oi ol n (x.cut (chE x)).1).1=none
     ·rw [if_pos c4] at h
      obtain⟨a,b⟩:=ih _ w s k2 h
      exact⟨k3 _ _ (Or.inr a),b⟩
     ·rw [if_neg c4] at h
      obtain⟨a,b⟩:=ih _ w s k1 h
      exact⟨k3 _ _ (Or.inl a),b⟩
end Go.AM.K
