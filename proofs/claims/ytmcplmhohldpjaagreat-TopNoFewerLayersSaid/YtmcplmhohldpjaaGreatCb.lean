/- Texts of one kind, put together. -/
import Derived.Test.YtmcplmhohldpjaaGreatCa
import Derived.Test.YtmcplmhohldpjaaGreatYX3
namespace Go.AM.K
open Go.AM
set_option linter.unusedVariables false
set_option linter.unusedSimpArgs false
def Zq.add (z w:Zq):Zq:=⟨z.p*w.d+w.p*z.d,z.q*w.d+w.q*z.d,z.d*w.d,Int.mul_pos z.h w.h⟩
def Zq.sub (z w:Zq):Zq:=⟨z.p*w.d - w.p*z.d,z.q*w.d - w.q*z.d,z.d*w.d,Int.mul_pos z.h w.h⟩
def Zq.mul (z w:Zq):Zq:=⟨z.p*w.p - z.q*w.q,z.p*w.q+z.q*w.p,z.d*w.d,Int.mul_pos z.h w.h⟩
def Zq.nrm (z:Zq):Int:=z.p*z.p+z.q*z.q
theorem Zq.nrm_nn (z:Zq):0<=z.nrm:=Int.add_nonneg (aZ _) (aZ _)
def Zq.quo (z w:Zq):Zq:=if h:0 < w.nrm then ⟨w.d*(z.p*w.p+z.q*w.q),w.d*(z.q*w.p - z.p*w.q),z.d*w.nrm,Int.mul_pos z.h h⟩ else ⟨0,0,1,by decide⟩
def Zq.trn (z:Zq):Zq:=⟨-z.q,z.p,z.d,z.h⟩
def Zq.real (p d:Int)(h:0 < d):Zq:=⟨p,0,d,h⟩
theorem Jl {b:Bl}{p d:Int}(h:Con b p d):Zq.In b (Zq.real p d h.1):=ch h.2 rfl (by unfold Zq.real;simp only;omega)
theorem nab {d:Int}(h:0 < d):((d.natAbs:Nat):Int)=d:=by omega
theorem PC {a b:Bl}{z w:Zq}(ha:Zq.In a z)(hb:Zq.In b w)(h:(dY a b).2=0):Zq.In (dY a b).1 (z.add w):=by
 obtain⟨e,_⟩:=iC h
 show nle _ _ _
 rw [show (dY a b).1.b=pls a.b b.b from e]
 have h1:=bo w.d ha
 have h2:=bo z.d hb
 rw [nab w.h] at h1
 rw [nab z.h] at h2
 have h3:=eH h1 h2
 unfold pls Zq.add
 refine ba (ch h3 ?_ ?_) (Int.le_of_eq ?_)
 ·simp only;grind
 ·simp only;grind
 ·simp only;grind
theorem HF {a b:Bl}{z w:Zq}(ha:Zq.In a z)(hb:Zq.In b w)(h:(gG a b).2=0):Zq.In (gG a b).1 (z.sub w):=by
 obtain⟨e,_⟩:=iC h
 show nle _ _ _
 rw [show (gG a b).1.b=mis a.b b.b from e]
 have h1:=bo w.d ha
 have h2:=bo z.d hb
 rw [nab w.h] at h1
 rw [nab z.h] at h2
 have h3:=r9 h1 h2
 unfold mis Zq.sub
 refine ba (ch h3 ?_ ?_) (Int.le_of_eq ?_)
 ·simp only;grind
 ·simp only;grind
 ·simp only;grind
theorem kV {a b:Bl}{z w:Zq}(ha:Zq.In a z)(hb:Zq.In b w)(h:(be a b).2=0):Zq.In (be a b).1 (z.mul w):=by
 obtain⟨e,hok⟩:=iC h
 have hD:=z.h
 have hE:=w.h
 show nle _ _ _
 rw [show (be a b).1.b=tmB a.b b.b from e]
 have hr:=(fM.1 hok).2.2.1
 have hDE:=Int.mul_pos hD hE
 unfold Zq.In at ha hb
 unfold Zq.mul
 simp only
 obtain⟨P,P2,D,hD'⟩:=z
 obtain⟨Q,Q2,E,hE'⟩:=w
 simp only at *
 have c1:=bo (D*E) (aiI (a:=a.b) (b:=b.b))
 rw [nab hDE] at c1
 have na:=bo D (AH a.ok)
 have nb:=bo E (AH b.ok)
 rw [nab hD] at na
 rw [nab hE] at nb
 have m1:=ou na hb
 have m2:=ou nb ha
 have m3:=ou ha hb
 have m:=eH c1 (eH (eH m1 m2) (gz m3))
 refine pm (k:=1048576) (by decide) (Int.mul_nonneg (Int.le_of_lt hDE) hr) (ba (ch m ?_ ?_) (Int.le_of_eq ?_))
 ·unfold tmP;grind
 ·unfold tmQ;grind
 ·unfold tmW;grind
theorem aaX {a:Bl}{z:Zq}(ha:Zq.In a z)(h:(z8 a).2=0):Zq.In (z8 a).1 z.trn:=by
 obtain⟨e,_⟩:=iC h
 show nle _ _ _
 rw [show (z8 a).1.b=(-a.b.2.1,a.b.1,a.b.2.2) from e]
 unfold Zq.trn
 refine⟨ha.1,?_⟩
 have h2:=ha.2
 simp only
 have e1:(z.d*-a.b.2.1 - -z.q*1048576)*(z.d*-a.b.2.1 - -z.q*1048576)=(z.d*a.b.2.1 - z.q*1048576)*(z.d*a.b.2.1 - z.q*1048576):=by grind
 rw [e1];omega
theorem ri {a:Bl}{z:Zq}(ha:Zq.In a z):(z.d*a.lo1<=z.p*1048576/\z.p*1048576<=z.d*a.hi1)/\z.d*a.lo2<=z.q*1048576/\z.q*1048576<=z.d*a.hi2:=by
 have h1:=ag8 ha
 have h2:=B4 ha
 unfold Bl.lo1 Bl.hi1 Bl.lo2 Bl.hi2
 rw [Int.mul_sub,Int.mul_add,Int.mul_sub,Int.mul_add]
 omega
theorem Xs (b:Bl):b.dn*b.dn<=(sqn b.b:Int):=by
 obtain⟨s1,s2⟩:=j6 b.ok
 have:=I1 (n:=sqn b.b) (by omega)
 have e3:((isq (sqn b.b)*isq (sqn b.b):Nat):Int)=b.dn*b.dn:=by unfold Bl.dn;push_cast;rfl
 rw [<- e3];omega
theorem cau {a b c d:Int}:(a*c+b*d)*(a*c+b*d)<=(a*a+b*b)*(c*c+d*d):=by
 have e1:=aZ (a*d - b*c)
 have e2:(a*a+b*b)*(c*c+d*d) - (a*c+b*d)*(a*c+b*d)=(a*d - b*c)*(a*d - b*c):=by grind
 omega
theorem Kf {b:Bl}{w:Zq}(hb:Zq.In b w)(h:b.b.2.2<=b.dn):(w.d*(b.dn - b.b.2.2))*(w.d*(b.dn - b.b.2.2))<=w.nrm*(1048576*1048576):=by
 obtain⟨s1,s2⟩:=j6 b.ok
 have hs:=Xs b
 have hE:=w.h
 have g:=b.bd
 by_cases hc:(w.d*(b.dn - b.b.2.2))*(w.d*(b.dn - b.b.2.2))<=w.nrm*(1048576*1048576)
 ·exact hc
 ·exfalso
  unfold Zq.In at hb
  unfold Zq.nrm at hc
  obtain⟨Q,Q2,E,hE'⟩:=w
  simp only at *
  have hb2:=hb.2
  obtain⟨X,hX⟩:∃ X,X=E*(b.dn - b.b.2.2):=⟨_,rfl⟩
  obtain⟨R,hR⟩:∃ R,R=E*b.b.2.2:=⟨_,rfl⟩
  have hX0:0<=X:=by rw [hX];exact Int.mul_nonneg (by omega) (by omega)
  have hR0:0<=R:=by rw [hR];exact Int.mul_nonneg (by omega) (by omega)
  have hXR:X+R=E*b.dn:=by rw [hX,hR];grind
  have e0:E*b.b.1*(E*b.b.1)+E*b.b.2.1*(E*b.b.2.1)=E*E*(sqn b.b:Int):=by rw [s1];grind
  have i1:=Int.mul_le_mul_of_nonneg_left hs (aZ E)
  have e1:E*E*(b.dn*b.dn)=(X+R)*(X+R):=by rw [hXR];grind
  rw [<- hX] at hc
  rw [<- hR] at hb2
  obtain⟨u,hu⟩:∃ u,u=E*b.b.1 - Q*1048576:=⟨_,rfl⟩
  obtain⟨v,hv⟩:∃ v,v=E*b.b.2.1 - Q2*1048576:=⟨_,rfl⟩
  have hu':E*b.b.1=u+Q*1048576:=by omega
  have hv':E*b.b.2.1=v+Q2*1048576:=by omega
  rw [<- hu,<- hv] at hb2
  rw [hu',hv'] at e0
  have ca:=cau (a:=u) (b:=v) (c:=Q*1048576) (d:=Q2*1048576)
  have e2:(u+Q*1048576)*(u+Q*1048576)+(v+Q2*1048576)*(v+Q2*1048576)=(u*u+v*v)+(Q*Q+Q2*Q2)*(1048576*1048576)+2*(u*(Q*1048576)+v*(Q2*1048576)):=by grind
  have e3:Q*1048576*(Q*1048576)+Q2*1048576*(Q2*1048576)=(Q*Q+Q2*Q2)*(1048576*1048576):=by grind
  have e4:(X+R)*(X+R)=X*X+R*R+2*(X*R):=by grind
  generalize u*(Q*1048576)+v*(Q2*1048576)=t at *
  rw [e3] at ca
  generalize hN:(Q*Q+Q2*Q2)*(1048576*1048576)=N at *
  have hN0:0<=N:=by rw [<- hN];exact Int.mul_nonneg (Int.add_nonneg (aZ _) (aZ _)) (by decide)
  have ht:X*R < t:=by omega
  have hXR0:=Int.mul_nonneg hX0 hR0
  have i2:(X*R+1)*(X*R+1)<=t*t:=Int.mul_le_mul (by omega) (by omega) (by omega) (by omega)
  have i3:(u*u+v*v)*N<=R*R*(X*X):=Int.mul_le_mul hb2 (by omega) hN0 (aZ R)
  have e5:(X*R+1)*(X*R+1)=R*R*(X*X)+2*(X*R)+1:=by grind
  omega
theorem ahc {b:Bl}{w:Zq}(hb:Zq.In b w)(h:b.b.2.2 < b.dn):0 < w.nrm:=by
 have h1:=Kf hb (by omega)
 have h2:0 < w.d*(b.dn - b.b.2.2):=Int.mul_pos w.h (by omega)
 have h3:=Int.mul_pos h2 h2
 omega
theorem ab6 {a b:Bl}(h:(mG a b).2=0):b.b.2.2 < b.dn:=by
 unfold mG at h
 by_cases c:b.dn<=b.b.2.2
 ·rw [if_pos c] at h;exact absurd h (by decide)
 ·omega
theorem Xv {a b:Bl}{z w:Zq}(ha:Zq.In a z)(hb:Zq.In b w)(h:(mG a b).2=0):Zq.In (mG a b).1 (z.quo w):=by
 have hlt:=ab6 h
 have hN:=ahc hb hlt
 have hlow:=Kf hb (by omega)
 have hD:=z.h
 have hE:=w.h
 unfold mG at *
 rw [if_neg (by omega)] at h ⊢
 obtain⟨e,hok⟩:=iC h
 show nle _ _ _
 rw [e]
 unfold Zq.quo
 rw [dif_pos hN]
 unfold Zq.In at ha hb
 obtain⟨P,P2,D,hD'⟩:=z
 obtain⟨Q,Q2,E,hE'⟩:=w
 simp only at *
 obtain⟨N,hNe⟩:∃ N,N=Q*Q+Q2*Q2:=⟨_,rfl⟩
 have hNe':Zq.nrm ⟨Q,Q2,E,hE'⟩=N:=hNe.symm
 rw [hNe'] at hN hlow ⊢
 have ga:=a.bd
 have gb:=b.bd
 have dn:=b.dn_bd
 have ub:=b.up_bd
 have ua:=a.up_bd
 obtain⟨s1,s2⟩:=j6 b.ok
 obtain⟨o1,o2,o3⟩:=fM.1 hok
 have hdn:0 < (b.dn - b.b.2.2)*b.dn:=Int.mul_pos (by omega) (by omega)
 have hW:0<=a.b.2.2*b.up+a.up*b.b.2.2:=Int.add_nonneg (Int.mul_nonneg ga.2.2.1 ub.1) (Int.mul_nonneg ua.1 gb.2.2.1)
 have hsq0:=Xs b
 have hsq:0 < (sqn b.b:Int):=Int.lt_of_lt_of_le (Int.mul_pos (show 0 < b.dn by omega) (by omega)) hsq0
 obtain⟨p1,p2⟩:=DW (n:=tmP a.b (cjB b.b)) hsq o1.1 o1.2
 obtain⟨q1,q2⟩:=DW (n:=tmQ a.b (cjB b.b)) hsq o2.1 o2.2
 obtain⟨u0,u1⟩:=al8 hW hdn
 have o3':w64 (zw (a.b.2.2*b.up+a.up*b.b.2.2) ((b.dn - b.b.2.2)*b.dn)+(if (dC (tmP a.b (cjB b.b)) (sqn b.b)).2 || (dC (tmQ a.b (cjB b.b)) (sqn b.b)).2 then 1 else 0))<=67108864:=o3.2
 unfold ajr
 simp only
 have hone:nle ((sqn b.b:Int)*(dC (tmP a.b (cjB b.b)) (sqn b.b)).1 - 1048576*tmP a.b (cjB b.b)) ((sqn b.b:Int)*(dC (tmQ a.b (cjB b.b)) (sqn b.b)).1 - 1048576*tmQ a.b (cjB b.b))
   ((sqn b.b:Int)*(if (dC (tmP a.b (cjB b.b)) (sqn b.b)).2 || (dC (tmQ a.b (cjB b.b)) (sqn b.b)).2 then 1 else 0)):=by
  generalize (sqn b.b:Int)*(dC (tmP a.b (cjB b.b)) (sqn b.b)).1 - 1048576*tmP a.b (cjB b.b)=x at *
  generalize (sqn b.b:Int)*(dC (tmQ a.b (cjB b.b)) (sqn b.b)).1 - 1048576*tmQ a.b (cjB b.b)=y at *
  generalize (dC (tmP a.b (cjB b.b)) (sqn b.b)).2=f at *
  generalize (dC (tmQ a.b (cjB b.b)) (sqn b.b)).2=g at *
  generalize (sqn b.b:Int)=s at *
  have big:nle x y s:=by
   refine⟨by omega,?_⟩
   have m1:=dg (a:=2*x) (b:=2*x) (A:=s) (B:=s) (by omega) (by omega) (by omega) (by omega)
   have m2:=dg (a:=2*y) (b:=2*y) (A:=s) (B:=s) (by omega) (by omega) (by omega) (by omega)
   have e1:2*x*(2*x)=4*(x*x):=by grind
   have e2:2*y*(2*y)=4*(y*y):=by grind
   have:=aZ s
   omega
  cases f with
  | true=>rw [Bool.true_or,if_pos rfl,Int.mul_one];exact big
  | false=>
   cases g with
   | true=>rw [Bool.or_true,if_pos rfl,Int.mul_one];exact big
   | false=>
    rw [p2 rfl,q2 rfl]
    exact mw (by rw [Bool.or_self,if_neg (by decide),Int.mul_zero];exact Int.le_refl _)
 have hone1:0<=(if (dC (tmP a.b (cjB b.b)) (sqn b.b)).2 || (dC (tmQ a.b (cjB b.b)) (sqn b.b)).2 then (1:Int) else 0)/\(if (dC (tmP a.b (cjB b.b)) (sqn b.b)).2 || (dC (tmQ a.b (cjB b.b)) (sqn b.b)).2 then (1:Int) else 0)<=1:=by split <;> omega
 clear p1 p2 q1 q2
 generalize (dC (tmP a.b (cjB b.b)) (sqn b.b)).1=c1 at *
 generalize (dC (tmQ a.b (cjB b.b)) (sqn b.b)).1=c2 at *
 generalize (if (dC (tmP a.b (cjB b.b)) (sqn b.b)).2 || (dC (tmQ a.b (cjB b.b)) (sqn b.b)).2 then (1:Int) else 0)=one at *
 generalize hWd:a.b.2.2*b.up+a.up*b.b.2.2=W at *
 generalize zw W ((b.dn - b.b.2.2)*b.dn)=qu at *
 have hqu:1048576*W<=qu*((b.dn - b.b.2.2)*b.dn)/\w64 (qu+one)=qu+one:=by
  rcases u1 with u1 | ⟨u1,u2⟩
  ·rw [u1,ak (by omega) (by omega)] at o3';omega
  ·exact⟨u1,ak (by omega) (by omega)⟩
 obtain⟨hq1,hq2⟩:=hqu
 rw [hq2]
 have na:=bo D (AH a.ok)
 have nb:=bo E (AH b.ok)
 rw [nab hD] at na
 rw [nab hE] at nb
 have m1:=ou nb ha
 have m2:=ou na hb
 have m:=r9 m1 m2
 have k:nle (1048576*(D*(Q*a.b.1 - Q2*a.b.2.1) - E*(P*b.b.1 - P2*b.b.2.1))) (1048576*(D*(Q*a.b.2.1+Q2*a.b.1) - E*(P*b.b.2.1+P2*b.b.1))) (D*E*W):=by
  refine ba (ch m ?_ ?_) (Int.le_of_eq ?_)
  ·grind
  ·grind
  ·rw [<- hWd];unfold Bl.up;grind
 -- E E W W<=qu qu dn dn N
 have hEW:E*W*(E*W)<=qu*qu*(b.dn*b.dn)*N:=by
  have hx0:0<=1048576*(E*W):=Int.mul_nonneg (by decide) (Int.mul_nonneg (by omega) hW)
  have hx:1048576*(E*W)<=qu*b.dn*(E*(b.dn - b.b.2.2)):=by
   have i1:=Int.mul_le_mul_of_nonneg_left hq1 (Int.le_of_lt hE)
   have e1:E*(qu*((b.dn - b.b.2.2)*b.dn))=qu*b.dn*(E*(b.dn - b.b.2.2)):=by grind
   have e2:E*(1048576*W)=1048576*(E*W):=by grind
   omega
  have i2:=Int.mul_le_mul hx hx hx0 (Int.le_trans hx0 hx)
  have i3:=Int.mul_le_mul_of_nonneg_left hlow (aZ (qu*b.dn))
  have e1:qu*b.dn*(E*(b.dn - b.b.2.2))*(qu*b.dn*(E*(b.dn - b.b.2.2)))=qu*b.dn*(qu*b.dn)*(E*(b.dn - b.b.2.2)*(E*(b.dn - b.b.2.2))):=by grind
  have e2:1048576*(E*W)*(1048576*(E*W))=1099511627776*(E*W*(E*W)):=by grind
  have e3:qu*b.dn*(qu*b.dn)*(N*(1048576*1048576))=1099511627776*(qu*qu*(b.dn*b.dn)*N):=by grind
  omega
 have second:nle (1048576*(b.b.1*(Q*(D*(Q*a.b.1 - Q2*a.b.2.1) - E*(P*b.b.1 - P2*b.b.2.1))+Q2*(D*(Q*a.b.2.1+Q2*a.b.1) - E*(P*b.b.2.1+P2*b.b.1)))+b.b.2.1*(Q*(D*(Q*a.b.2.1+Q2*a.b.1) - E*(P*b.b.2.1+P2*b.b.1)) - Q2*(D*(Q*a.b.1 - Q2*a.b.2.1) - E*(P*b.b.1 - P2*b.b.2.1)))))
   (1048576*(b.b.1*(Q*(D*(Q*a.b.2.1+Q2*a.b.1) - E*(P*b.b.2.1+P2*b.b.1)) - Q2*(D*(Q*a.b.1 - Q2*a.b.2.1) - E*(P*b.b.1 - P2*b.b.2.1))) - b.b.2.1*(Q*(D*(Q*a.b.1 - Q2*a.b.2.1) - E*(P*b.b.1 - P2*b.b.2.1))+Q2*(D*(Q*a.b.2.1+Q2*a.b.1) - E*(P*b.b.2.1+P2*b.b.1)))))
   (D*N*(sqn b.b:Int)*qu):=by
  refine⟨Int.mul_nonneg (Int.mul_nonneg (Int.le_of_lt (Int.mul_pos hD hN)) (Int.le_of_lt hsq)) u0,?_⟩
  have k2:=k.2
  generalize D*(Q*a.b.1 - Q2*a.b.2.1) - E*(P*b.b.1 - P2*b.b.2.1)=x at *
  generalize D*(Q*a.b.2.1+Q2*a.b.1) - E*(P*b.b.2.1+P2*b.b.1)=y at *
  have e1:1048576*(b.b.1*(Q*x+Q2*y)+b.b.2.1*(Q*y - Q2*x))*(1048576*(b.b.1*(Q*x+Q2*y)+b.b.2.1*(Q*y - Q2*x)))+1048576*(b.b.1*(Q*y - Q2*x) - b.b.2.1*(Q*x+Q2*y))*(1048576*(b.b.1*(Q*y - Q2*x) - b.b.2.1*(Q*x+Q2*y)))=
    (sqn b.b:Int)*N*(1048576*x*(1048576*x)+1048576*y*(1048576*y)):=by rw [s1,hNe];grind
  rw [e1]
  have hsN:=Int.mul_pos hsq hN
  have i1:=Int.mul_le_mul_of_nonneg_left k2 (Int.le_of_lt hsN)
  refine Int.le_trans i1 ?_
  have i3:=Int.mul_le_mul_of_nonneg_left hsq0 (Int.mul_nonneg (aZ qu) (Int.le_of_lt hN))
  have i4:E*W*(E*W)<=qu*qu*N*(sqn b.b:Int):=by
   have e2:qu*qu*(b.dn*b.dn)*N=qu*qu*N*(b.dn*b.dn):=by grind
   omega
  have i5:=Int.mul_le_mul_of_nonneg_left i4 (Int.mul_nonneg (Int.le_of_lt hsN) (aZ D))
  have e3:(sqn b.b:Int)*N*(D*E*W*(D*E*W))=(sqn b.b:Int)*N*(D*D)*(E*W*(E*W)):=by grind
  have e4:D*N*(sqn b.b:Int)*qu*(D*N*(sqn b.b:Int)*qu)=(sqn b.b:Int)*N*(D*D)*(qu*qu*N*(sqn b.b:Int)):=by grind
  omega
 have first:=bo (D*N) hone
 rw [nab (Int.mul_pos hD hN)] at first
 have all:=eH first second
 refine pm (k:=(sqn b.b:Int)) hsq (Int.mul_nonneg (Int.le_of_lt (Int.mul_pos hD hN)) (by omega)) (ba (ch all ?_ ?_) (Int.le_of_eq ?_))
 ·unfold tmP cjB
  simp only
  rw [s1,hNe];grind
 ·unfold tmQ cjB
  simp only
  rw [s1,hNe];grind
 ·grind
theorem UJ {b:Bl}{z:Zq}(h:Zq.In b z):z.d*z.d*b.eLo<=z.nrm*1048576/\z.nrm*1048576<=z.d*z.d*b.eHi:=by
 have hD:=z.h
 have g:=b.bd
 have dn:=b.dn_bd
 have ub:=b.up_bd
 have hn:=z.nrm_nn
 constructor
 ·unfold Bl.eLo
  simp only
  have key:z.d*(if b.dn - b.b.2.2 > 0 then b.dn - b.b.2.2 else 0)*(z.d*(if b.dn - b.b.2.2 > 0 then b.dn - b.b.2.2 else 0))<=z.nrm*(1048576*1048576):=by
   split
   ·exact Kf h (by omega)
   ·rw [Int.mul_zero,Int.mul_zero];exact Int.mul_nonneg hn (by decide)
  generalize (if b.dn - b.b.2.2 > 0 then b.dn - b.b.2.2 else 0)=x at *
  have i2:x*x / 1048576*1048576<=x*x:=Int.ediv_mul_le _ (by decide)
  have i3:=Int.mul_le_mul_of_nonneg_left i2 (aZ z.d)
  have e1:z.d*x*(z.d*x)=z.d*z.d*(x*x):=by grind
  have e3:z.d*z.d*(x*x / 1048576*1048576)=z.d*z.d*(x*x / 1048576)*1048576:=by grind
  omega
 ·have nb:=bo z.d (AH b.ok)
  rw [nab hD] at nb
  have h1:=r9 nb h
  have h2:nle (z.p*1048576) (z.q*1048576) (z.d*(b.up+b.b.2.2)):=ba (ch h1 (by omega) (by omega)) (Int.le_of_eq (by unfold Bl.up;grind))
  have h3:=h2.2
  unfold Bl.eHi cdv
  generalize b.up+b.b.2.2=x at *
  have i2:x*x<=-(-(x*x) / 1048576)*1048576:=by omega
  have i3:=Int.mul_le_mul_of_nonneg_left i2 (aZ z.d)
  generalize -(-(x*x) / 1048576)=y at *
  have e1:z.d*x*(z.d*x)=z.d*z.d*(x*x):=by grind
  have e2:z.p*1048576*(z.p*1048576)+z.q*1048576*(z.q*1048576)=z.nrm*1048576*1048576:=by unfold Zq.nrm;grind
  have e3:z.d*z.d*(y*1048576)=z.d*z.d*y*1048576:=by grind
  omega
theorem rK {lo hi P D:Int}(hD:0 < D)(h1:D*lo<=P*1048576)(h2:P*1048576<=D*hi)(h:(cq lo hi).2=0):Zq.In (cq lo hi).1 (Zq.real P D hD):=
 Jl (Sk hD h1 h2 h).1
theorem O3 {n d:Int}(h:(vU n d).2=0)(hd:0 < d):Zq.In (vU n d).1 (Zq.real n d hd):=by
 unfold vU at *
 by_cases c:(-1000000000<=n/\n<=1000000000)/\1<=d/\d<=1000000000
 ·rw [if_pos c] at h ⊢
  obtain⟨e,_⟩:=iC h
  show nle _ _ _
  rw [e]
  unfold Zq.real
  simp only
  have hx:d*rdv (n*1048576) d - n*1048576<=d/\-d<=d*rdv (n*1048576) d - n*1048576/\(n*1048576 % d=0->d*rdv (n*1048576) d - n*1048576=0):=by
   unfold rdv
   have e1:=Int.emod_add_mul_ediv (2*(n*1048576)+d) (2*d)
   have e2:=Int.emod_nonneg (2*(n*1048576)+d) (show 2*d ≠ 0 by omega)
   have e3:=Int.emod_lt_of_pos (2*(n*1048576)+d) (show 0 < 2*d by omega)
   have e4:2*d*((2*(n*1048576)+d) / (2*d))=2*(d*((2*(n*1048576)+d) / (2*d))):=by grind
   refine⟨by omega,by omega,fun hz=>?_⟩
   obtain⟨c,hc⟩:=Int.dvd_of_emod_eq_zero hz
   have e5:(2*(n*1048576)+d) / (2*d)=c:=by
    rw [hc,show 2*(d*c)+d=d+2*d*c by grind,Int.add_mul_ediv_left _ _ (by omega),Int.ediv_eq_zero_of_lt (by omega) (by omega),Int.zero_add]
   rw [e5,hc,Int.sub_self]
  by_cases hz:(n*1048576).tmod d=0
  ·rw [if_pos hz]
   have hz':n*1048576 % d=0:=Int.emod_eq_zero_of_dvd (Int.dvd_of_tmod_eq_zero hz)
   exact ch (mw (by omega)) (hx.2.2 hz') (by omega)
  ·rw [if_neg hz]
   refine⟨by omega,?_⟩
   have:=(dg hx.2.1 hx.1 hx.2.1 hx.1).2
   rw [Int.mul_zero,Int.zero_mul,Int.sub_zero,Int.mul_zero,Int.add_zero,Int.mul_one]
   exact this
 ·rw [if_neg c] at h;exact absurd h (by decide)
end Go.AM.K

namespace Go.AM.K
open Go.AM
set_option linter.unusedVariables false
set_option linter.unusedSimpArgs false
theorem apR:∀ n:Nat,∃ s:Nat,s*s<=n/\n < (s+1)*(s+1):=by
 intro n
 induction n with
 | zero=>exact⟨0,by decide,by decide⟩
 | succ n ih=>
  obtain⟨s,h1,h2⟩:=ih
  by_cases c:n+1 < (s+1)*(s+1)
  ·exact⟨s,by omega,c⟩
  ·refine⟨s+1,by omega,?_⟩
   have e1:(s+1)*(s+1)=s*s+2*s+1:=by grind
   have e2:(s+1+1)*(s+1+1)=s*s+4*s+4:=by grind
   omega
theorem Ut {n:Int}(h:0<=n):∃ s:Int,0<=s/\s*s<=n/\n < (s+1)*(s+1):=by
 obtain⟨s,h1,h2⟩:=apR n.toNat
 refine⟨s,by omega,?_,?_⟩
 ·have:((s*s:Nat):Int)<=n:=by omega
  push_cast at this;exact this
 ·have:n < (((s+1)*(s+1):Nat):Int):=by omega
  push_cast at this;exact this
structure M3 (P Q a b s:Int):Prop where
 s0:0 < s
 a0:0<=a
 n:nle (a*a - b*b - P*(s*s)) (2*(a*b) - Q*(s*s)) (3*(s*s))
 hp:0<=P->-a<=b/\b<=a
 hn:P < 0->a<=b\/a<=-b
 q0:0<=Q->0<=b
 q1:Q < 0->b<=0
theorem Dj {P Q:Int}(hP:0<=P)(h:0 < P*P+Q*Q):∃ a b s:Int,M3 P Q a b s/\(Q<=0->b<=0):=by
 obtain⟨n,n0,n1,n2⟩:=Ut (n:=P*P+Q*Q) (by omega)
 have hn:1<=n:=by
  by_cases c:1<=n
  ·exact c
  ·have:n=0:=by omega
   subst this
   omega
 have hQn:-n<=Q/\Q<=n:=by
  have hz:nle P Q (n+1):=⟨by omega,by omega⟩
  have hq:=B4 hz
  have hne:∀ x:Int,x=n+1->¬ (Q*Q=x*x):=fun x hx he=>by
   have:=aZ P
   rw [hx] at he
   omega
  refine⟨?_,?_⟩
  ·by_cases c:-n<=Q
   ·exact c
   ·exact absurd (by rw [show Q=-(n+1) by omega,Int.neg_mul_neg]) (hne (n+1) rfl)
  ·by_cases c:Q<=n
   ·exact c
   ·exact absurd (by rw [show Q=n+1 by omega]) (hne (n+1) rfl)
 obtain⟨f,hf⟩:∃ f,f=2*(n+1):=⟨_,rfl⟩
 have hPn:0 < P+n:=by omega
 have hff:0 < f*f:=Int.mul_pos (by omega) (by omega)
 obtain⟨s,s0,s1,s2⟩:=Ut (n:=2*(P+n)*(f*f)) (Int.mul_nonneg (by omega) (by omega))
 have hfs:f<=s:=by
  have h1:1*(f*f)<=2*(P+n)*(f*f):=Int.mul_le_mul_of_nonneg_right (by omega) (by omega)
  by_cases c:f<=s
  ·exact c
  ·have:(s+1)*(s+1)<=f*f:=Int.mul_le_mul (by omega) (by omega) (by omega) (by omega)
   omega
 refine⟨(P+n)*f,Q*f,s,⟨by omega,Int.mul_nonneg (by omega) (by omega),?_,fun _=>?_,fun hh=>absurd hh (by omega),fun hq=>Int.mul_nonneg hq (by omega),fun hq=>?_⟩,fun hq=>?_⟩
 ·obtain⟨κ,hκ⟩:∃ κ,κ=2*(P+n)*(f*f) - s*s:=⟨_,rfl⟩
  have e2:(s+1)*(s+1)=s*s+2*s+1:=by grind
  have hκ1:0<=κ/\κ<=2*s:=by omega
  have hz:nle P Q (n+1):=⟨by omega,by omega⟩
  have m1:=bo κ hz
  rw [show ((κ.natAbs:Nat):Int)=κ by omega] at m1
  obtain⟨δ,hδ⟩:∃ δ,δ=P*P+Q*Q - n*n:=⟨_,rfl⟩
  have e3:(n+1)*(n+1)=n*n+2*n+1:=by grind
  have hδ1:0<=δ/\δ<=2*n:=by omega
  have hdf:nle (-(δ*(f*f))) 0 (2*(s*s)):=by
   have hnf:n*(f*f)<=s*s:=by
    have h1:2*n*(f*f)<=2*(P+n)*(f*f):=Int.mul_le_mul_of_nonneg_right (by omega) (by omega)
    have h3:4*s<=s*s:=Int.mul_le_mul_of_nonneg_right (by omega) s0
    have e4:2*n*(f*f)=2*(n*(f*f)):=Int.mul_assoc ..
    omega
   have h2:δ*(f*f)<=2*n*(f*f):=Int.mul_le_mul_of_nonneg_right hδ1.2 (by omega)
   have h0:0<=δ*(f*f):=Int.mul_nonneg hδ1.1 (by omega)
   have e4:2*n*(f*f)=2*(n*(f*f)):=Int.mul_assoc ..
   have h5:δ*(f*f)<=2*(s*s):=by omega
   refine⟨by omega,?_⟩
   rw [Int.neg_mul_neg,Int.mul_zero,Int.add_zero]
   exact Int.mul_le_mul h5 h5 h0 (by omega)
  have m:=eH m1 hdf
  refine ba (ch m ?_ ?_) ?_
  ·rw [hκ,hδ];grind
  ·rw [hκ];grind
  ·have h1:κ*(n+1)<=2*s*(n+1):=Int.mul_le_mul_of_nonneg_right hκ1.2 (by omega)
   have h2:s*(2*(n+1))<=s*s:=Int.mul_le_mul_of_nonneg_left (by omega) s0
   have e1:2*s*(n+1)=s*(2*(n+1)):=by grind
   omega
 ·have h1:=Int.mul_le_mul_of_nonneg_right (show Q<=P+n by omega) (show 0<=f by omega)
  have h2:=Int.mul_le_mul_of_nonneg_right (show -(P+n)<=Q by omega) (show 0<=f by omega)
  rw [Int.neg_mul] at h2
  exact⟨h2,h1⟩
 ·have:=Int.mul_nonneg (show 0<=-Q by omega) (show 0<=f by omega)
  rw [Int.neg_mul] at this
  omega
 ·have:=Int.mul_nonneg (show 0<=-Q by omega) (show 0<=f by omega)
  rw [Int.neg_mul] at this
  omega
theorem Iv {P Q:Int}(h:0 < P*P+Q*Q):∃ a b s:Int,M3 P Q a b s:=by
 by_cases hP:0<=P
 ·obtain⟨a,b,s,k,_⟩:=Dj hP h
  exact⟨a,b,s,k⟩
 ·obtain⟨a,b,s,k,kb⟩:=Dj (P:=-P) (Q:=-Q) (by omega) (by rw [Int.neg_mul_neg,Int.neg_mul_neg];exact h)
  have hp:=k.hp (by omega)
  by_cases hQ:0<=Q
  ·have hb:=kb (by omega)
   refine⟨-b,a,s,⟨k.s0,by omega,ch (gz k.n) ?_ ?_,fun hh=>absurd hh hP,fun _=>.inl (by omega),fun _=>k.a0,fun hh=>absurd hQ (by omega)⟩⟩
   ·grind
   ·grind
  ·have hb:=k.q0 (by omega)
   refine⟨b,-a,s,⟨k.s0,hb,ch (gz k.n) ?_ ?_,fun hh=>absurd hh hP,fun _=>.inr (by omega),fun hh=>absurd hh hQ,fun _=>by have:=k.a0;omega⟩⟩
   ·grind
   ·grind
theorem JJ {x y r m p q d v g:Int}(hd:0 < d)(hz:nle (d*x - p*1048576) (d*y - q*1048576) (d*r))(hr:0<=r)(hrm:r < m)(hm:m*m<=x*x+y*y)
  (hcl:¬ (x < 0/\(-r<=y/\y<=r)/\r ≠ 0)) (hv0:1024<=v) (hv:v*v<=m*1048576) (hv2:m*1048576 < (v+1)*(v+1)) (hg:r*1048576<=v*g) (hg2:v*g < r*1048576+v)
  {a1 b1 s1 a2 b2 s2:Int} (k1:M3 (4096*(p*d*1099511627776)) (4096*(q*d*1099511627776)) a1 b1 s1) (k2:M3 (4096*(x*1048576)) (4096*(y*1048576)) a2 b2 s2) :
  nle (64*s2*a1 - 64*s1*d*a2) (64*s2*b1 - 64*s1*d*b2) (64*s1*d*(64*s2)*(g+1)):=by
 have s1p:=k1.s0
 have s2p:=k2.s0
 -- the sign
 have hX:0<=a1*a2+b1*b2:=by
  have ha:=Int.mul_nonneg k1.a0 k2.a0
  have hdd:=Int.mul_pos hd hd
  by_cases c1:0<=x/\0<=p
  ·obtain⟨u1,u2⟩:=k2.hp (by omega)
   obtain⟨v1,v2⟩:=k1.hp (Int.mul_nonneg (by decide) (Int.mul_nonneg (Int.mul_nonneg c1.2 (by omega)) (by decide)))
   have:=(dg v1 v2 u1 u2).1
   omega
  ·-- the parts have the same sign
   have hq:(0<=q/\0<=y)\/(q < 0/\y < 0)\/(0<=a1*a2+b1*b2):=by
    by_cases c2:0<=q
    ·by_cases c3:0<=y
     ·exact .inl ⟨c2,c3⟩
     ·exfalso
      by_cases c4:x < 0/\p < 0
      ·have hy:=B4 hz
       have h1:d*y < -(d*r)\/(r=0):=by
        by_cases c5:r=0
        ·exact .inr c5
        ·left
         have h3:y < -r:=by omega
         have:=Int.mul_le_mul_of_nonneg_left (show y<=-r - 1 by omega) (show 0<=d by omega)
         have e:d*(-r - 1)=-(d*r) - d:=by grind
         omega
       rcases h1 with h1 | h1
       ·omega
       ·subst h1
        have h3:=Int.mul_le_mul_of_nonneg_left (show y<=-1 by omega) (show 0<=d by omega)
        rw [Int.mul_zero] at hy
        omega
      ·have hz2:=hz.2
       have e:(d*x - p*1048576)*(d*x - p*1048576)+(d*y - q*1048576)*(d*y - q*1048576)=d*d*(x*x+y*y)+(p*p+q*q)*1099511627776 - 2097152*(d*(x*p)) - 2097152*(d*(y*q)):=by grind
       rw [e] at hz2
       have n1:0<=d*-(x*p):=Int.mul_nonneg (by omega) (by
        by_cases c5:0<=x
        ·have:=Int.mul_nonneg c5 (show 0<=-p by omega);rw [Int.mul_neg] at this;omega
        ·have:=Int.mul_nonneg (show 0<=-x by omega) (show 0<=p by omega);rw [Int.neg_mul] at this;omega)
       have n2:0<=d*-(y*q):=Int.mul_nonneg (by omega) (by
        have:=Int.mul_nonneg (show 0<=-y by omega) c2;rw [Int.neg_mul] at this;omega)
       rw [Int.mul_neg] at n1 n2
       have i1:=Int.mul_le_mul_of_nonneg_left hm (show 0<=d*d by omega)
       have i2:r*r < m*m:=by
        have:=Int.mul_le_mul (show r+1<=m by omega) (show r+1<=m by omega) (by omega) (by omega)
        have e5:(r+1)*(r+1)=r*r+2*r+1:=by grind
        omega
       have i3:=Int.mul_lt_mul_of_pos_left i2 hdd
       have e3:d*r*(d*r)=d*d*(r*r):=by grind
       have n3:=Int.add_nonneg (aZ p) (aZ q)
       omega
    ·by_cases c3:y < 0
     ·exact .inr (.inl ⟨by omega,c3⟩)
     ·by_cases c6:y=0/\r=0
      ·exfalso
       obtain⟨c6,c7⟩:=c6
       have hy:=B4 hz
       rw [c6,c7,Int.mul_zero] at hy
       omega
      exfalso
      by_cases c4:x < 0/\p < 0
      ·have hy:=B4 hz
       by_cases c5:r=0
       ·subst c5
        rw [Int.mul_zero] at hy
        have h3:=Int.mul_nonneg (show 0<=d by omega) (show 0<=y by omega)
        omega
       ·have h3:r < y:=by omega
        have:=Int.mul_le_mul_of_nonneg_left (show r<=y by omega) (show 0<=d by omega)
        omega
      ·have hz2:=hz.2
       have e:(d*x - p*1048576)*(d*x - p*1048576)+(d*y - q*1048576)*(d*y - q*1048576)=d*d*(x*x+y*y)+(p*p+q*q)*1099511627776 - 2097152*(d*(x*p)) - 2097152*(d*(y*q)):=by grind
       rw [e] at hz2
       have n1:0<=d*-(x*p):=Int.mul_nonneg (by omega) (by
        by_cases c5:0<=x
        ·have:=Int.mul_nonneg c5 (show 0<=-p by omega);rw [Int.mul_neg] at this;omega
        ·have:=Int.mul_nonneg (show 0<=-x by omega) (show 0<=p by omega);rw [Int.neg_mul] at this;omega)
       have n2:0<=d*-(y*q):=Int.mul_nonneg (by omega) (by
        have:=Int.mul_nonneg (show 0<=y by omega) (show 0<=-q by omega);rw [Int.mul_neg] at this;omega)
       rw [Int.mul_neg] at n1 n2
       have i1:=Int.mul_le_mul_of_nonneg_left hm (show 0<=d*d by omega)
       have i2:r*r < m*m:=by
        have:=Int.mul_le_mul (show r+1<=m by omega) (show r+1<=m by omega) (by omega) (by omega)
        have e5:(r+1)*(r+1)=r*r+2*r+1:=by grind
        omega
       have i3:=Int.mul_lt_mul_of_pos_left i2 hdd
       have e3:d*r*(d*r)=d*d*(r*r):=by grind
       have n3:=Int.add_nonneg (aZ p) (aZ q)
       omega
   rcases hq with ⟨h1,h2⟩ | ⟨h1,h2⟩ | h
   ·have p1:=k1.q0 (Int.mul_nonneg (by decide) (Int.mul_nonneg (Int.mul_nonneg h1 (by omega)) (by decide)))
    have p2:=k2.q0 (by omega)
    have:=Int.mul_nonneg p1 p2
    omega
   ·have p1:=k1.q1 (by
     have:=Int.mul_pos (show 0 < -q by omega) hd
     rw [Int.neg_mul] at this
     omega)
    have p2:=k2.q1 (by omega)
    have:=Int.mul_nonneg (show 0<=-b1 by omega) (show 0<=-b2 by omega)
    rw [Int.neg_mul_neg] at this
    omega
   ·exact h
 -- the sizes
 obtain⟨e1,he1⟩:∃ e1,e1=64*s1*d:=⟨_,rfl⟩
 obtain⟨e2,he2⟩:∃ e2,e2=64*s2:=⟨_,rfl⟩
 have e1p:0 < e1:=by rw [he1];exact Int.mul_pos (by omega) hd
 have e2p:0 < e2:=by omega
 rw [<- he1,<- he2]
 have t1:nle (1024*(a1*a1 - b1*b1)*d - e1*e1*(p*1125899906842624)) (1024*(2*(a1*b1))*d - e1*e1*(q*1125899906842624)) (e1*e1*d):=by
  have h:=bo (1024*d) k1.n
  rw [nab (show 0 < 1024*d by omega)] at h
  refine ba (ch h ?_ ?_) ?_
  ·rw [he1];grind
  ·rw [he1];grind
  ·have h1:1*1<=d*d:=Int.mul_le_mul (by omega) (by omega) (by decide) (by omega)
   have h2:=Int.mul_le_mul_of_nonneg_left h1 (show 0<=4096*(s1*s1*d) by have:=Int.mul_pos (Int.mul_pos s1p s1p) hd;omega)
   have e5:e1*e1*d=4096*(s1*s1*d)*(d*d):=by rw [he1];grind
   have e6:1024*d*(3*(s1*s1))=3072*(s1*s1*d):=by grind
   have h3:=Int.mul_pos (Int.mul_pos s1p s1p) hd
   omega
 have t2:nle (1024*(a2*a2 - b2*b2) - e2*e2*(x*1073741824)) (1024*(2*(a2*b2)) - e2*e2*(y*1073741824)) (e2*e2):=by
  have h:=bo 1024 k2.n
  rw [nab (show (0:Int) < 1024 by omega)] at h
  refine ba (ch h ?_ ?_) ?_
  ·rw [he2];grind
  ·rw [he2];grind
  ·have e5:e2*e2=4096*(s2*s2):=by rw [he2];grind
   have h3:=Int.mul_pos s2p s2p
   omega
 -- the difference of the squares
 have hdiff:nle (1024*((e2*a1)*(e2*a1) - (e2*b1)*(e2*b1) - ((e1*a2)*(e1*a2) - (e1*b2)*(e1*b2)))) (1024*(2*((e2*a1)*(e2*b1)) - 2*((e1*a2)*(e1*b2)))) ((e1*e1)*(e2*e2)*(r*1073741824+2)):=by
  have f1:=bo (e2*e2) t1
  rw [nab (Int.mul_pos e2p e2p)] at f1
  have f2:=bo (e1*e1*d) t2
  rw [nab (Int.mul_pos (Int.mul_pos e1p e1p) hd)] at f2
  have f3:=bo (e1*e1*(e2*e2)*1073741824) (gz hz)
  rw [nab (Int.mul_pos (Int.mul_pos (Int.mul_pos e1p e1p) (Int.mul_pos e2p e2p)) (by decide))] at f3
  have f:=eH (r9 f1 f2) f3
  have hpos:=Int.mul_pos (Int.mul_pos e1p e1p) (Int.mul_pos e2p e2p)
  refine pm (k:=d) hd (Int.mul_nonneg (by omega) (by omega)) (ba (ch f ?_ ?_) (Int.le_of_eq ?_))
  ·grind
  ·grind
  ·grind
 -- the size of the second root
 have hsize:e2*e2*(v*v*1024 - 1)<=1024*(a2*a2+b2*b2):=by
  refine eJ (Int.mul_nonneg (by decide) (Int.add_nonneg (aZ _) (aZ _))) ?_
  have e5:1024*(a2*a2+b2*b2)*(1024*(a2*a2+b2*b2))=1024*(a2*a2 - b2*b2)*(1024*(a2*a2 - b2*b2))+1024*(2*(a2*b2))*(1024*(2*(a2*b2))):=by grind
  rw [e5]
  -- a vector YA a long one is long
  have hlong:∀ u1 u2 c1 c2 L ε:Int,nle (u1 - c1) (u2 - c2) ε->0<=L->(L+ε)*(L+ε)<=c1*c1+c2*c2->L*L<=u1*u1+u2*u2:=by
   intro u1 u2 c1 c2 L ε h h0 h1
   by_cases c:L*L<=u1*u1+u2*u2
   ·exact c
   ·exfalso
    by_cases cL:L=0
    ·subst cL
     have:=aZ u1;have:=aZ u2
     omega
    have ca:=cau (a:=u1) (b:=u2) (c:=u1 - c1) (d:=u2 - c2)
    have e6:c1*c1+c2*c2=(u1*u1+u2*u2)+((u1 - c1)*(u1 - c1)+(u2 - c2)*(u2 - c2)) - 2*(u1*(u1 - c1)+u2*(u2 - c2)):=by grind
    have e7:(L+ε)*(L+ε)=L*L+ε*ε+2*(L*ε):=by grind
    have h2:=h.2
    have hε:=h.1
    have n0:0<=u1*u1+u2*u2:=Int.add_nonneg (aZ _) (aZ _)
    generalize u1*(u1 - c1)+u2*(u2 - c2)=t at *
    generalize (u1 - c1)*(u1 - c1)+(u2 - c2)*(u2 - c2)=w at *
    generalize u1*u1+u2*u2=z at *
    have h3:L*ε < -t:=by omega
    have hLε:=Int.mul_nonneg h0 hε
    have i1:(L*ε+1)*(L*ε+1)<=-t*-t:=Int.mul_le_mul (by omega) (by omega) (by omega) (by omega)
    rw [Int.neg_mul_neg] at i1
    have i2:z*w<=L*L*(ε*ε):=Int.mul_le_mul (by omega) h2 (by
     by_cases c8:0<=w
     ·exact c8
     ·have:t*t<=z*w:=ca
      have:=aZ t
      have n9:=Int.mul_nonneg n0 (show 0<=-w by omega)
      rw [Int.mul_neg] at n9
      exfalso
      have e9:(L*ε+1)*(L*ε+1)=L*ε*(L*ε)+2*(L*ε)+1:=by grind
      have:=aZ (L*ε)
      omega) (aZ L)
    have e8:(L*ε+1)*(L*ε+1)=L*L*(ε*ε)+2*(L*ε)+1:=by grind
    omega
  refine hlong _ _ (e2*e2*(x*1073741824)) (e2*e2*(y*1073741824)) _ (e2*e2) t2 (Int.mul_nonneg (aZ e2) (by have:=Int.mul_le_mul hv0 hv0 (by decide) (by omega);omega)) ?_
  have e6:e2*e2*(v*v*1024 - 1)+e2*e2=e2*e2*(v*v*1024):=by grind
  rw [e6]
  have e7:e2*e2*(x*1073741824)*(e2*e2*(x*1073741824))+e2*e2*(y*1073741824)*(e2*e2*(y*1073741824))=(e2*e2)*(e2*e2)*((x*x+y*y)*1152921504606846976):=by grind
  have e8:e2*e2*(v*v*1024)*(e2*e2*(v*v*1024))=(e2*e2)*(e2*e2)*(1048576*((v*v)*(v*v))):=by grind
  rw [e7,e8]
  refine Int.mul_le_mul_of_nonneg_left ?_ (aZ (e2*e2))
  have i1:=Int.mul_le_mul hv hv (aZ v) (by omega)
  have e9:m*1048576*(m*1048576)=1099511627776*(m*m):=by grind
  omega
 -- together
 obtain⟨A,hA⟩:∃ A,A=e2*a1 - e1*a2:=⟨_,rfl⟩
 obtain⟨B,hB⟩:∃ B,B=e2*b1 - e1*b2:=⟨_,rfl⟩
 rw [<- hA,<- hB]
 have hd2:=hdiff.2
 have e5:1024*((e2*a1)*(e2*a1) - (e2*b1)*(e2*b1) - ((e1*a2)*(e1*a2) - (e1*b2)*(e1*b2)))*(1024*((e2*a1)*(e2*a1) - (e2*b1)*(e2*b1) - ((e1*a2)*(e1*a2) - (e1*b2)*(e1*b2))))+1024*(2*((e2*a1)*(e2*b1)) - 2*((e1*a2)*(e1*b2)))*(1024*(2*((e2*a1)*(e2*b1)) - 2*((e1*a2)*(e1*b2))))
   = 1048576*((A*A+B*B)*((e2*a1+e1*a2)*(e2*a1+e1*a2)+(e2*b1+e1*b2)*(e2*b1+e1*b2))):=by rw [hA,hB];grind
 rw [e5] at hd2
 have hsum:(e1*e1)*(a2*a2+b2*b2)<=(e2*a1+e1*a2)*(e2*a1+e1*a2)+(e2*b1+e1*b2)*(e2*b1+e1*b2):=by
  have e6:(e2*a1+e1*a2)*(e2*a1+e1*a2)+(e2*b1+e1*b2)*(e2*b1+e1*b2)=(e1*e1)*(a2*a2+b2*b2)+(e2*e2)*(a1*a1+b1*b1)+2*((e1*e2)*(a1*a2+b1*b2)):=by grind
  have i1:=Int.mul_nonneg (aZ e2) (Int.add_nonneg (aZ a1) (aZ b1))
  have i2:=Int.mul_nonneg (Int.le_of_lt (Int.mul_pos e1p e2p)) hX
  omega
 have hAB:0<=A*A+B*B:=Int.add_nonneg (aZ _) (aZ _)
 have hgv:0<=g:=by
  by_cases c:0<=g
  ·exact c
  ·have:=Int.mul_le_mul_of_nonneg_left (show g<=-1 by omega) (show 0<=v by omega)
   omega
 have hE:=Int.mul_pos (Int.mul_pos e1p e1p) (Int.mul_pos e2p e2p)
 refine⟨Int.mul_nonneg (Int.le_of_lt (Int.mul_pos e1p e2p)) (by omega),?_⟩
 generalize (e2*a1+e1*a2)*(e2*a1+e1*a2)+(e2*b1+e1*b2)*(e2*b1+e1*b2)=Sm at *
 -- (A A+B B) (E (v v 1024 - 1))<=1024 (A A+B B) Sm<=...
 have i1:(A*A+B*B)*((e1*e1)*(e2*e2*(v*v*1024 - 1)))<=(A*A+B*B)*(1024*Sm):=by
  refine Int.mul_le_mul_of_nonneg_left ?_ hAB
  have i2:=Int.mul_le_mul_of_nonneg_left hsize (aZ e1)
  have e6:e1*e1*(1024*(a2*a2+b2*b2))=1024*(e1*e1*(a2*a2+b2*b2)):=by grind
  omega
 have hvv:1024*1024<=v*v:=Int.mul_le_mul hv0 hv0 (by decide) (by omega)
 have hD:0 < (e1*e1)*(e2*e2)*(v*v*1024 - 1):=Int.mul_pos hE (by omega)
 have hg3:g<=v+4:=by
  by_cases c:g<=v+4
  ·exact c
  ·have h1:=Int.mul_le_mul_of_nonneg_left (show v+5<=g by omega) (show 0<=v by omega)
   have e6:v*(v+5)=v*v+5*v:=by grind
   have e7:(v+1)*(v+1)=v*v+2*v+1:=by grind
   omega
 -- the bound of the right side
 have hrs:(r*1073741824+2)*(r*1073741824+2)<=1024*((g+1)*(g+1)*(v*v*1024 - 1)):=by
  have h0:0<=r*1073741824+2:=by omega
  have h1:r*1073741824+2<=1024*(v*g)+2:=by omega
  have h2:=Int.mul_le_mul h1 h1 h0 (by omega)
  have e6:(1024*(v*g)+2)*(1024*(v*g)+2)=1048576*((v*v)*(g*g))+4096*(v*g)+4:=by grind
  have e7:1024*((g+1)*(g+1)*(v*v*1024 - 1))=1048576*((v*v)*(g*g))+2097152*((v*v)*g)+1048576*(v*v) - 1024*(g*g+2*g+1):=by grind
  have h3:v*g<=v*(v+4):=Int.mul_le_mul_of_nonneg_left hg3 (by omega)
  have h4:g*g<=(v+4)*(v+4):=Int.mul_le_mul hg3 hg3 hgv (by omega)
  have e8:v*(v+4)=v*v+4*v:=by grind
  have e9:(v+4)*(v+4)=v*v+8*v+16:=by grind
  have h5:1024*v<=v*v:=Int.mul_le_mul_of_nonneg_right hv0 (by omega)
  have h6:=Int.mul_nonneg (aZ v) hgv
  omega
 have e6:e1*e2*(g+1)*(e1*e2*(g+1))=(e1*e1)*(e2*e2)*((g+1)*(g+1)):=by grind
 rw [e6]
 refine Int.le_of_mul_le_mul_left (a:=(e1*e1)*(e2*e2)*(v*v*1024 - 1)) ?_ hD
 have e7:(e1*e1)*(e2*e2)*(v*v*1024 - 1)*(A*A+B*B)=(A*A+B*B)*((e1*e1)*(e2*e2*(v*v*1024 - 1))):=by grind
 have e8:(A*A+B*B)*(1024*Sm)=1024*((A*A+B*B)*Sm):=by grind
 have e9:e1*e1*(e2*e2)*(r*1073741824+2)*(e1*e1*(e2*e2)*(r*1073741824+2))=(e1*e1*(e2*e2))*(e1*e1*(e2*e2))*((r*1073741824+2)*(r*1073741824+2)):=by grind
 have i3:=Int.mul_le_mul_of_nonneg_left hrs (aZ (e1*e1*(e2*e2)))
 have e10:(e1*e1*(e2*e2))*(e1*e1*(e2*e2))*(1024*((g+1)*(g+1)*(v*v*1024 - 1)))=1024*((e1*e1)*(e2*e2)*(v*v*1024 - 1)*((e1*e1)*(e2*e2)*((g+1)*(g+1)))):=by grind
 omega
end Go.AM.K
