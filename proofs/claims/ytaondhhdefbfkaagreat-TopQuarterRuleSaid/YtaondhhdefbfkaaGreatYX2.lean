/- Balls that contain fractions: quotients, energies. -/
import Derived.Test.YtaondhhdefbfkaaGreatYX1
namespace Go.AM.K
set_option linter.unusedVariables false
set_option linter.unusedSimpArgs false
theorem qtn_ok {n d:Int}(hd:0 < d)(h1:-67108864<=(qtnE n d).1)(h2:(qtnE n d).1<=67108864) :
  (2*(d*(qtnE n d).1 - 1048576*n)<=d/\-d<=2*(d*(qtnE n d).1 - 1048576*n))/\((qtnE n d).2=false->d*(qtnE n d).1 - 1048576*n=0):=by
 unfold qtnE at *
 by_cases c1:d<=sz n*1048576 / 18446744073709551616
 ·rw [if_pos c1] at h2;exact absurd h2 (by decide)
 ·rw [if_neg c1] at h1 h2 ⊢
  by_cases c2:2147483647 < sz n*1048576 / d
  ·rw [if_pos c2] at h2;exact absurd h2 (by decide)
  ·rw [if_neg c2] at h1 h2 ⊢
   simp only at h1 h2 ⊢
   have e0:=Int.emod_add_mul_ediv (sz n*1048576) d
   have e1:=Int.emod_nonneg (sz n*1048576) (show d ≠ 0 by omega)
   have e2:=Int.emod_lt_of_pos (sz n*1048576) hd
   have es:(n < 0/\sz n=0 - n)\/(0<=n/\sz n=n):=by unfold sz;split <;> omega
   clear h1 h2 c1 c2
   generalize hu:sz n*1048576 / d=u at *
   generalize hr:sz n*1048576 % d=r at *
   have em:d*(u+1)=d*u+d:=by rw [Int.mul_add,Int.mul_one]
   have en:∀ x:Int,d*(0 - x)=0 - d*x:=fun x=>by rw [Int.zero_sub,Int.mul_neg,Int.zero_sub]
   refine⟨?_,fun hz=>?_⟩
   ·by_cases c3:d < 2*r\/(0<=n/\2*r=d)
    ·rw [if_pos c3]
     rcases es with ⟨es1,es2⟩ | ⟨es1,es2⟩
     ·rw [if_pos es1,en,em];omega
     ·rw [if_neg (show ¬ n < 0 by omega),em];omega
    ·rw [if_neg c3]
     rcases es with ⟨es1,es2⟩ | ⟨es1,es2⟩
     ·rw [if_pos es1,en];omega
     ·rw [if_neg (show ¬ n < 0 by omega)];omega
   ·have hr0:r=0:=by simpa using hz
    rw [if_neg (show ¬ (d < 2*r\/(0<=n/\2*r=d)) by omega)]
    rcases es with ⟨es1,es2⟩ | ⟨es1,es2⟩
    ·rw [if_pos es1,en];omega
    ·rw [if_neg (show ¬ n < 0 by omega)];omega
theorem qup_ok {n d:Int}(hn:0<=n)(hd:0 < d):0<=qupE n d/\(qupE n d=2147483647\/(1048576*n<=qupE n d*d/\qupE n d<=2147483647)):=by
 unfold qupE
 have h0:0<=n*1048576 / d:=Int.ediv_nonneg (by omega) (by omega)
 by_cases c1:d<=n*1048576 / 18446744073709551616
 ·rw [if_pos c1];exact⟨by decide,.inl rfl⟩
 ·rw [if_neg c1]
  by_cases c2:2147483647<=n*1048576 / d
  ·rw [if_pos c2];exact⟨by decide,.inl rfl⟩
  ·rw [if_neg c2]
   have e0:=Int.emod_add_mul_ediv (n*1048576) d
   have e2:=Int.emod_lt_of_pos (n*1048576) hd
   generalize n*1048576 / d=u at *
   generalize n*1048576 % d=r at *
   have em:(u+1)*d=d*u+d:=by rw [Int.add_mul,Int.one_mul,Int.mul_comm]
   by_cases c3:r=0
   ·rw [if_neg (fun h=>h c3)]
    refine⟨h0,.inr ⟨?_,by omega⟩⟩
    rw [Int.mul_comm u d];omega
   ·rw [if_pos c3]
    exact⟨by omega,.inr ⟨by omega,by omega⟩⟩
theorem con_low {b:Bl}{Q E:Int}(hb:Con b Q E)(hQ:0<=Q):E*(b.dn - b.b.2.2)<=Q*1048576:=by
 have hE:=hb.1
 obtain⟨s1,s2⟩:=sqn_eq b.ok
 have h1:=nle_add hb.2 (show nle (Q*1048576) 0 (Q*1048576) from ⟨by omega,by rw [Int.mul_zero,Int.add_zero];exact Int.le_refl _⟩)
 have h2:nle (E*b.b.1) (E*b.b.2.1) (E*b.b.2.2+Q*1048576):=nle_eq h1 (by omega) (by omega)
 have h3:E*b.dn<=E*b.b.2.2+Q*1048576:=by
  refine le_of_sq h2.1 (Int.le_trans ?_ h2.2)
  have e1:E*b.b.1*(E*b.b.1)+E*b.b.2.1*(E*b.b.2.1)=E*E*(sqn b.b:Int):=by rw [s1];grind
  have e2:E*b.dn*(E*b.dn)=E*E*(b.dn*b.dn):=by grind
  rw [e1,e2]
  refine Int.mul_le_mul_of_nonneg_left ?_ (sq_nn E)
  have:=isq_le (n:=sqn b.b) (by omega)
  have e3:((isq (sqn b.b)*isq (sqn b.b):Nat):Int)=b.dn*b.dn:=by unfold Bl.dn;push_cast;rfl
  rw [<- e3];omega
 rw [Int.mul_sub];omega
theorem con_quo {a b:Bl}{P D Q E:Int}(ha:Con a P D)(hb:Con b Q E)(hQ:0 < Q)(h:(quoE a b).2=0):Con (quoE a b).1 (P*E) (D*Q):=by
 have hD:=ha.1
 have hE:=hb.1
 unfold quoE at *
 by_cases c:b.dn<=b.b.2.2
 ·rw [if_pos c] at h;exact absurd h (by decide)
 ·rw [if_neg c] at h ⊢
  obtain⟨e,hok⟩:=toBl_ok h
  refine⟨Int.mul_pos hD hQ,?_⟩
  rw [e]
  have ga:=a.bd
  have gb:=b.bd
  have dn:=b.dn_bd
  have ub:=b.up_bd
  have ua:=a.up_bd
  obtain⟨s1,s2⟩:=sqn_eq b.ok
  obtain⟨o1,o2,o3⟩:=okS_iff.1 hok
  have hdn:0 < (b.dn - b.b.2.2)*b.dn:=Int.mul_pos (by omega) (by omega)
  have hW:0<=a.b.2.2*b.up+a.up*b.b.2.2:=Int.add_nonneg (Int.mul_nonneg ga.2.2.1 ub.1) (Int.mul_nonneg ua.1 gb.2.2.1)
  have hsq0:b.dn*b.dn<=(sqn b.b:Int):=by
   have:=isq_le (n:=sqn b.b) (by omega)
   have e3:((isq (sqn b.b)*isq (sqn b.b):Nat):Int)=b.dn*b.dn:=by unfold Bl.dn;push_cast;rfl
   rw [<- e3];omega
  have hsq:0 < (sqn b.b:Int):=Int.lt_of_lt_of_le (Int.mul_pos (show 0 < b.dn by omega) (by omega)) hsq0
  -- the parts
  obtain⟨p1,p2⟩:=qtn_ok (n:=tmP a.b (cjB b.b)) hsq o1.1 o1.2
  obtain⟨q1,q2⟩:=qtn_ok (n:=tmQ a.b (cjB b.b)) hsq o2.1 o2.2
  obtain⟨u0,u1⟩:=qup_ok hW hdn
  have o3':w64 (qupE (a.b.2.2*b.up+a.up*b.b.2.2) ((b.dn - b.b.2.2)*b.dn)+(if (qtnE (tmP a.b (cjB b.b)) (sqn b.b)).2 || (qtnE (tmQ a.b (cjB b.b)) (sqn b.b)).2 then 1 else 0))<=67108864:=o3.2
  unfold quoB
  simp only
  have hone:nle ((sqn b.b:Int)*(qtnE (tmP a.b (cjB b.b)) (sqn b.b)).1 - 1048576*tmP a.b (cjB b.b)) ((sqn b.b:Int)*(qtnE (tmQ a.b (cjB b.b)) (sqn b.b)).1 - 1048576*tmQ a.b (cjB b.b))
    ((sqn b.b:Int)*(if (qtnE (tmP a.b (cjB b.b)) (sqn b.b)).2 || (qtnE (tmQ a.b (cjB b.b)) (sqn b.b)).2 then 1 else 0)):=by
   generalize (sqn b.b:Int)*(qtnE (tmP a.b (cjB b.b)) (sqn b.b)).1 - 1048576*tmP a.b (cjB b.b)=x at *
   generalize (sqn b.b:Int)*(qtnE (tmQ a.b (cjB b.b)) (sqn b.b)).1 - 1048576*tmQ a.b (cjB b.b)=y at *
   generalize (qtnE (tmP a.b (cjB b.b)) (sqn b.b)).2=f at *
   generalize (qtnE (tmQ a.b (cjB b.b)) (sqn b.b)).2=g at *
   generalize (sqn b.b:Int)=s at *
   have big:nle x y s:=by
    refine⟨by omega,?_⟩
    have m1:=mul_bd (a:=2*x) (b:=2*x) (A:=s) (B:=s) (by omega) (by omega) (by omega) (by omega)
    have m2:=mul_bd (a:=2*y) (b:=2*y) (A:=s) (B:=s) (by omega) (by omega) (by omega) (by omega)
    have e1:2*x*(2*x)=4*(x*x):=by grind
    have e2:2*y*(2*y)=4*(y*y):=by grind
    have:=sq_nn s
    omega
   cases f with
   | true=>rw [Bool.true_or,if_pos rfl,Int.mul_one];exact big
   | false=>
    cases g with
    | true=>rw [Bool.or_true,if_pos rfl,Int.mul_one];exact big
    | false=>
     rw [p2 rfl,q2 rfl]
     exact nle_zero (by rw [Bool.or_self,if_neg (by decide),Int.mul_zero];exact Int.le_refl _)
  have hone1:0<=(if (qtnE (tmP a.b (cjB b.b)) (sqn b.b)).2 || (qtnE (tmQ a.b (cjB b.b)) (sqn b.b)).2 then (1:Int) else 0)/\(if (qtnE (tmP a.b (cjB b.b)) (sqn b.b)).2 || (qtnE (tmQ a.b (cjB b.b)) (sqn b.b)).2 then (1:Int) else 0)<=1:=by split <;> omega
  clear p1 p2 q1 q2
  generalize (qtnE (tmP a.b (cjB b.b)) (sqn b.b)).1=c1 at *
  generalize (qtnE (tmQ a.b (cjB b.b)) (sqn b.b)).1=c2 at *
  generalize (if (qtnE (tmP a.b (cjB b.b)) (sqn b.b)).2 || (qtnE (tmQ a.b (cjB b.b)) (sqn b.b)).2 then (1:Int) else 0)=one at *
  -- the upper quotient
  have hlow:=con_low hb (Int.le_of_lt hQ)
  generalize hWd:a.b.2.2*b.up+a.up*b.b.2.2=W at *
  generalize qupE W ((b.dn - b.b.2.2)*b.dn)=qu at *
  have hqu:1048576*W<=qu*((b.dn - b.b.2.2)*b.dn)/\w64 (qu+one)=qu+one:=by
   rcases u1 with u1 | ⟨u1,u2⟩
   ·rw [u1,w64_in (by omega) (by omega)] at o3';omega
   ·exact⟨u1,w64_in (by omega) (by omega)⟩
  obtain⟨hq1,hq2⟩:=hqu
  rw [hq2]
  -- the error that both balls make
  have na:=nle_scale D (nle_up a.ok)
  have nb:=nle_scale E (nle_up b.ok)
  rw [show ((D.natAbs:Nat):Int)=D by omega] at na
  rw [show ((E.natAbs:Nat):Int)=E by omega] at nb
  have m1:=nle_mul nb ha.2
  have m2:=nle_mul na hb.2
  have m:=nle_sub m1 m2
  have k:nle (1048576*(D*Q*a.b.1 - E*P*b.b.1)) (1048576*(D*Q*a.b.2.1 - E*P*b.b.2.1)) (D*E*W):=by
   refine nle_mono (nle_eq m ?_ ?_) (Int.le_of_eq ?_)
   ·grind
   ·grind
   ·rw [<- hWd];unfold Bl.up;grind
  -- E W<=qu dn Q
  have hEW:E*W<=qu*b.dn*Q:=by
   have i1:=Int.mul_le_mul_of_nonneg_left hq1 (Int.le_of_lt hE)
   have i2:=Int.mul_le_mul_of_nonneg_left hlow (Int.mul_nonneg u0 dn.1)
   have e1:E*(qu*((b.dn - b.b.2.2)*b.dn))=qu*b.dn*(E*(b.dn - b.b.2.2)):=by grind
   have e2:E*(1048576*W)=1048576*(E*W):=by grind
   have e3:qu*b.dn*(Q*1048576)=1048576*(qu*b.dn*Q):=by grind
   omega
  have hEW0:0<=E*W:=Int.mul_nonneg (Int.le_of_lt hE) hW
  have second:nle (1048576*((D*Q*a.b.1 - E*P*b.b.1)*b.b.1+(D*Q*a.b.2.1 - E*P*b.b.2.1)*b.b.2.1)) (1048576*((D*Q*a.b.2.1 - E*P*b.b.2.1)*b.b.1 - (D*Q*a.b.1 - E*P*b.b.1)*b.b.2.1)) (D*Q*(sqn b.b:Int)*qu):=by
   refine⟨Int.mul_nonneg (Int.mul_nonneg (Int.le_of_lt (Int.mul_pos hD hQ)) (Int.le_of_lt hsq)) u0,?_⟩
   have k2:=k.2
   generalize D*Q*a.b.1 - E*P*b.b.1=x at *
   generalize D*Q*a.b.2.1 - E*P*b.b.2.1=y at *
   have e1:1048576*(x*b.b.1+y*b.b.2.1)*(1048576*(x*b.b.1+y*b.b.2.1))+1048576*(y*b.b.1 - x*b.b.2.1)*(1048576*(y*b.b.1 - x*b.b.2.1))=
     (sqn b.b:Int)*(1048576*x*(1048576*x)+1048576*y*(1048576*y)):=by rw [s1];grind
   rw [e1]
   have i1:=Int.mul_le_mul_of_nonneg_left k2 (Int.le_of_lt hsq)
   refine Int.le_trans i1 ?_
   have i2:E*W*(E*W)<=qu*b.dn*Q*(qu*b.dn*Q):=Int.mul_le_mul hEW hEW hEW0 (Int.le_trans hEW0 hEW)
   have i3:=Int.mul_le_mul_of_nonneg_left hsq0 (sq_nn (qu*Q))
   have i4:E*W*(E*W)<=qu*Q*(qu*Q)*(sqn b.b:Int):=by
    have e2:qu*b.dn*Q*(qu*b.dn*Q)=qu*Q*(qu*Q)*(b.dn*b.dn):=by grind
    omega
   have i5:=Int.mul_le_mul_of_nonneg_left i4 (Int.mul_nonneg (Int.le_of_lt hsq) (sq_nn D))
   have e3:(sqn b.b:Int)*(D*E*W*(D*E*W))=(sqn b.b:Int)*(D*D)*(E*W*(E*W)):=by grind
   have e4:D*Q*(sqn b.b:Int)*qu*(D*Q*(sqn b.b:Int)*qu)=(sqn b.b:Int)*(D*D)*(qu*Q*(qu*Q)*(sqn b.b:Int)):=by grind
   omega
  have first:=nle_scale (D*Q) hone
  rw [show (((D*Q).natAbs:Nat):Int)=D*Q by have:=Int.mul_pos hD hQ;omega] at first
  have all:=nle_add first second
  refine nle_div (k:=(sqn b.b:Int)) hsq (Int.mul_nonneg (Int.le_of_lt (Int.mul_pos hD hQ)) (by omega)) (nle_mono (nle_eq all ?_ ?_) (Int.le_of_eq ?_))
  ·unfold tmP cjB
   simp only
   rw [s1];grind
  ·unfold tmQ cjB
   simp only
   rw [s1];grind
  ·grind
theorem con_eng {b:Bl}{P D:Int}(h:Con b P D):D*D*b.eLo<=P*P*1048576/\P*P*1048576<=D*D*b.eHi:=by
 have hD:=h.1
 have g:=b.bd
 have dn:=b.dn_bd
 have ub:=b.up_bd
 obtain⟨s1,s2⟩:=sqn_eq b.ok
 constructor
 ·-- from below
  have hz:D*(if b.dn - b.b.2.2 > 0 then b.dn - b.b.2.2 else 0)<=((P.natAbs:Nat):Int)*1048576:=by
   have h1:D*(b.dn - b.b.2.2)<=((P.natAbs:Nat):Int)*1048576:=by
    rcases Int.le_total 0 P with hp | hp
    ·have:=con_low h hp
     rw [show ((P.natAbs:Nat):Int)=P by omega];exact this
    ·-- the opposite ball
     have hn:=nle_neg h.2
     have h2:=nle_add hn (show nle (-P*1048576) 0 (-P*1048576) from ⟨by omega,by rw [Int.mul_zero,Int.add_zero];exact Int.le_refl _⟩)
     have h3:nle (D*-b.b.1) (D*-b.b.2.1) (D*b.b.2.2+-P*1048576):=nle_eq h2 (by grind) (by grind)
     have h4:D*b.dn<=D*b.b.2.2+-P*1048576:=by
      refine le_of_sq h3.1 (Int.le_trans ?_ h3.2)
      have e1:D*-b.b.1*(D*-b.b.1)+D*-b.b.2.1*(D*-b.b.2.1)=D*D*(sqn b.b:Int):=by rw [s1];grind
      have e2:D*b.dn*(D*b.dn)=D*D*(b.dn*b.dn):=by grind
      rw [e1,e2]
      refine Int.mul_le_mul_of_nonneg_left ?_ (sq_nn D)
      have:=isq_le (n:=sqn b.b) (by omega)
      have e3:((isq (sqn b.b)*isq (sqn b.b):Nat):Int)=b.dn*b.dn:=by unfold Bl.dn;push_cast;rfl
      rw [<- e3];omega
     rw [show ((P.natAbs:Nat):Int)=-P by omega,Int.mul_sub];omega
   split
   ·exact h1
   ·rw [Int.mul_zero];omega
  have hz0:0<=(if b.dn - b.b.2.2 > 0 then b.dn - b.b.2.2 else 0):=by split <;> omega
  have hq:((P.natAbs:Nat):Int)*((P.natAbs:Nat):Int)=P*P:=by
   rcases Int.natAbs_eq P with e | e
   ·rw [<- e]
   ·rw [show ((P.natAbs:Nat):Int)=-P by omega,Int.neg_mul_neg]
  unfold Bl.eLo
  simp only
  generalize (if b.dn - b.b.2.2 > 0 then b.dn - b.b.2.2 else 0)=z at *
  generalize ((P.natAbs:Nat):Int)=p at *
  have hDz:=Int.mul_nonneg (Int.le_of_lt hD) hz0
  have i1:=Int.mul_le_mul hz hz hDz (Int.le_trans hDz hz)
  have i2:z*z / 1048576*1048576<=z*z:=Int.ediv_mul_le _ (by decide)
  have i3:=Int.mul_le_mul_of_nonneg_left i2 (sq_nn D)
  have e1:D*z*(D*z)=D*D*(z*z):=by grind
  have e2:p*1048576*(p*1048576)=P*P*1048576*1048576:=by rw [<- hq];grind
  have e3:D*D*(z*z / 1048576*1048576)=D*D*(z*z / 1048576)*1048576:=by grind
  omega
 ·have nb:=nle_scale D (nle_up b.ok)
  rw [show ((D.natAbs:Nat):Int)=D by omega] at nb
  have h1:=nle_sub nb h.2
  have h2:nle (P*1048576) 0 (D*(b.up+b.b.2.2)):=nle_mono (nle_eq h1 (by omega) (by omega)) (Int.le_of_eq (by unfold Bl.up;grind))
  have h3:=h2.2
  rw [Int.mul_zero,Int.add_zero] at h3
  unfold Bl.eHi cdv
  generalize b.up+b.b.2.2=z at *
  have i2:z*z<=-(-(z*z) / 1048576)*1048576:=by omega
  have i3:=Int.mul_le_mul_of_nonneg_left i2 (sq_nn D)
  generalize -(-(z*z) / 1048576)=y at *
  have e1:D*z*(D*z)=D*D*(z*z):=by grind
  have e2:P*1048576*(P*1048576)=P*P*1048576*1048576:=by grind
  have e3:D*D*(y*1048576)=D*D*y*1048576:=by grind
  omega
end Go.AM.K
