/- Balls that contain fractions: sums, differences, products, quotients. -/
import Derived.Test.YtmcplmhohldpjaaGreatYWi
namespace Go.AM.K
set_option linter.unusedVariables false
set_option linter.unusedSimpArgs false
def nle (x y r:Int):Prop:=0<=r/\x*x+y*y<=r*r
theorem aZ (x:Int):0<=x*x:=by
 rcases Int.le_total 0 x with h | h
 ·exact Int.mul_nonneg h h
 ·exact Int.mul_nonneg_of_nonpos_of_nonpos h h
theorem eJ {a b:Int}(hb:0<=b)(h:a*a<=b*b):a<=b:=by
 by_cases hc:a<=b
 ·exact hc
 ·have h1:0<=a - b - 1:=by omega
  have e1:=Int.mul_nonneg h1 (show 0<=a+b by omega)
  have e2:(a - b - 1)*(a+b)=a*a - b*b - (a+b):=by grind
  omega
theorem On {a b c d r q:Int}(h1:nle a b r)(h2:nle c d q):a*c+b*d<=r*q:=by
 refine eJ (Int.mul_nonneg h1.1 h2.1) ?_
 have e1:=aZ (a*d - b*c)
 have e2:(a*a+b*b)*(c*c+d*d) - (a*c+b*d)*(a*c+b*d)=(a*d - b*c)*(a*d - b*c):=by grind
 have e3:=Int.mul_le_mul h1.2 h2.2 (Int.add_nonneg (aZ c) (aZ d)) (aZ r)
 have e4:r*q*(r*q)=r*r*(q*q):=by grind
 omega
theorem eH {a b c d r q:Int}(h1:nle a b r)(h2:nle c d q):nle (a+c) (b+d) (r+q):=by
 refine⟨Int.add_nonneg h1.1 h2.1,?_⟩
 have e:=On h1 h2
 have e1:(a+c)*(a+c)+(b+d)*(b+d)=(a*a+b*b)+(c*c+d*d)+2*(a*c+b*d):=by grind
 have e2:(r+q)*(r+q)=r*r+q*q+2*(r*q):=by grind
 have:=h1.2;have:=h2.2
 omega
theorem ba {a b r q:Int}(h:nle a b r)(hq:r<=q):nle a b q:=by
 refine⟨Int.le_trans h.1 hq,Int.le_trans h.2 ?_⟩
 exact Int.mul_le_mul hq hq h.1 (Int.le_trans h.1 hq)
theorem ou {a b c d r q:Int}(h1:nle a b r)(h2:nle c d q):nle (a*c - b*d) (a*d+b*c) (r*q):=by
 refine⟨Int.mul_nonneg h1.1 h2.1,?_⟩
 have e1:(a*c - b*d)*(a*c - b*d)+(a*d+b*c)*(a*d+b*c)=(a*a+b*b)*(c*c+d*d):=by grind
 have e2:=Int.mul_le_mul h1.2 h2.2 (Int.add_nonneg (aZ c) (aZ d)) (aZ r)
 have e3:r*q*(r*q)=r*r*(q*q):=by grind
 omega
theorem gz {a b r:Int}(h:nle a b r):nle (-a) (-b) r:=⟨h.1,by rw [Int.neg_mul_neg,Int.neg_mul_neg];exact h.2⟩
theorem ch {a b a' b' r:Int}(h:nle a b r)(h1:a'=a)(h2:b'=b):nle a' b' r:=by rw [h1,h2];exact h
theorem r9 {a b c d r q:Int}(h1:nle a b r)(h2:nle c d q):nle (a - c) (b - d) (r+q):=ch (eH h1 (gz h2)) (by omega) (by omega)
theorem bo {a b r:Int}(k:Int)(h:nle a b r):nle (k*a) (k*b) (k.natAbs*r):=by
 have h2:nle k 0 k.natAbs:=⟨by omega,by
  rw [Int.mul_zero,Int.add_zero]
  have:((k.natAbs:Nat):Int)*((k.natAbs:Nat):Int)=k*k:=by
   rcases Int.natAbs_eq k with e | e
   ·rw [<- e]
   ·rw [show ((k.natAbs:Nat):Int)=-k by omega,Int.neg_mul_neg]
  omega⟩
 exact ch (ou h2 h) (by rw [Int.zero_mul,Int.sub_zero]) (by rw [Int.zero_mul,Int.add_zero])
theorem mw {r:Int}(h:0<=r):nle 0 0 r:=⟨h,by have:=aZ r;omega⟩
theorem ag8 {a b r:Int}(h:nle a b r):-r<=a/\a<=r:=by
 have h1:=aZ b
 have h2:=h.2
 constructor
 ·have:-a<=r:=eJ h.1 (by rw [Int.neg_mul_neg];omega)
  omega
 ·exact eJ h.1 (by omega)
theorem B4 {a b r:Int}(h:nle a b r):-r<=b/\b<=r:=by
 have h1:=aZ a
 have h2:=h.2
 constructor
 ·have:-b<=r:=eJ h.1 (by rw [Int.neg_mul_neg];omega)
  omega
 ·exact eJ h.1 (by omega)
theorem pm {a b r k:Int}(hk:0 < k)(hr:0<=r)(h:nle (k*a) (k*b) (k*r)):nle a b r:=by
 refine⟨hr,?_⟩
 have e1:(k*a)*(k*a)+(k*b)*(k*b)=(k*k)*(a*a+b*b):=by grind
 have e2:(k*r)*(k*r)=(k*k)*(r*r):=by grind
 have h2:=h.2
 rw [e1,e2] at h2
 exact Int.le_of_mul_le_mul_left h2 (Int.mul_pos hk hk)
theorem AH {a:B3}(ha:okS a=true):nle a.1 a.2.1 (upc a):=by
 obtain⟨e1,e2⟩:=j6 ha
 refine⟨(Fh ha).1,?_⟩
 rw [<- e1]
 unfold upc upq
 have h:=il (n:=sqn a) (by omega)
 split
 ·have h2:((isq (sqn a)+1)*(isq (sqn a)+1):Nat)=((isq (sqn a):Int)+1)*((isq (sqn a):Int)+1):=by push_cast;rfl
  omega
 ·have h2:((isq (sqn a)*isq (sqn a):Nat):Int)=(isq (sqn a):Int)*(isq (sqn a):Int):=by push_cast;rfl
  omega
def tmW (a b:B3):Int:=upc a*b.2.2+upc b*a.2.2+a.2.2*b.2.2
theorem ait {n:Int}:n<=1048576*cdv n 1048576/\1048576*cdv n 1048576 < n+1048576:=by unfold cdv;omega
theorem aiI {a b:B3}:nle (1048576*(tmB a b).1 - tmP a b) (1048576*(tmB a b).2.1 - tmQ a b) (1048576*(tmB a b).2.2 - tmW a b):=by
 have hc:=ait (n:=tmW a b)
 unfold tmB
 simp only
 change nle (1048576*rdv (tmP a b) 1048576 - tmP a b) (1048576*rdv (tmQ a b) 1048576 - tmQ a b) (1048576*(cdv (tmW a b) 1048576+_) - tmW a b)
 have p1:1048576*rdv (tmP a b) 1048576 - tmP a b<=524288/\-524288<=1048576*rdv (tmP a b) 1048576 - tmP a b:=by unfold rdv;omega
 have q1:1048576*rdv (tmQ a b) 1048576 - tmQ a b<=524288/\-524288<=1048576*rdv (tmQ a b) 1048576 - tmQ a b:=by unfold rdv;omega
 by_cases h:tmP a b % 1048576=0/\tmQ a b % 1048576=0
 ·rw [if_pos h]
  have p2:1048576*rdv (tmP a b) 1048576 - tmP a b=0:=by unfold rdv;omega
  have q2:1048576*rdv (tmQ a b) 1048576 - tmQ a b=0:=by unfold rdv;omega
  rw [p2,q2]
  exact mw (by omega)
 ·rw [if_neg h]
  refine ba (r:=1048576) ⟨by decide,?_⟩ (by omega)
  have e1:=dg (A:=524288) (B:=524288) p1.2 p1.1 p1.2 p1.1
  have e2:=dg (A:=524288) (B:=524288) q1.2 q1.1 q1.2 q1.1
  omega
def Con (b:Bl)(P D:Int):Prop:=0 < D/\nle (D*b.b.1 - P*1048576) (D*b.b.2.1) (D*b.b.2.2)
theorem iC {t:B3}(h:(pz t).2=0):(pz t).1.b=t/\okS t=true:=by
 unfold pz at *
 by_cases c:okS t=true
 ·rw [dif_pos c];exact⟨rfl,c⟩
 ·rw [dif_neg c] at h;exact absurd h (by decide)
theorem Sk {lo hi P D:Int}(hD:0 < D)(h1:D*lo<=P*1048576)(h2:P*1048576<=D*hi)(h:(cq lo hi).2=0):Con (cq lo hi).1 P D/\(cq lo hi).1.b=((lo+hi) / 2,0,hi - (lo+hi) / 2):=by
 obtain⟨_,_,hle⟩:=oE h
 unfold cq at *
 by_cases c:oB lo=true/\oB hi=true
 ·rw [if_pos c] at h ⊢
  rw [if_neg (by omega)] at h ⊢
  obtain⟨e,_⟩:=iC h
  refine⟨⟨hD,?_⟩,e⟩
  rw [e]
  have e1:(lo+hi) / 2 - lo<=hi - (lo+hi) / 2:=by omega
  generalize (lo+hi) / 2=m at *
  have i1:=Int.mul_le_mul_of_nonneg_left e1 (Int.le_of_lt hD)
  have e2:D*(m - lo)=D*m - D*lo:=Int.mul_sub ..
  have e3:D*(hi - m)=D*hi - D*m:=Int.mul_sub ..
  have i0:0<=hi - m:=by omega
  refine⟨Int.mul_nonneg (Int.le_of_lt hD) i0,?_⟩
  show (D*m - P*1048576)*(D*m - P*1048576)+D*0*(D*0)<=D*(hi - m)*(D*(hi - m))
  rw [Int.mul_zero,Int.zero_mul,Int.add_zero]
  have b1:D*m - P*1048576<=D*(hi - m):=by omega
  have b2:-(D*(hi - m))<=D*m - P*1048576:=by omega
  have:=dg (A:=D*(hi - m)) (B:=D*(hi - m)) b2 b1 b2 b1
  exact this.2
 ·rw [if_neg c] at h;exact absurd h (by decide)
end Go.AM.K
