/- Texts of one kind, put together. -/
import Derived.Test.YtmcplmhohldpjaaGreatCb
import Derived.Test.YtmcplmhohldpjaaGreatCa
import Derived.Test.YtmcplmhohldpjaaGreatYX6
namespace Go.AM.K
open Go.AM
set_option linter.unusedVariables false
set_option linter.unusedSimpArgs false
theorem RI {u1 u2 c1 c2 L ε:Int}(h:nle (u1 - c1) (u2 - c2) ε)(h0:0<=L)(h1:(L+ε)*(L+ε)<=c1*c1+c2*c2):L*L<=u1*u1+u2*u2:=by
 by_cases c:L*L<=u1*u1+u2*u2
 ·exact c
 ·exfalso
  by_cases cL:L=0
  ·subst cL
   have:=aZ u1;have:=aZ u2
   omega
  have hu:nle u1 u2 L:=⟨h0,by omega⟩
  have hd:=On hu (gz h)
  have e6:c1*c1+c2*c2=(u1*u1+u2*u2)+((u1 - c1)*(u1 - c1)+(u2 - c2)*(u2 - c2))+2*(u1*-(u1 - c1)+u2*-(u2 - c2)):=by grind
  have e7:(L+ε)*(L+ε)=L*L+ε*ε+2*(L*ε):=by grind
  have h2:=h.2
  omega
theorem GS {a b r:Int}(h:nle a b r):nle b a r:=⟨h.1,by have:=h.2;omega⟩
theorem t9 {X Y m w b k e A B:Int}(he:0 < e)(hX:0<=X)(hA:0<=A)(hB1:-A<=B)(hB2:B<=A)
  (t:nle (1024*(A*A - B*B) - e*e*(X*1073741824)) (1024*(2*(A*B)) - e*e*(Y*1073741824)) (e*e))
  (hm0:1<=m) (hm1:m*m<=X*X+Y*Y) (hm2:X*X+Y*Y < (m+1)*(m+1))
  (hw0:724<=w) (hw1:w*w<=(m+X)*524288) (hw2:(m+X)*524288 < (w+1)*(w+1))
  (hb1:-w<=2*w*b - 1048576*Y) (hb2:2*w*b - 1048576*Y<=w) (hk:1048576<=k*w) (hk1:1<=k) :
  nle (A - e*w) (B - e*b) (e*(2+k)):=by
 have hee:=Int.mul_pos he he
 have tx:=ag8 t
 have ty:=B4 t
 -- the size
 have n1:e*e*(m*1073741824 - 1)<=1024*(A*A+B*B):=by
  refine eJ (Int.mul_nonneg (by decide) (Int.add_nonneg (aZ _) (aZ _))) ?_
  have e5:1024*(A*A+B*B)*(1024*(A*A+B*B))=1024*(A*A - B*B)*(1024*(A*A - B*B))+1024*(2*(A*B))*(1024*(2*(A*B))):=by grind
  rw [e5]
  refine RI t (Int.mul_nonneg (by omega) (by omega)) ?_
  have e6:e*e*(m*1073741824 - 1)+e*e=e*e*(m*1073741824):=by grind
  rw [e6]
  have e7:e*e*(X*1073741824)*(e*e*(X*1073741824))+e*e*(Y*1073741824)*(e*e*(Y*1073741824))=(e*e)*(e*e)*((X*X+Y*Y)*1152921504606846976):=by grind
  have e8:e*e*(m*1073741824)*(e*e*(m*1073741824))=(e*e)*(e*e)*((m*m)*1152921504606846976):=by grind
  rw [e7,e8]
  exact Int.mul_le_mul_of_nonneg_left (by omega) (aZ (e*e))
 have n2:1024*(A*A+B*B)<=e*e*((m+1)*1073741824+1):=by
  have hc:nle (e*e*(X*1073741824)) (e*e*(Y*1073741824)) (e*e*((m+1)*1073741824)):=by
   refine⟨Int.mul_nonneg (by omega) (by omega),?_⟩
   have e7:e*e*(X*1073741824)*(e*e*(X*1073741824))+e*e*(Y*1073741824)*(e*e*(Y*1073741824))=(e*e)*(e*e)*((X*X+Y*Y)*1152921504606846976):=by grind
   have e8:e*e*((m+1)*1073741824)*(e*e*((m+1)*1073741824))=(e*e)*(e*e)*(((m+1)*(m+1))*1152921504606846976):=by grind
   rw [e7,e8]
   exact Int.mul_le_mul_of_nonneg_left (by omega) (aZ (e*e))
  have h:=eH t hc
  have h2:=h.2
  have e5:1024*(A*A+B*B)*(1024*(A*A+B*B))=1024*(A*A - B*B)*(1024*(A*A - B*B))+1024*(2*(A*B))*(1024*(2*(A*B))):=by grind
  refine eJ (Int.mul_nonneg (by omega) (by omega)) ?_
  rw [e5]
  have e6:e*e+e*e*((m+1)*1073741824)=e*e*((m+1)*1073741824+1):=by grind
  rw [e6] at h2
  have e9:∀ x y:Int,x - y+y=x:=fun x y=>by omega
  rw [e9,e9] at h2
  exact h2
 have eX:e*e*(X*1073741824)=1073741824*(e*e*X):=by grind
 have em1:e*e*(m*1073741824 - 1)=1073741824*(e*e*m) - e*e:=by grind
 have em2:e*e*((m+1)*1073741824+1)=1073741824*(e*e*m)+1073741825*(e*e):=by grind
 have eA0:e*e*((m+X)*524288)=524288*(e*e*m)+524288*(e*e*X):=by grind
 obtain⟨A0,hA0⟩:∃ A0,A0=(m+X)*524288:=⟨_,rfl⟩
 rw [<- hA0] at hw1 hw2 eA0
 -- bounds of A
 have a1:e*e*A0*1024 - e*e<=1024*(A*A):=by omega
 have a2:1024*(A*A)<=e*e*A0*1024+536870913*(e*e):=by omega
 have ew1:(w+1)*(w+1)=w*w+2*w+1:=by grind
 have iw1:=Int.mul_le_mul_of_nonneg_left hw1 (Int.le_of_lt hee)
 have iw2:=Int.mul_le_mul_of_nonneg_left (show A0<=w*w+2*w by omega) (Int.le_of_lt hee)
 have eww:e*e*(w*w+2*w)=e*e*(w*w)+2*(e*e*w):=by grind
 have ekw:=Int.mul_le_mul_of_nonneg_left hk (Int.le_of_lt hee)
 have e1w:=Int.mul_le_mul_of_nonneg_left hw0 (Int.le_of_lt hee)
 have low:e*(w - 1)<=A:=by
  refine eJ hA ?_
  have e5:e*(w - 1)*(e*(w - 1))=e*e*(w*w) - 2*(e*e*w)+e*e:=by grind
  omega
 have up:2*A<=e*(2*w+2+k):=by
  refine eJ (Int.mul_nonneg (by omega) (by omega)) ?_
  have e5:e*(2*w+2+k)*(e*(2*w+2+k))=4*(e*e*(w*w+2*w))+4*(e*e)+4*(e*e*(k*w))+4*(e*e*k)+e*e*(k*k):=by grind
  have e6:2*A*(2*A)=4*(A*A):=by grind
  have:=Int.mul_nonneg (Int.le_of_lt hee) (show 0<=k by omega)
  have:=Int.mul_nonneg (Int.le_of_lt hee) (aZ k)
  omega
 have up2:A<=2*(e*w):=by
  refine eJ (by have:=Int.mul_nonneg (show 0<=e by omega) (show 0<=w by omega);omega) ?_
  have e5:2*(e*w)*(2*(e*w))=4*(e*e*(w*w)):=by grind
  have h1:e*e*524288<=e*e*A0:=Int.mul_le_mul_of_nonneg_left (by omega) (Int.le_of_lt hee)
  have h2:4*(e*e*w)<=e*e*(w*w):=by
   have:=Int.mul_le_mul_of_nonneg_left (show 4*w<=w*w from Int.mul_le_mul_of_nonneg_right (by omega) (by omega)) (Int.le_of_lt hee)
   have e6:e*e*(4*w)=4*(e*e*w):=by grind
   omega
  omega
 obtain⟨D,hD⟩:∃ D,D=A - e*w:=⟨_,rfl⟩
 have hDlo:-e<=D:=by
  have:e*(w - 1)=e*w - e:=by grind
  omega
 have hDup:2*D<=e*(2+k):=by
  have:e*(2*w+2+k)=2*(e*w)+e*(2+k):=by grind
  omega
 -- the other part
 have key:2*(e*w)*(B - e*b)=(2*(A*B) - e*e*(1048576*Y)) - 2*(D*B) - e*e*(2*w*b - 1048576*Y):=by rw [hD];grind
 have k1:-(e*e)<=1024*(2*(A*B) - e*e*(1048576*Y))/\1024*(2*(A*B) - e*e*(1048576*Y))<=e*e:=by
  have:e*e*(Y*1073741824)=1024*(e*e*(1048576*Y)):=by grind
  omega
 have k3:-(e*e*w)<=e*e*(2*w*b - 1048576*Y)/\e*e*(2*w*b - 1048576*Y)<=e*e*w:=by
  have h1:=Int.mul_le_mul_of_nonneg_left hb1 (Int.le_of_lt hee)
  have h2:=Int.mul_le_mul_of_nonneg_left hb2 (Int.le_of_lt hee)
  rw [Int.mul_neg] at h1
  exact⟨h1,h2⟩
 have ewk:0<=e*e*(k*w):=by omega
 have k2:-(3*(e*e*w)+1048576*(e*e) - e*e)<=2*(D*B)/\2*(D*B)<=3*(e*e*w)+1048576*(e*e) - e*e:=by
  by_cases c:0<=D
  ·have h1:=dg (a:=D) (b:=B) (A:=D) (B:=A) (by omega) (Int.le_refl _) hB1 hB2
   have h2:3*(D*A)<=2*(D*(A+e*w)):=by
    have:=Int.mul_nonneg c (show 0<=2*(e*w) - A by omega)
    have e5:D*(2*(e*w) - A)=2*(D*(A+e*w)) - 3*(D*A):=by grind
    omega
   have e6:D*(A+e*w)=A*A - e*e*(w*w):=by rw [hD];grind
   omega
  ·have hew:A<=e*w:=by omega
   have h1:=dg (a:=D) (b:=B) (A:=e) (B:=e*w) (by omega) (by omega) (by omega) (by omega)
   have e5:e*(e*w)=e*e*w:=by grind
   omega
 have hew:0 < e*w:=Int.mul_pos he (by omega)
 have h2B:-(e*(4+k))<=2*(B - e*b)/\2*(B - e*b)<=e*(4+k):=by
  have e5:(e*w)*(e*(4+k))=4*(e*e*w)+e*e*(k*w):=by grind
  have e6:(e*w)*(2*(B - e*b))=2*(e*w)*(B - e*b):=by grind
  constructor
  ·refine Int.le_of_mul_le_mul_left (a:=e*w) ?_ hew
   rw [Int.mul_neg,e5,e6,key]
   omega
  ·refine Int.le_of_mul_le_mul_left (a:=e*w) ?_ hew
   rw [e5,e6,key]
   omega
 rw [<- hD]
 have hk0:0<=e*(2+k):=Int.mul_nonneg (by omega) (by omega)
 have b1:=dg (a:=2*D) (b:=2*D) (A:=e*(2+k)) (B:=e*(2+k)) (by
  have:e*(2+k)=2*e+e*k:=by grind
  have:=Int.mul_nonneg (show 0<=e by omega) (show 0<=k by omega)
  omega) hDup (by
  have:e*(2+k)=2*e+e*k:=by grind
  have:=Int.mul_nonneg (show 0<=e by omega) (show 0<=k by omega)
  omega) hDup
 have b2:=dg (a:=2*(B - e*b)) (b:=2*(B - e*b)) (A:=e*(4+k)) (B:=e*(4+k)) h2B.1 h2B.2 h2B.1 h2B.2
 refine⟨hk0,?_⟩
 have e5:2*D*(2*D)=4*(D*D):=by grind
 have e6:2*(B - e*b)*(2*(B - e*b))=4*((B - e*b)*(B - e*b)):=by grind
 have e7:e*(2+k)*(e*(2+k))=4*(e*e)+4*(e*e*k)+e*e*(k*k):=by grind
 have e8:e*(4+k)*(e*(4+k))=16*(e*e)+8*(e*e*k)+e*e*(k*k):=by grind
 have h3:=Int.mul_le_mul_of_nonneg_left hk1 (Int.le_of_lt hee)
 have h4:e*e*k<=e*e*(k*k):=Int.mul_le_mul_of_nonneg_left (by have:=Int.mul_le_mul_of_nonneg_right hk1 (show 0<=k by omega);omega) (Int.le_of_lt hee)
 omega
theorem ac1 {z:Zq}(hz:0 < z.nrm):∃ σ:Zq,∀ a:Bl,Zq.In a z->(qQ a).2=0->Zq.In (qQ a).1 σ:=by
 have hd:=z.h
 have hP:0 < 4096*(z.p*z.d*1099511627776)*(4096*(z.p*z.d*1099511627776))+4096*(z.q*z.d*1099511627776)*(4096*(z.q*z.d*1099511627776)):=by
  have e:4096*(z.p*z.d*1099511627776)*(4096*(z.p*z.d*1099511627776))+4096*(z.q*z.d*1099511627776)*(4096*(z.q*z.d*1099511627776))=20282409603651670423947251286016*((z.d*z.d)*z.nrm):=by unfold Zq.nrm;grind
  rw [e]
  have:=Int.mul_pos (Int.mul_pos hd hd) hz
  omega
 obtain⟨a1,b1,s1,k1⟩:=Iv hP
 have s1p:=k1.s0
 refine⟨⟨a1,b1,64*s1*z.d*1048576,Int.mul_pos (Int.mul_pos (by omega) hd) (by decide)⟩,fun a ha h=>?_⟩
 unfold qQ at *
 by_cases c1:a.dn<=a.b.2.2
 ·rw [if_pos c1] at h;exact absurd h (by decide)
 rw [if_neg c1] at h ⊢
 by_cases c2:a.b.1 < 0/\(-a.b.2.2<=a.b.2.1/\a.b.2.1<=a.b.2.2)/\a.b.2.2 ≠ 0
 ·rw [if_pos c2] at h;exact absurd h (by decide)
 rw [if_neg c2] at h ⊢
 obtain⟨e,hok⟩:=iC h
 show nle _ _ _
 rw [e]
 have g:=a.bd
 have dn:=a.dn_bd
 have hdn:=Xs a
 obtain⟨q1,q2⟩:=j6 a.ok
 have hdn2:(sqn a.b:Int) < (a.dn+1)*(a.dn+1):=by
  have:=(il (n:=sqn a.b) (by omega)).2
  have e3:(((isq (sqn a.b)+1)*(isq (sqn a.b)+1):Nat):Int)=(a.dn+1)*(a.dn+1):=by unfold Bl.dn;push_cast;rfl
  rw [<- e3];omega
 rw [q1] at hdn hdn2
 obtain⟨o1,o2,o3⟩:=fM.1 hok
 unfold Dp PN at *
 obtain⟨x,hx⟩:∃ x,x=a.b.1:=⟨_,rfl⟩
 obtain⟨y,hy⟩:∃ y,y=a.b.2.1:=⟨_,rfl⟩
 obtain⟨r,hr⟩:∃ r,r=a.b.2.2:=⟨_,rfl⟩
 obtain⟨m,hm⟩:∃ m,m=a.dn:=⟨_,rfl⟩
 unfold Zq.In at ha
 rw [<- hx,<- hy,<- hr] at ha
 clear h e hok
 rw [<- hx,<- hy,<- hr,<- hm] at o1 o2 o3 ⊢
 rw [<- hx,<- hy,<- hr] at c2
 rw [<- hr,<- hm] at c1
 rw [<- hx,<- hy,<- hm] at hdn hdn2
 rw [<- hx,<- hy,<- hr] at g
 rw [<- hm] at dn
 simp only at o1 o2 o3 ⊢
 have hsz:0<=sz x/\sz x<=67108864/\((x < 0/\sz x=-x)\/(0<=x/\sz x=x)):=by unfold sz;split <;> omega
 have hszy:0<=sz y/\sz y<=67108864/\((y < 0/\sz y=-y)\/(0<=y/\sz y=y)):=by unfold sz;split <;> omega
 -- the two roots of whole numbers
 have v1:=Fb (n:=m*1048576) (by omega) (by omega)
 have v2:=Jf (n:=m*1048576) (by omega) (by omega)
 have v3:=mZ (n:=m*1048576) (by omega) (by omega)
 have w1:=Fb (n:=(m+sz x)*524288) (by omega) (by omega)
 have w2:=Jf (n:=(m+sz x)*524288) (by omega) (by omega)
 have w3:=mZ (n:=(m+sz x)*524288) (by omega) (by omega)
 generalize rtd (m*1048576)=v at *
 generalize rtd ((m+sz x)*524288)=w at *
 have v0:1024<=v:=by
  by_cases c:1024<=v
  ·exact c
  ·have:=Int.mul_le_mul (show v+1<=1024 by omega) (show v+1<=1024 by omega) (by omega) (by decide)
   omega
 have w0:724<=w:=by
  by_cases c:724<=w
  ·exact c
  ·have:=Int.mul_le_mul (show w+1<=724 by omega) (show w+1<=724 by omega) (by omega) (by decide)
   omega
 -- the radius
 have eg:cel (r*1048576) v=cdv (r*1048576) v:=j9 (by omega) (by omega) (by omega) (by omega)
 have ek:cel 1048576 w=cdv 1048576 w:=j9 (by omega) (by omega) (by omega) (by omega)
 obtain⟨g1,g2⟩:=IX (n:=r*1048576) (d:=v) (by omega)
 obtain⟨j1,j2⟩:=IX (n:=1048576) (d:=w) (by omega)
 have hg0:0<=cdv (r*1048576) v/\cdv (r*1048576) v<=1099511627776:=by
  constructor
  ·by_cases c:0<=cdv (r*1048576) v
   ·exact c
   ·have:=Int.mul_le_mul_of_nonneg_left (show cdv (r*1048576) v<=-1 by omega) (show 0<=v by omega)
    omega
  ·by_cases c:cdv (r*1048576) v<=1099511627776
   ·exact c
   ·have:=Int.mul_le_mul (show (1024:Int)<=v by omega) (show (1099511627777:Int)<=cdv (r*1048576) v by omega) (by decide) (by omega)
    omega
 have hk0:1<=cdv 1048576 w/\cdv 1048576 w<=1048576:=by
  constructor
  ·by_cases c:1<=cdv 1048576 w
   ·exact c
   ·have:=Int.mul_le_mul_of_nonneg_left (show cdv 1048576 w<=0 by omega) (show 0<=w by omega)
    omega
  ·by_cases c:cdv 1048576 w<=1048576
   ·exact c
   ·have:=Int.mul_le_mul (show (724:Int)<=w by omega) (show (1048577:Int)<=cdv 1048576 w by omega) (by decide) (by omega)
    omega
 rw [eg,ek] at o3 ⊢
 rw [ak (n:=cdv (r*1048576) v+3) (by omega) (by omega),ak (n:=cdv (r*1048576) v+3+cdv 1048576 w) (by omega) (by omega)] at o3 ⊢
 generalize cdv (r*1048576) v=gg at *
 generalize cdv 1048576 w=k at *
 clear eg ek
 -- the exact root of the centre
 have hQ:0 < 4096*(x*1048576)*(4096*(x*1048576))+4096*(y*1048576)*(4096*(y*1048576)):=by
  have e:4096*(x*1048576)*(4096*(x*1048576))+4096*(y*1048576)*(4096*(y*1048576))=18446744073709551616*(x*x+y*y):=by grind
  rw [e]
  have:=Int.mul_pos (show 0 < m by omega) (show 0 < m by omega)
  omega
 obtain⟨a2,b2,s2,k2⟩:=Iv hQ
 have s2p:=k2.s0
 have YA:=JJ hd ha g.2.2.1 (by omega) hdn c2 v0 v1 v2 g1 g2 k1 k2
 -- the centre of the result
 obtain⟨e2,he2⟩:∃ e2,e2=64*s2:=⟨_,rfl⟩
 have e2p:0 < e2:=by omega
 have t2:nle (1024*(a2*a2 - b2*b2) - e2*e2*(x*1073741824)) (1024*(2*(a2*b2)) - e2*e2*(y*1073741824)) (e2*e2):=by
  have h:=bo 1024 k2.n
  rw [nab (show (0:Int) < 1024 by omega)] at h
  refine ba (ch h ?_ ?_) ?_
  ·rw [he2];grind
  ·rw [he2];grind
  ·have e5:e2*e2=4096*(s2*s2):=by rw [he2];grind
   have h3:=Int.mul_pos s2p s2p
   omega
 have hkw:1048576<=k*w:=by rw [Int.mul_comm];exact j1
 have cen:∃ u1 u2:Int,u1=(if x < 0 then ((dC (sz y) (2*w)).1,if y < 0 then 0 - w else w) else (w,(dC y (2*w)).1)).1/\u2=(if x < 0 then ((dC (sz y) (2*w)).1,if y < 0 then 0 - w else w) else (w,(dC y (2*w)).1)).2 /\
   nle (a2 - e2*u1) (b2 - e2*u2) (e2*(2+k)):=by
  refine⟨_,_,rfl,rfl,?_⟩
  by_cases cx:x < 0
  ·rw [if_pos cx] at o1 o2 ⊢
   simp only at o1 o2 ⊢
   obtain⟨p1,_⟩:=DW (n:=sz y) (d:=2*w) (by omega) o1.1 o1.2
   have hX:sz x=-x:=by omega
   rw [hX] at w1 w2
   have n1:-x*-x=x*x:=Int.neg_mul_neg x x
   by_cases cy:y < 0
   ·rw [if_pos cy]
    have hb:=k2.q1 (by omega)
    have hab:a2<=-b2:=by
     have:=k2.a0
     rcases k2.hn (by omega) with h' | h' <;> omega
    have hY:sz y=-y:=by omega
    have n2:-y*-y=y*y:=Int.neg_mul_neg y y
    have hc:=t9 (X:=-x) (Y:=-y) (m:=m) (w:=w) (b:=(dC (sz y) (2*w)).1) (k:=k) (e:=e2) (A:=-b2) (B:=a2) e2p (by omega) (by omega) (by have:=k2.a0;omega) (by omega)
     (ch (gz t2) (by grind) (by grind)) (by omega) (by rw [n1,n2];exact hdn) (by rw [n1,n2];exact hdn2) w0 w1 w2 (by rw [hY] at p1 ⊢;omega) (by rw [hY] at p1 ⊢;omega) hkw hk0.1
    have hs:=GS hc
    refine⟨hs.1,?_⟩
    have h5:=hs.2
    have e9:(b2 - e2*(0 - w))*(b2 - e2*(0 - w))=(-b2 - e2*w)*(-b2 - e2*w):=by grind
    rw [e9];exact h5
   ·rw [if_neg cy]
    have hb:=k2.q0 (by omega)
    have hab:a2<=b2:=by
     have:=k2.a0
     rcases k2.hn (by omega) with h' | h' <;> omega
    have hY:sz y=y:=by omega
    have hc:=t9 (X:=-x) (Y:=y) (m:=m) (w:=w) (b:=(dC (sz y) (2*w)).1) (k:=k) (e:=e2) (A:=b2) (B:=a2) e2p (by omega) (by omega) (by have:=k2.a0;omega) (by omega)
     (by
      refine⟨t2.1,?_⟩
      have h5:=t2.2
      have e9:(1024*(b2*b2 - a2*a2) - e2*e2*(-x*1073741824))*(1024*(b2*b2 - a2*a2) - e2*e2*(-x*1073741824))=(1024*(a2*a2 - b2*b2) - e2*e2*(x*1073741824))*(1024*(a2*a2 - b2*b2) - e2*e2*(x*1073741824)):=by grind
      rw [e9,Int.mul_comm b2 a2];exact h5)
     (by omega) (by rw [n1];exact hdn) (by rw [n1];exact hdn2) w0 w1 w2 (by rw [hY] at p1 ⊢;omega) (by rw [hY] at p1 ⊢;omega) hkw hk0.1
    exact GS hc
  ·rw [if_neg cx] at o1 o2 ⊢
   simp only at o1 o2 ⊢
   obtain⟨p1,_⟩:=DW (n:=y) (d:=2*w) (by omega) o2.1 o2.2
   have hX:sz x=x:=by omega
   rw [hX] at w1 w2
   obtain⟨h1,h2⟩:=k2.hp (by omega)
   exact t9 (X:=x) (Y:=y) (m:=m) (w:=w) (b:=(dC y (2*w)).1) (k:=k) (e:=e2) (A:=a2) (B:=b2) e2p (by omega) k2.a0 h1 h2 t2 (by omega) hdn hdn2 w0 w1 w2 (by omega) (by omega) hkw hk0.1
 obtain⟨u1,u2,hu1,hu2,hc⟩:=cen
 rw [<- hu1,<- hu2]
 rw [<- he2] at YA
 obtain⟨e1,he1⟩:∃ e1,e1=64*s1*z.d:=⟨_,rfl⟩
 have e1p:0 < e1:=by rw [he1];exact Int.mul_pos (by omega) hd
 rw [<- he1] at YA ⊢
 have f1:=bo e1 hc
 rw [nab e1p] at f1
 have f:=gz (eH YA f1)
 have f2:=bo 1048576 f
 rw [nab (show (0:Int) < 1048576 by decide)] at f2
 refine pm (k:=e2) e2p (Int.mul_nonneg (by omega) (by omega)) (ba (ch f2 ?_ ?_) (Int.le_of_eq ?_))
 ·grind
 ·grind
 ·grind
end Go.AM.K

namespace Go.AM.K
open Go.AM
set_option linter.unusedVariables false
set_option linter.unusedSimpArgs false
structure Pt where
 ix:Int
 s:Int
 pol:Int
 w:Int
 ls:List (Int × Int × Int)
 oi:Int
 ol:Int
def Mz (l:L5)(x:Int × Int × Int):Prop:=(l.1<=x.1/\x.1<=l.2.1)/\(l.2.2.1<=x.2.1/\x.2.1<=l.2.2.2.1)/\l.2.2.2.2=x.2.2
def DM:List L5->List (Int × Int × Int)->Prop
 | [],[]=>True
 | l::ls,x::xs=>Mz l x/\DM ls xs
 | _,_=>False
structure jT (A:Ask)(p:Pt):Prop where
 ix:A.ix=p.ix
 s:A.s1<=p.s/\p.s<=A.s2
 pol:A.pol=p.pol
 w:A.w1<=p.w/\p.w<=A.w2
 ls:DM A.ls p.ls
 oi:A.oi=p.oi
 ol:A.ol=p.ol
 ck:ckA A=0
theorem Vu {lo hi a b:Int}(h:ma lo hi a b=0):a<=lo/\lo<=hi/\hi<=b:=by
 unfold ma at h
 by_cases c:(a<=lo/\lo<=b)/\a<=hi/\hi<=b
 ·rw [if_pos c] at h
  by_cases c2:hi < lo
  ·rw [if_pos c2] at h;exact absurd h (by decide)
  ·omega
 ·rw [if_neg c] at h;exact absurd h (by decide)
def LBd (l:L5):Prop:=(5000<=l.1/\l.2.1<=80000)/\(0<=l.2.2.1/\l.2.2.2.1<=1000000)/\0<=l.2.2.2.2/\l.2.2.2.2<=80000
theorem WO:∀ {ls:List L5},lsE ls=0->∀ {i:Nat} {l:L5},ls[i]?=some l->LBd l:=by
 intro ls
 induction ls with
 | nil=>intro _ i l h;simp at h
 | cons x xs ih=>
  intro h i l hl
  unfold lsE at h
  by_cases c:jA x=0
  ·rw [if_pos c] at h
   cases i with
   | zero=>
    simp only [List.getElem?_cons_zero,Option.some.injEq] at hl
    subst hl
    unfold jA at c
    by_cases c2:BF x=true
    ·have:=of_decide_eq_true c2
     unfold LBd;omega
    ·rw [if_neg c2] at c;exact absurd c (by decide)
   | succ i=>exact ih h (by simpa using hl)
  ·rw [if_neg c] at h;exact absurd h c
theorem Ak:∀ {ls:List L5} {xs:List (Int × Int × Int)},DM ls xs->ls.length=xs.length/\∀ {i:Nat} {l:L5} {x:Int × Int × Int},ls[i]?=some l->xs[i]?=some x->Mz l x:=by
 intro ls
 induction ls with
 | nil=>
  intro xs h
  cases xs with
  | nil=>exact⟨rfl,fun h=>by simp at h⟩
  | cons x xs=>exact absurd h (by intro h;exact h)
 | cons l ls ih=>
  intro xs h
  cases xs with
  | nil=>exact absurd h (by intro h;exact h)
  | cons x xs=>
   obtain⟨h1,h2⟩:=ih h.2
   refine⟨by simp [h1],fun {i m y} hm hy=>?_⟩
   cases i with
   | zero=>
    simp only [List.getElem?_cons_zero,Option.some.injEq] at hm hy
    subst hm;subst hy
    exact h.1
   | succ i=>exact h2 (by simpa using hm) (by simpa using hy)
def gZ (p:Pt):Nat->Int × Int
 | 0=>(p.ix,0)
 | n+1=>match p.ls[n]? with
  | some x=>(x.1,x.2.2)
  | none=>(p.oi,p.ol)
theorem C7 {p:Pt}{n:Nat}{x:Int × Int × Int}(h:p.ls[n]?=some x):gZ p (n+1)=(x.1,x.2.2):=by
 show (match p.ls[n]? with
  | some x=>(x.1,x.2.2)
  | none=>(p.oi,p.ol))=_
 rw [h]
theorem Ru {p:Pt}{n:Nat}(h:p.ls[n]?=none):gZ p (n+1)=(p.oi,p.ol):=by
 show (match p.ls[n]? with
  | some x=>(x.1,x.2.2)
  | none=>(p.oi,p.ol))=_
 rw [h]
theorem AO {A:Ask}{p:Pt}(h:jT A p)(n:Nat):(5000<=(iG A n).1/\(iG A n).1<=(gZ p n).1)/\((gZ p n).1<=(iG A n).2.1/\(iG A n).2.1<=80000)/\(iG A n).2.2=(gZ p n).2/\0<=(gZ p n).2/\(gZ p n).2<=80000:=by
 obtain⟨c1,c2,c3,c4,c5,c6,c7,c8⟩:=yB h.ck
 cases n with
 | zero=>
  show (5000<=A.ix/\A.ix<=p.ix)/\(p.ix<=A.ix/\A.ix<=80000)/\(0:Int)=0/\(0:Int)<=0/\(0:Int)<=80000
  have:=h.ix
  omega
 | succ n=>
  obtain⟨hl,hx⟩:=Ak h.ls
  cases e:A.ls[n]? with
  | none=>
   have e2:p.ls[n]?=none:=List.getElem?_eq_none_iff.2 (by rw [<- hl];exact List.getElem?_eq_none_iff.1 e)
   rw [Dt e,Ru e2]
   have:=h.oi;have:=h.ol
   simp only
   omega
  | some l=>
   obtain⟨x,e2⟩:∃ x,p.ls[n]?=some x:=by
    have:n < p.ls.length:=by rw [<- hl];exact (List.getElem?_eq_some_iff.1 e).1
    exact⟨p.ls[n],List.getElem?_eq_getElem this⟩
   rw [uW e,C7 e2]
   have hb:=WO c6 e
   have hxx:=hx e e2
   unfold LBd at hb
   unfold Mz at hxx
   simp only
   omega
def JV (N k:Int):Zq:=if k=0 then Zq.real N 10000 (by decide) else (Zq.real N 10000 (by decide)).add (Zq.real k 10000 (by decide)).trn
theorem IP {A:Ask}{p:Pt}(h:jT A p){n:Nat}{e:Int}(he:(jv A n e).2=0):e=0/\Zq.In (jv A n e).1 (JV (gZ p n).1 (gZ p n).2):=by
 obtain⟨m1,m2,m3,m4,m5⟩:=AO h n
 unfold jv JV at *
 rw [<- m3] at m4 m5 ⊢
 rw [aL,ak (n:=(iG A n).1*1048576) (by omega) (by omega),ak (n:=(iG A n).2.1*1048576) (by omega) (by omega),FV (by omega) (by omega) (by decide),EM (by omega) (by omega) (by decide) (by decide)] at he ⊢
 generalize hu:jg e ((iG A n).1*1048576 / 10000) (((iG A n).2.1*1048576+10000 - 1) / 10000)=u at *
 have hin:u.2=0->e=0/\Zq.In u.1 (Zq.real (gZ p n).1 10000 (by decide)):=by
  intro h0
  subst hu
  obtain⟨a1,a2,a3⟩:=zi h0
  rw [a2]
  exact⟨a1,rK (by decide) (by omega) (by omega) a3⟩
 by_cases c:(iG A n).2.2=0
 ·rw [if_pos c] at he ⊢
  rw [if_pos c]
  exact hin he
 ·rw [if_neg c,aL] at he ⊢
  rw [if_neg c]
  generalize hf:wc u.2 (iG A n).2.2 10000=f at *
  by_cases c2:f.2=0
  ·rw [if_pos c2,aL,aL] at he ⊢
   simp only at he ⊢
   obtain⟨b1,b2,b3⟩:=A1 he
   rw [b2]
   subst hf
   obtain⟨f1,f2,f3⟩:=Hz c2
   rw [f2] at b1 b3 ⊢
   obtain⟨e0,hu1⟩:=hin f1
   exact⟨e0,PC hu1 (aaX (O3 f3 (by decide)) b1) b3⟩
  ·rw [if_neg c2,aL] at he
   simp only at he
   obtain⟨b1,_⟩:=A1 he
   exact absurd b1 c2
def rrZ (z:Zq):Zq:=if 0<=z.p then ⟨rtd (z.p*1048576*1048576 / z.d),0,1048576,by decide⟩ else ⟨0,rtd (-z.p*1048576*1048576 / z.d),1048576,by decide⟩
theorem HQ {a b:Int}(h0:0<=a)(h:a<=b)(hb:b < 288230376151711744):rtd a<=rtd b:=by
 have h1:=Fb (n:=a) h0 (by omega)
 have h2:=Jf (n:=b) (by omega) hb
 have h3:=mZ (n:=a) h0 (by omega)
 have h4:=mZ (n:=b) (by omega) hb
 by_cases c:rtd a<=rtd b
 ·exact c
 ·have:=Int.mul_le_mul (show rtd b+1<=rtd a by omega) (show rtd b+1<=rtd a by omega) (by omega) (by omega)
  omega
theorem YF {a b:Int}(h0:0<=a)(h:a<=b)(hb:b < 288230376151711744):rtd a<=rtu b:=by
 have h1:=HQ h0 h hb
 have h2:=mZ (n:=b) (by omega) hb
 unfold rtu
 split <;> omega
theorem ahg {lo hi P D:Int}(hD:0 < D)(h0:0<=lo)(h1:D*lo<=P*1048576)(h2:P*1048576<=D*hi)(hr:(cq lo hi).2=0)(h:(cq (rtd (lo*1048576)) (rtu (hi*1048576))).2=0) :
  Zq.In (cq (rtd (lo*1048576)) (rtu (hi*1048576))).1 ⟨rtd (P*1048576*1048576 / D),0,1048576,by decide⟩:=by
 obtain⟨r1,r2,r3⟩:=oE hr
 have n1:lo*1048576<=P*1048576*1048576 / D:=by
  rw [Int.le_ediv_iff_mul_le hD]
  have:lo*1048576*D=1048576*(D*lo):=by grind
  omega
 have n2:P*1048576*1048576 / D<=hi*1048576:=by
  have h3:P*1048576*1048576<=hi*1048576*D:=by
   have:hi*1048576*D=1048576*(D*hi):=by grind
   omega
  have:=Int.ediv_le_ediv hD h3
  rw [Int.mul_ediv_cancel _ (by omega)] at this
  exact this
 have a:=HQ (a:=lo*1048576) (by omega) n1 (by omega)
 have b:=YF (b:=hi*1048576) (by omega) n2 (by omega)
 exact rK (D:=1048576) (by decide) (by omega) (by omega) h
theorem XZ {lo hi:Int}{z:Zq}(h1:z.d*lo<=z.p*1048576)(h2:z.p*1048576<=z.d*hi)(h:(mn lo hi).2=0) :
  Zq.In (mn lo hi).1 (rrZ z)/\(lo < 0->(rrZ z).p=0)/\(¬ lo < 0->(rrZ z).q=0):=by
 have hd:=z.h
 unfold mn at *
 by_cases c:(cq lo hi).2 ≠ 0
 ·rw [if_pos c] at h;exact absurd h c
 ·rw [if_neg c] at h ⊢
  have c':(cq lo hi).2=0:=by omega
  by_cases c1:0<=lo
  ·rw [if_pos c1] at h ⊢
   have hp:0<=z.p:=by
    have:=Int.mul_nonneg (Int.le_of_lt hd) c1
    omega
   have e:rrZ z=⟨rtd (z.p*1048576*1048576 / z.d),0,1048576,by decide⟩:=if_pos hp
   rw [e]
   exact⟨ahg hd c1 h1 h2 c' h,fun hh=>absurd hh (by omega),fun _=>rfl⟩
  ·rw [if_neg c1] at h ⊢
   by_cases c2:hi<=0
   ·rw [if_pos c2] at h ⊢
    by_cases c3:(rr1 (-hi) (-lo)).2 ≠ 0
    ·rw [if_pos c3] at h;exact absurd h c3
    ·rw [if_neg c3] at h ⊢
     have hp:z.p<=0:=by
      have:=Int.mul_nonneg (Int.le_of_lt hd) (show 0<=-hi by omega)
      rw [Int.mul_neg] at this
      omega
     have c3':(rr1 (-hi) (-lo)).2=0:=by omega
     unfold rr1 at c3' h ⊢
     by_cases c4:(cq (-hi) (-lo)).2 ≠ 0
     ·rw [if_pos c4] at c3';exact absurd c3' c4
     ·rw [if_neg c4,if_pos (by omega)] at c3' h ⊢
      have k:=ahg (lo:=-hi) (hi:=-lo) (P:=-z.p) hd (by omega) (by rw [Int.mul_neg];omega) (by rw [Int.mul_neg];omega) (by omega) c3'
      have k2:=aaX k h
      have e:rrZ z=⟨0,rtd (-z.p*1048576*1048576 / z.d),1048576,by decide⟩:=by
       unfold rrZ
       by_cases hp0:0<=z.p
       ·rw [if_pos hp0]
        have:z.p=0:=by omega
        rw [this]
        have e0:(0:Int)*1048576*1048576 / z.d=0:=by rw [Int.zero_mul,Int.zero_mul,Int.zero_ediv]
        have e1:-(0:Int)*1048576*1048576 / z.d=0:=by rw [Int.neg_zero];exact e0
        have e2:rtd 0=0:=by decide
        simp only [e0,e1,e2]
       ·rw [if_neg hp0]
      rw [e]
      exact⟨k2,fun _=>rfl,fun hh=>absurd hh (by omega)⟩
   ·rw [if_neg c2] at h;exact absurd h (by decide)
def vZ (p:Pt)(n:Nat):Zq:=((JV (gZ p n).1 (gZ p n).2).mul (JV (gZ p n).1 (gZ p n).2)).sub ((Zq.real (p.ix*p.s) 100000000 (by decide)).mul (Zq.real (p.ix*p.s) 100000000 (by decide)))
structure H7 (p:Pt)(n:Nat)(σ:Zq):Prop where
 i:∀ (A:Ask) (e:Int),jT A p->(dq A n e).2.2=0->e=0/\Zq.In (dq A n e).1 σ/\((gZ p n).2=0->((dq A n e).2.1=true->σ.p=0)/\((dq A n e).2.1=false->σ.q=0))/\((gZ p n).2 ≠ 0->(dq A n e).2.1=false)
theorem Ct (p:Pt)(n:Nat):∃ σ,H7 p n σ:=by
 -- what goes before the root
 have pre:∀ (A:Ask) (e:Int),jT A p->∃ d:Bl × Int,dq A n e=(if (iG A n).2.2=0 then
   pG (fJ d.2 d.1) fun lo hi _ _ e6=>if e6=0 then bnd (mn lo hi) fun q e7=>(q,decide (lo < 0),e7) else (Bl0,false,e6)
   else if d.2=0 then bnd (qQ d.1) fun q e6=>(q,false,e6) else (Bl0,false,d.2))/\(d.2=0->e=0/\Zq.In d.1 (vZ p n)):=by
  intro A e h
  unfold dq
  rw [aL,aL,aL,aL,aL]
  obtain⟨c1,c2,_⟩:=yB h.ck
  have hs:=Vu c2
  have hs2:=h.s
  have m1:=jq (x:=A.ix) (y:=A.s1) (A:=80000) (B:=9999) (by omega) c1.2 (by omega) (by omega)
  have m2:=jq (x:=A.ix) (y:=A.s2) (A:=80000) (B:=9999) (by omega) c1.2 (by omega) (by omega)
  rw [ak (n:=A.ix*A.s1) (by omega) (by omega),ak (n:=A.ix*A.s2) (by omega) (by omega),ak (n:=A.ix*A.s1*1048576) (by omega) (by omega),ak (n:=A.ix*A.s2*1048576) (by omega) (by omega),
   FV (by omega) (by omega) (by decide),EM (by omega) (by omega) (by decide) (by decide)]
  generalize hu:jv A n e=u
  generalize hb:jg u.2 (A.ix*A.s1*1048576 / 100000000) ((A.ix*A.s2*1048576+100000000 - 1) / 100000000)=b
  generalize hv:two be b.2 u.1 u.1=v
  generalize hc:two be v.2 b.1 b.1=c
  generalize hd:two gG c.2 v.1 c.1=d
  refine⟨d,rfl,fun h0=>?_⟩
  obtain⟨x4,y4⟩:=cP hd h0
  obtain⟨x3,y3⟩:=cP hc x4
  obtain⟨x2,y2⟩:=cP hv x3
  subst hb
  obtain⟨x1,r1,r2⟩:=zi x2
  subst hu
  obtain⟨e0,hi⟩:=IP h x1
  have q1:A.ix*A.s1<=p.ix*p.s:=by rw [<- h.ix];exact Int.mul_le_mul_of_nonneg_left hs2.1 (by omega)
  have q2:p.ix*p.s<=A.ix*A.s2:=by rw [<- h.ix];exact Int.mul_le_mul_of_nonneg_left hs2.2 (by omega)
  have hbb:Zq.In (jg (jv A n e).2 (A.ix*A.s1*1048576 / 100000000) ((A.ix*A.s2*1048576+100000000 - 1) / 100000000)).1 (Zq.real (p.ix*p.s) 100000000 (by decide)):=by
   rw [r1]
   exact rK (by decide) (by omega) (by omega) r2
  subst y2
  have k2:=kV hi hi x3
  subst y3
  have k3:=kV hbb hbb x4
  subst y4
  exact⟨e0,HF k2 k3 h0⟩
 by_cases ck:(gZ p n).2=0
 ·refine⟨rrZ (vZ p n),⟨fun A e h h0=>?_⟩⟩
  obtain⟨d,e1,e2⟩:=pre A e h
  obtain⟨_,_,m3,_⟩:=AO h n
  rw [e1,if_pos (by omega),eB] at h0 ⊢
  by_cases c:(fJ d.2 d.1).2=0
  ·rw [if_pos c,aL] at h0 ⊢
   simp only at h0 ⊢
   obtain⟨p1,p2⟩:=xa c
   rw [p2] at h0 ⊢
   simp only at h0 ⊢
   obtain⟨e0,hi⟩:=e2 p1
   obtain⟨⟨i1,i2⟩,_⟩:=ri hi
   obtain⟨k1,k2,k3⟩:=XZ i1 i2 h0
   exact⟨e0,k1,fun _=>⟨fun hh=>k2 (of_decide_eq_true hh),fun hh=>k3 (of_decide_eq_false hh)⟩,fun hh=>absurd ck hh⟩
  ·rw [if_neg c] at h0;exact absurd h0 c
 ·-- with loss
  by_cases cz:0 < (vZ p n).nrm
  ·obtain⟨σ,hσ⟩:=ac1 cz
   refine⟨σ,⟨fun A e h h0=>?_⟩⟩
   obtain⟨d,e1,e2⟩:=pre A e h
   obtain⟨_,_,m3,_⟩:=AO h n
   rw [e1,if_neg (by omega)] at h0 ⊢
   by_cases c:d.2=0
   ·rw [if_pos c,aL] at h0 ⊢
    simp only at h0 ⊢
    obtain⟨e0,hi⟩:=e2 c
    exact⟨e0,hσ _ hi h0,fun hh=>absurd hh ck,fun _=>trivial⟩
   ·rw [if_neg c] at h0;exact absurd h0 c
  ·refine⟨Zq.real 0 1 (by decide),⟨fun A e h h0=>?_⟩⟩
   obtain⟨d,e1,e2⟩:=pre A e h
   obtain⟨_,_,m3,_⟩:=AO h n
   rw [e1,if_neg (by omega)] at h0
   by_cases c:d.2=0
   ·rw [if_pos c,aL] at h0
    simp only at h0
    obtain⟨e0,hi⟩:=e2 c
    exfalso
    refine cz (ahc hi ?_)
    unfold qQ at h0
    by_cases c5:d.1.dn<=d.1.b.2.2
    ·rw [if_pos c5] at h0;exact absurd h0 (by decide)
    ·omega
   ·rw [if_neg c] at h0;exact absurd h0 c
def Ah (p:Pt)(n:Nat)(σ:Zq):Zq:=if p.pol=0 then σ else ((JV (gZ p n).1 (gZ p n).2).mul (JV (gZ p n).1 (gZ p n).2)).quo σ
theorem Au {A:Ask}{p:Pt}{n:Nat}{σ:Zq}(hσ:H7 p n σ)(h:jT A p){e:Int}(h0:(kx A n e).2=0):e=0/\Zq.In (kx A n e).1 (Ah p n σ):=by
 unfold kx Ah at *
 rw [iF] at h0 ⊢
 rw [<- h.pol]
 by_cases c:A.pol=0
 ·rw [if_pos c] at h0 ⊢
  rw [if_pos c]
  obtain⟨e0,k,_⟩:=hσ.i A e h h0
  exact⟨e0,k⟩
 ·rw [if_neg c,aL,aL,aL] at h0 ⊢
  rw [if_neg c]
  generalize hu:jv A n (dq A n e).2.2=u at *
  generalize hv:two be u.2 u.1 u.1=v at *
  generalize hw:two mG v.2 v.1 (dq A n e).1=w at *
  simp only at h0 ⊢
  obtain⟨x2,y2⟩:=cP hw h0
  obtain⟨x1,y1⟩:=cP hv x2
  subst hu
  obtain⟨x0,ki⟩:=IP h x1
  obtain⟨e0,k,_⟩:=hσ.i A e h x0
  subst y1
  have k2:=kV ki ki x2
  subst y2
  exact⟨e0,Xv k2 k h0⟩
theorem VB {p:Pt}{n:Nat}{σ:Zq}(hk:(gZ p n).2=0)(hp:σ.p=0):(Ah p n σ).p=0:=by
 unfold Ah JV
 rw [if_pos hk]
 split
 ·exact hp
 ·unfold Zq.quo Zq.mul Zq.real
  split
  ·simp only [hp];grind
  ·rfl
end Go.AM.K
