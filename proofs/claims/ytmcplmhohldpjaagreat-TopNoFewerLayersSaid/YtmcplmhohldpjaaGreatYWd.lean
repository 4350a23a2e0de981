/- Balls: roots. -/
import Derived.Test.YtmcplmhohldpjaaGreatYWc
namespace Go.AM.K
set_option linter.unusedVariables false
set_option linter.unusedSimpArgs false
variable {α:Type}
def rtd (n:Int):Int:=(isq n.toNat:Int)
def rtu (n:Int):Int:=if rtd n*rtd n < n then rtd n+1 else rtd n
theorem nF {n:Int}(h1:0<=n)(h2:n < 288230376151711744){k:Int->Option α}:eF α n k=k (rtd n):=by
 obtain⟨m,rfl⟩:∃ m:Nat,n=(m:Int):=⟨n.toNat,by omega⟩
 rw [rH (by omega)]
 unfold rtd
 rw [Int.toNat_natCast]
theorem mZ {n:Int}(h1:0<=n)(h2:n < 288230376151711744):0<=rtd n/\rtd n < 536870912:=by
 have:=XX (n:=n.toNat) (by omega)
 unfold rtd
 omega
theorem Fb {n:Int}(h1:0<=n)(h2:n < 288230376151711744):rtd n*rtd n<=n:=by
 have:=I1 (n:=n.toNat) (by omega)
 have e:((isq n.toNat*isq n.toNat:Nat):Int)=rtd n*rtd n:=by unfold rtd;push_cast;rfl
 rw [<- e]
 omega
theorem PP {n:Int}(h1:1<=n)(h2:n < 288230376151711744):1<=rtd n:=by
 have:=Js (n:=n.toNat) (a:=1) (by omega) (by omega)
 unfold rtd
 omega
theorem LR {n:Int}(h1:0<=n)(h2:n < 288230376151711744){k:Int->Option α}:m6 α n k=k (rtu n):=by
 have h:=mZ h1 h2
 have q:=Fb h1 h2
 have q0:=Int.mul_nonneg h.1 h.1
 simp only [m6,af,Fc]
 rw [nF h1 h2]
 unfold rtu
 generalize rtd n=r at *
 rw [ak (n:=r*r) (by omega) (by omega),bi,ak (n:=r+1) (by omega) (by omega)]
 split <;> rfl
def PN (x y w:Int):Int × Int:=
 if x < 0 then ((dC (sz y) (2*w)).1,if y < 0 then 0 - w else w) else (w,(dC y (2*w)).1)
def Dp (x y r m w v:Int):B3:=
 ((PN x y w).1,(PN x y w).2,w64 (w64 (cel (r*1048576) v+3)+cel 1048576 w))
def qQ (a:Bl):Bl × Int:=
 if a.dn<=a.b.2.2 then (Bl0,9) else
 if a.b.1 < 0/\(-a.b.2.2<=a.b.2.1/\a.b.2.1<=a.b.2.2)/\a.b.2.2 ≠ 0 then (Bl0,14) else
 pz (Dp a.b.1 a.b.2.1 a.b.2.2 a.dn (rtd ((a.dn+sz a.b.1)*524288)) (rtd (a.dn*1048576)))
theorem Wt {x y r m:Int}(hx:-67108864<=x/\x<=67108864)(hy:-67108864<=y/\y<=67108864)(hr:0<=r/\r<=67108864)(hm:r < m)(hm2:m<=94906265)
  {k:Int->Int->Int->Int->Option α} (h101:∀ (f:Int->Option α),mr α x y f=f m) :
  qe α x y r k=if x < 0/\(-r<=y/\y<=r)/\r ≠ 0 then k x y r 14 else
   (fun (V:B3)=>k V.1 V.2.1 V.2.2 0) (Dp x y r m (rtd ((m+sz x)*524288)) (rtd (m*1048576))):=by
 have sx:=X5 hx.1 hx.2
 have sy:=X5 hy.1 hy.2
 simp only [qe,af,Fo]
 rw [h101,decide_eq_false (by omega),ap]
 simp only [r6,af,De]
 rw [Mb.f140_eq (by omega) (by omega),bi]
 have body:∀ (z:Option α),z=(fun (V:B3)=>k V.1 V.2.1 V.2.2 0) (Dp x y r m (rtd ((m+sz x)*524288)) (rtd (m*1048576))) ->
   nw α x (fun x17=>eF α (w64 (w64 (m+x17)*524288)) fun x18=>lC α y 1048576 (w64 (2*x18)) fun x19 x20=>
    mf α x18 x y (fun x35 x36=>eF α (w64 (m*1048576)) fun x41=>dK α (w64 (r*1048576)) x41 fun x42=>dK α 1048576 x18 fun x43=>k x35 x36 (w64 (w64 (x42+3)+x43)) 0)
     (fun x37 x38=>eF α (w64 (m*1048576)) fun x44=>dK α (w64 (r*1048576)) x44 fun x45=>dK α 1048576 x18 fun x46=>k x38 x18 (w64 (w64 (x45+3)+x46)) 0)
     (fun x39=>eF α (w64 (m*1048576)) fun x47=>dK α (w64 (r*1048576)) x47 fun x48=>dK α 1048576 x18 fun x49=>k x18 x19 (w64 (w64 (x48+3)+x49)) 0))=z:=by
  rintro z rfl
  rw [Eq (by omega) (by omega),ak (n:=m+sz x) (by omega) (by omega),ak (n:=(m+sz x)*524288) (by omega) (by omega),nF (by omega) (by omega)]
  have hw:=mZ (n:=(m+sz x)*524288) (by omega) (by omega)
  have hw1:=PP (n:=(m+sz x)*524288) (by omega) (by omega)
  have hv:=mZ (n:=m*1048576) (by omega) (by omega)
  have hv1:=PP (n:=m*1048576) (by omega) (by omega)
  rw [ak (n:=m*1048576) (by omega) (by omega),ak (n:=r*1048576) (by omega) (by omega)]
  simp only [nF (n:=m*1048576) (by omega) (by omega)]
  generalize rtd ((m+sz x)*524288)=w at *
  generalize rtd (m*1048576)=v at *
  rw [ak (n:=2*w) (by omega) (by omega),xg (by omega) (by omega) (by omega) (by omega)]
  simp only [gN (n:=r*1048576) (d:=v) (by omega),gN (n:=1048576) (d:=w) (by omega)]
  simp only [mf,af,Dn]
  rw [bi]
  unfold Dp PN
  by_cases c1:x < 0
  ·rw [if_pos c1,Eq (by omega) (by omega),ak (n:=2*w) (by omega) (by omega),xg (by omega) (by omega) (by omega) (by omega),bi,ak (n:=0 - w) (by omega) (by omega)]
   generalize dC (sz y) (2*w)=X
   rw [if_pos c1]
   by_cases c2:y < 0
   ·rw [if_pos c2,if_pos c2]
   ·rw [if_neg c2,if_neg c2]
  ·rw [if_neg c1,if_neg c1]
 by_cases c1:x < 0
 ·rw [if_pos c1,bi]
  by_cases c2:-r<=y/\y<=r
  ·rw [if_pos c2]
   by_cases c3:r=0
   ·rw [show (r != 0)=false by rw [c3];rfl,ap,if_neg (fun h=>h.2.2 c3)]
    exact body _ rfl
   ·rw [bne_iff_ne.2 c3,aq,if_pos ⟨c1,c2,c3⟩]
  ·rw [if_neg c2,ap,if_neg (fun h=>c2 h.2.1)]
   exact body _ rfl
 ·rw [if_neg c1,ap,if_neg (fun h=>c1 h.1)]
  exact body _ rfl
theorem ai5 (a:Bl){k:Nat->Nat->Int->Int->Option α}:DB α a.n1 a.n2 a.r k=KB k (qQ a):=by
 have g:=a.bd
 have d:=a.dn_bd
 simp only [DB,af,WL,Ei,af,L3,qk,bne_self_eq_false,ap]
 unfold qQ
 by_cases c:a.dn<=a.b.2.2
 ·rw [if_pos c]
  simp only [qe,af,Fo,xT]
  show cK (decide (a.dn<=a.b.2.2)) _ _=_
  rw [decide_eq_true c,aq,show ((9:Int) != 0)=true from rfl,aq]
  exact KB0
 ·rw [if_neg c]
  show qe α a.b.1 a.b.2.1 a.b.2.2 _=_
  rw [Wt g.1 g.2.1 g.2.2 (m:=a.dn) (by omega) d.2 (fun f=>xT a)]
  generalize Dp a.b.1 a.b.2.1 a.b.2.2 a.dn (rtd ((a.dn+sz a.b.1)*524288)) (rtd (a.dn*1048576))=V
  by_cases c2:a.b.1 < 0/\(-a.b.2.2<=a.b.2.1/\a.b.2.1<=a.b.2.2)/\a.b.2.2 ≠ 0
  ·rw [if_pos c2,if_pos c2,show ((14:Int) != 0)=true from rfl,aq]
   exact KB0
  ·rw [if_neg c2,if_neg c2]
   show cK ((0:Int) != 0) _ _=_
   rw [show ((0:Int) != 0)=false from rfl,ap,jU]
def rr1 (lo hi:Int):Bl × Int:=
 if (cq lo hi).2 ≠ 0 then (Bl0,(cq lo hi).2) else
 if 0<=lo then cq (rtd (lo*1048576)) (rtu (hi*1048576)) else (Bl0,14)
def mn (lo hi:Int):Bl × Int:=
 if (cq lo hi).2 ≠ 0 then (Bl0,(cq lo hi).2) else
 if 0<=lo then cq (rtd (lo*1048576)) (rtu (hi*1048576)) else
 if hi<=0 then (if (rr1 (-hi) (-lo)).2 ≠ 0 then (Bl0,(rr1 (-hi) (-lo)).2) else z8 (rr1 (-hi) (-lo)).1) else (Bl0,14)
theorem oE {lo hi:Int}(h:(cq lo hi).2=0):(-67108864<=lo/\lo<=67108864)/\(-67108864<=hi/\hi<=67108864)/\lo<=hi:=by
 unfold cq oB at h
 by_cases c:decide (-67108864<=lo/\lo<=67108864)=true/\decide (-67108864<=hi/\hi<=67108864)=true
 ·rw [if_pos c] at h
  by_cases c2:hi < lo
  ·rw [if_pos c2] at h;cases h
  ·have h1:=of_decide_eq_true c.1
   have h2:=of_decide_eq_true c.2
   exact⟨h1,h2,by omega⟩
 ·rw [if_neg c] at h;cases h
theorem Uu {lo hi:Int}(hn:0<=lo\/0 < hi\/(cq lo hi).2 ≠ 0){k:Nat->Nat->Int->Int->Option α}:Gl α lo hi k=KB k (rr1 lo hi):=by
 simp only [Gl,af,Wa,Fe]
 unfold rr1
 show cK ((cq lo hi).2 != 0) _ _=_
 by_cases c:(cq lo hi).2=0
 ·rw [c,if_neg (fun h=>h rfl),show ((0:Int) != 0)=false from rfl,ap,bi]
  obtain⟨g1,g2,g3⟩:=oE c
  by_cases c2:0<=lo
  ·rw [if_pos c2,if_pos c2,ak (n:=lo*1048576) (by omega) (by omega),ak (n:=hi*1048576) (by omega) (by omega),nF (by omega) (by omega),LR (by omega) (by omega)]
  ·have:¬ hi<=0:=by
    rcases hn with h | h | h
    ·omega
    ·omega
    ·exact absurd c h
   rw [if_neg c2,if_neg c2,decide_eq_false this,ap]
   exact KB0
 ·rw [if_pos c,bne_iff_ne.2 c,aq]
  exact KB0
theorem al0 {lo hi:Int}{k:Nat->Nat->Int->Int->Option α}:B5 α lo hi k=KB k (mn lo hi):=by
 simp only [B5,af,Y8,Fe]
 unfold mn
 show cK ((cq lo hi).2 != 0) _ _=_
 by_cases c:(cq lo hi).2=0
 ·rw [c,if_neg (fun h=>h rfl),show ((0:Int) != 0)=false from rfl,ap,bi]
  obtain⟨g1,g2,g3⟩:=oE c
  by_cases c2:0<=lo
  ·rw [if_pos c2,if_pos c2,ak (n:=lo*1048576) (by omega) (by omega),ak (n:=hi*1048576) (by omega) (by omega),nF (by omega) (by omega),LR (by omega) (by omega)]
  ·rw [if_neg c2,if_neg c2,bi]
   by_cases c3:hi<=0
   ·rw [if_pos c3,if_pos c3,ak (n:=0 - hi) (by omega) (by omega),ak (n:=0 - lo) (by omega) (by omega),Int.zero_sub,Int.zero_sub,Uu (Or.inl (by omega))]
    generalize rr1 (-hi) (-lo)=u
    show cK (u.2 != 0) _ _=_
    by_cases c4:u.2=0
    ·rw [c4,if_neg (fun h=>h rfl),show ((0:Int) != 0)=false from rfl,ap]
     exact LZ u.1
    ·rw [if_pos c4,bne_iff_ne.2 c4,aq]
     exact KB0
   ·rw [if_neg c3,if_neg c3]
    exact KB0
 ·rw [if_pos c,bne_iff_ne.2 c,aq]
  exact KB0
end Go.AM.K
