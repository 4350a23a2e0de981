/- Balls: roots. -/
import Derived.Test.YtmcplmhohldpjaaGreatYWc
namespace Go.AM.K
set_option linter.unusedVariables false
set_option linter.unusedSimpArgs false
variable {α:Type}
def rtd (n:Int):Int:=(isq n.toNat:Int)
def rtu (n:Int):Int:=if rtd n*rtd n < n then rtd n+1 else rtd n
theorem f141_int {n:Int}(h1:0<=n)(h2:n < 288230376151711744){k:Int->Option α}:f141_0 α n k=k (rtd n):=by
 obtain⟨m,rfl⟩:∃ m:Nat,n=(m:Int):=⟨n.toNat,by omega⟩
 rw [f141_eq (by omega)]
 unfold rtd
 rw [Int.toNat_natCast]
theorem rtd_bd {n:Int}(h1:0<=n)(h2:n < 288230376151711744):0<=rtd n/\rtd n < 536870912:=by
 have:=isq_lt (n:=n.toNat) (by omega)
 unfold rtd
 omega
theorem rtd_sq {n:Int}(h1:0<=n)(h2:n < 288230376151711744):rtd n*rtd n<=n:=by
 have:=isq_le (n:=n.toNat) (by omega)
 have e:((isq n.toNat*isq n.toNat:Nat):Int)=rtd n*rtd n:=by unfold rtd;push_cast;rfl
 rw [<- e]
 omega
theorem rtd_pos {n:Int}(h1:1<=n)(h2:n < 288230376151711744):1<=rtd n:=by
 have:=isq_ge (n:=n.toNat) (a:=1) (by omega) (by omega)
 unfold rtd
 omega
theorem f144_eq {n:Int}(h1:0<=n)(h2:n < 288230376151711744){k:Int->Option α}:f144_0 α n k=k (rtu n):=by
 have h:=rtd_bd h1 h2
 have q:=rtd_sq h1 h2
 have q0:=Int.mul_nonneg h.1 h.1
 simp only [f144_0,sld_eq,f144_0g]
 rw [f141_int h1 h2]
 unfold rtu
 generalize rtd n=r at *
 rw [w64_in (n:=r*r) (by omega) (by omega),cK_dec,w64_in (n:=r+1) (by omega) (by omega)]
 split <;> rfl
def rootX (x y w:Int):Int × Int:=
 if x < 0 then ((qtnE (sz y) (2*w)).1,if y < 0 then 0 - w else w) else (w,(qtnE y (2*w)).1)
def rootV (x y r m w v:Int):B3:=
 ((rootX x y w).1,(rootX x y w).2,w64 (w64 (cel (r*1048576) v+3)+cel 1048576 w))
def rootE (a:Bl):Bl × Int:=
 if a.dn<=a.b.2.2 then (Bl0,9) else
 if a.b.1 < 0/\(-a.b.2.2<=a.b.2.1/\a.b.2.1<=a.b.2.2)/\a.b.2.2 ≠ 0 then (Bl0,14) else
 toBl (rootV a.b.1 a.b.2.1 a.b.2.2 a.dn (rtd ((a.dn+sz a.b.1)*524288)) (rtd (a.dn*1048576)))
theorem root_key {x y r m:Int}(hx:-67108864<=x/\x<=67108864)(hy:-67108864<=y/\y<=67108864)(hr:0<=r/\r<=67108864)(hm:r < m)(hm2:m<=94906265)
  {k:Int->Int->Int->Int->Option α} (h101:∀ (f:Int->Option α),f139_0 α x y f=f m) :
  f138_0 α x y r k=if x < 0/\(-r<=y/\y<=r)/\r ≠ 0 then k x y r 14 else
   (fun (V:B3)=>k V.1 V.2.1 V.2.2 0) (rootV x y r m (rtd ((m+sz x)*524288)) (rtd (m*1048576))):=by
 have sx:=sz_bd hx.1 hx.2
 have sy:=sz_bd hy.1 hy.2
 simp only [f138_0,sld_eq,f138_0g]
 rw [h101,decide_eq_false (by omega),cK_false]
 simp only [J138_0_0,sld_eq,J138_0_0g]
 rw [Mb.f140_eq (by omega) (by omega),cK_dec]
 have body:∀ (z:Option α),z=(fun (V:B3)=>k V.1 V.2.1 V.2.2 0) (rootV x y r m (rtd ((m+sz x)*524288)) (rtd (m*1048576))) ->
   f142_0 α x (fun x17=>f141_0 α (w64 (w64 (m+x17)*524288)) fun x18=>f143_0 α y 1048576 (w64 (2*x18)) fun x19 x20=>
    J138_0_1 α x18 x y (fun x35 x36=>f141_0 α (w64 (m*1048576)) fun x41=>f89_0 α (w64 (r*1048576)) x41 fun x42=>f89_0 α 1048576 x18 fun x43=>k x35 x36 (w64 (w64 (x42+3)+x43)) 0)
     (fun x37 x38=>f141_0 α (w64 (m*1048576)) fun x44=>f89_0 α (w64 (r*1048576)) x44 fun x45=>f89_0 α 1048576 x18 fun x46=>k x38 x18 (w64 (w64 (x45+3)+x46)) 0)
     (fun x39=>f141_0 α (w64 (m*1048576)) fun x47=>f89_0 α (w64 (r*1048576)) x47 fun x48=>f89_0 α 1048576 x18 fun x49=>k x18 x19 (w64 (w64 (x48+3)+x49)) 0))=z:=by
  rintro z rfl
  rw [f142_eq (by omega) (by omega),w64_in (n:=m+sz x) (by omega) (by omega),w64_in (n:=(m+sz x)*524288) (by omega) (by omega),f141_int (by omega) (by omega)]
  have hw:=rtd_bd (n:=(m+sz x)*524288) (by omega) (by omega)
  have hw1:=rtd_pos (n:=(m+sz x)*524288) (by omega) (by omega)
  have hv:=rtd_bd (n:=m*1048576) (by omega) (by omega)
  have hv1:=rtd_pos (n:=m*1048576) (by omega) (by omega)
  rw [w64_in (n:=m*1048576) (by omega) (by omega),w64_in (n:=r*1048576) (by omega) (by omega)]
  simp only [f141_int (n:=m*1048576) (by omega) (by omega)]
  generalize rtd ((m+sz x)*524288)=w at *
  generalize rtd (m*1048576)=v at *
  rw [w64_in (n:=2*w) (by omega) (by omega),f143_eq (by omega) (by omega) (by omega) (by omega)]
  simp only [f89_raw (n:=r*1048576) (d:=v) (by omega),f89_raw (n:=1048576) (d:=w) (by omega)]
  simp only [J138_0_1,sld_eq,J138_0_1g]
  rw [cK_dec]
  unfold rootV rootX
  by_cases c1:x < 0
  ·rw [if_pos c1,f142_eq (by omega) (by omega),w64_in (n:=2*w) (by omega) (by omega),f143_eq (by omega) (by omega) (by omega) (by omega),cK_dec,w64_in (n:=0 - w) (by omega) (by omega)]
   generalize qtnE (sz y) (2*w)=X
   rw [if_pos c1]
   by_cases c2:y < 0
   ·rw [if_pos c2,if_pos c2]
   ·rw [if_neg c2,if_neg c2]
  ·rw [if_neg c1,if_neg c1]
 by_cases c1:x < 0
 ·rw [if_pos c1,cK_dec]
  by_cases c2:-r<=y/\y<=r
  ·rw [if_pos c2]
   by_cases c3:r=0
   ·rw [show (r != 0)=false by rw [c3];rfl,cK_false,if_neg (fun h=>h.2.2 c3)]
    exact body _ rfl
   ·rw [bne_iff_ne.2 c3,cK_true,if_pos ⟨c1,c2,c3⟩]
  ·rw [if_neg c2,cK_false,if_neg (fun h=>c2 h.2.1)]
   exact body _ rfl
 ·rw [if_neg c1,cK_false,if_neg (fun h=>c1 h.1)]
  exact body _ rfl
theorem f84_bl (a:Bl){k:Nat->Nat->Int->Int->Option α}:f84_0 α a.n1 a.n2 a.r k=KB k (rootE a):=by
 have g:=a.bd
 have d:=a.dn_bd
 simp only [f84_0,sld_eq,f84_0g,f137_4,sld_eq,f137_4g,f86_bl,bne_self_eq_false,cK_false]
 unfold rootE
 by_cases c:a.dn<=a.b.2.2
 ·rw [if_pos c]
  simp only [f138_0,sld_eq,f138_0g,f139_bl]
  show cK (decide (a.dn<=a.b.2.2)) _ _=_
  rw [decide_eq_true c,cK_true,show ((9:Int) != 0)=true from rfl,cK_true]
  exact KB0
 ·rw [if_neg c]
  show f138_0 α a.b.1 a.b.2.1 a.b.2.2 _=_
  rw [root_key g.1 g.2.1 g.2.2 (m:=a.dn) (by omega) d.2 (fun f=>f139_bl a)]
  generalize rootV a.b.1 a.b.2.1 a.b.2.2 a.dn (rtd ((a.dn+sz a.b.1)*524288)) (rtd (a.dn*1048576))=V
  by_cases c2:a.b.1 < 0/\(-a.b.2.2<=a.b.2.1/\a.b.2.1<=a.b.2.2)/\a.b.2.2 ≠ 0
  ·rw [if_pos c2,if_pos c2,show ((14:Int) != 0)=true from rfl,cK_true]
   exact KB0
  ·rw [if_neg c2,if_neg c2]
   show cK ((0:Int) != 0) _ _=_
   rw [show ((0:Int) != 0)=false from rfl,cK_false,f182_bl]
def rr1 (lo hi:Int):Bl × Int:=
 if (rangeE lo hi).2 ≠ 0 then (Bl0,(rangeE lo hi).2) else
 if 0<=lo then rangeE (rtd (lo*1048576)) (rtu (hi*1048576)) else (Bl0,14)
def rrootE (lo hi:Int):Bl × Int:=
 if (rangeE lo hi).2 ≠ 0 then (Bl0,(rangeE lo hi).2) else
 if 0<=lo then rangeE (rtd (lo*1048576)) (rtu (hi*1048576)) else
 if hi<=0 then (if (rr1 (-hi) (-lo)).2 ≠ 0 then (Bl0,(rr1 (-hi) (-lo)).2) else turnE (rr1 (-hi) (-lo)).1) else (Bl0,14)
theorem rangeE_in {lo hi:Int}(h:(rangeE lo hi).2=0):(-67108864<=lo/\lo<=67108864)/\(-67108864<=hi/\hi<=67108864)/\lo<=hi:=by
 unfold rangeE small26 at h
 by_cases c:decide (-67108864<=lo/\lo<=67108864)=true/\decide (-67108864<=hi/\hi<=67108864)=true
 ·rw [if_pos c] at h
  by_cases c2:hi < lo
  ·rw [if_pos c2] at h;cases h
  ·have h1:=of_decide_eq_true c.1
   have h2:=of_decide_eq_true c.2
   exact⟨h1,h2,by omega⟩
 ·rw [if_neg c] at h;cases h
theorem f85_1_eq {lo hi:Int}(hn:0<=lo\/0 < hi\/(rangeE lo hi).2 ≠ 0){k:Nat->Nat->Int->Int->Option α}:f85_1 α lo hi k=KB k (rr1 lo hi):=by
 simp only [f85_1,sld_eq,f85_1g,f136_bl]
 unfold rr1
 show cK ((rangeE lo hi).2 != 0) _ _=_
 by_cases c:(rangeE lo hi).2=0
 ·rw [c,if_neg (fun h=>h rfl),show ((0:Int) != 0)=false from rfl,cK_false,cK_dec]
  obtain⟨g1,g2,g3⟩:=rangeE_in c
  by_cases c2:0<=lo
  ·rw [if_pos c2,if_pos c2,w64_in (n:=lo*1048576) (by omega) (by omega),w64_in (n:=hi*1048576) (by omega) (by omega),f141_int (by omega) (by omega),f144_eq (by omega) (by omega)]
  ·have:¬ hi<=0:=by
    rcases hn with h | h | h
    ·omega
    ·omega
    ·exact absurd c h
   rw [if_neg c2,if_neg c2,decide_eq_false this,cK_false]
   exact KB0
 ·rw [if_pos c,bne_iff_ne.2 c,cK_true]
  exact KB0
theorem f85_bl {lo hi:Int}{k:Nat->Nat->Int->Int->Option α}:f85_0 α lo hi k=KB k (rrootE lo hi):=by
 simp only [f85_0,sld_eq,f85_0g,f136_bl]
 unfold rrootE
 show cK ((rangeE lo hi).2 != 0) _ _=_
 by_cases c:(rangeE lo hi).2=0
 ·rw [c,if_neg (fun h=>h rfl),show ((0:Int) != 0)=false from rfl,cK_false,cK_dec]
  obtain⟨g1,g2,g3⟩:=rangeE_in c
  by_cases c2:0<=lo
  ·rw [if_pos c2,if_pos c2,w64_in (n:=lo*1048576) (by omega) (by omega),w64_in (n:=hi*1048576) (by omega) (by omega),f141_int (by omega) (by omega),f144_eq (by omega) (by omega)]
  ·rw [if_neg c2,if_neg c2,cK_dec]
   by_cases c3:hi<=0
   ·rw [if_pos c3,if_pos c3,w64_in (n:=0 - hi) (by omega) (by omega),w64_in (n:=0 - lo) (by omega) (by omega),Int.zero_sub,Int.zero_sub,f85_1_eq (Or.inl (by omega))]
    generalize rr1 (-hi) (-lo)=u
    show cK (u.2 != 0) _ _=_
    by_cases c4:u.2=0
    ·rw [c4,if_neg (fun h=>h rfl),show ((0:Int) != 0)=false from rfl,cK_false]
     exact f135_bl u.1
    ·rw [if_pos c4,bne_iff_ne.2 c4,cK_true]
     exact KB0
   ·rw [if_neg c3,if_neg c3]
    exact KB0
 ·rw [if_pos c,bne_iff_ne.2 c,cK_true]
  exact KB0
end Go.AM.K
