/- Balls that are right, and what the program's operations make of them. -/
import Derived.Test.YtmcplmhohldpjaaGreatYW9
namespace Go.AM.K
set_option linter.unusedVariables false
set_option linter.unusedSimpArgs false
variable {α:Type}
structure Bl where
 b:B3
 ok:okS b=true
def Bl.n1 (a:Bl):Nat:=FloatKind.nearest .f64 a.b.1
def Bl.n2 (a:Bl):Nat:=FloatKind.nearest .f64 a.b.2.1
def Bl.r (a:Bl):Int:=a.b.2.2
def Bl0:Bl:=⟨(0,0,0),by decide⟩
theorem Uf:FloatKind.nearest .f64 0=0:=by decide +kernel
theorem yY:Bl0.n1=0:=Uf
theorem AQ:Bl0.n2=0:=Uf
theorem Gk:Bl0.r=0:=rfl
theorem Bl.bd (a:Bl):(-67108864<=a.b.1/\a.b.1<=67108864)/\(-67108864<=a.b.2.1/\a.b.2.1<=67108864)/\0<=a.b.2.2/\a.b.2.2<=67108864:=fM.1 a.ok
def pz (b:B3):Bl × Int:=if h:okS b=true then (⟨b,h⟩,0) else (Bl0,8)
def KB (k:Nat->Nat->Int->Int->Option α)(u:Bl × Int):Option α:=k u.1.n1 u.1.n2 u.1.r u.2
theorem KB0 {k:Nat->Nat->Int->Int->Option α}{e:Int}:k 0 0 0 e=KB k (Bl0,e):=by
 unfold KB
 rw [yY,AQ,Gk]
theorem jU {x y r:Int}{k:Nat->Nat->Int->Int->Option α}:fT α x y r k=KB k (pz (x,y,r)):=by
 rw [Mb.f182_eq,Tu]
 unfold pz
 by_cases h:okS (x,y,r)=true
 ·rw [if_pos h,dif_pos h];rfl
 ·rw [if_neg h,dif_neg h];exact KB0
theorem qk (a:Bl){k:Int->Int->Int->Option α}:gY α a.n1 a.n2 a.r k=k a.b.1 a.b.2.1 0:=by
 have g:=a.bd
 unfold Bl.n1 Bl.n2 Bl.r
 rw [FQ (by omega) (by omega) g.2.2,if_pos ⟨gO.2 g.1,gO.2 g.2.1⟩]
def dY (a b:Bl):Bl × Int:=pz (pls a.b b.b)
def gG (a b:Bl):Bl × Int:=pz (mis a.b b.b)
def be (a b:Bl):Bl × Int:=pz (tmB a.b b.b)
theorem ace (a b:Bl){k:Nat->Nat->Int->Int->Option α}:zP α a.n1 a.n2 a.r b.n1 b.n2 b.r k=KB k (dY a b):=by
 have g:=a.bd
 have h:=b.bd
 simp only [zP,af,OR,D6,af,M7,qk,bne_self_eq_false,ap,FF,af,NE,Ek,af,Ln,Ee,af,OG,uq,af,EK]
 unfold Bl.r
 rw [ak (n:=a.b.1+b.b.1) (by omega) (by omega),ak (n:=a.b.2.1+b.b.2.1) (by omega) (by omega),ak (n:=a.b.2.2+b.b.2.2) (by omega) (by omega),jU]
 rfl
theorem agG (a b:Bl){k:Nat->Nat->Int->Int->Option α}:Ao α a.n1 a.n2 a.r b.n1 b.n2 b.r k=KB k (gG a b):=by
 have g:=a.bd
 have h:=b.bd
 simp only [Ao,af,KG,Fg,af,OE,qk,bne_self_eq_false,ap,EZ,af,KI,FB,af,PF,EX,af,Nz,D8,af,KH]
 unfold Bl.r
 rw [ak (n:=a.b.1 - b.b.1) (by omega) (by omega),ak (n:=a.b.2.1 - b.b.2.1) (by omega) (by omega),ak (n:=a.b.2.2+b.b.2.2) (by omega) (by omega),jU]
 rfl
theorem adT (a b:Bl){k:Nat->Nat->Int->Int->Option α}:ue α a.n1 a.n2 a.r b.n1 b.n2 b.r k=KB k (be a b):=by
 have:=afw a.ok b.ok (k:=k)
 refine this.trans ?_
 unfold tms be pz
 by_cases h:okS (tmB a.b b.b)=true
 ·rw [if_pos h,dif_pos h];rfl
 ·rw [if_neg h,dif_neg h];exact KB0
def Bl.lo1 (a:Bl):Int:=a.b.1 - a.b.2.2
def Bl.hi1 (a:Bl):Int:=a.b.1+a.b.2.2
def Bl.lo2 (a:Bl):Int:=a.b.2.1 - a.b.2.2
def Bl.hi2 (a:Bl):Int:=a.b.2.1+a.b.2.2
theorem ai2 (a:Bl){k:Int->Int->Int->Int->Int->Option α}:Gj α a.n1 a.n2 a.r k=k a.lo1 a.hi1 a.lo2 a.hi2 0:=by
 have g:=a.bd
 simp only [Gj,af,ZV,qk,bne_self_eq_false,ap,zN,af,OX]
 unfold Bl.r
 rw [ak (n:=a.b.1 - a.b.2.2) (by omega) (by omega),ak (n:=a.b.1+a.b.2.2) (by omega) (by omega),ak (n:=a.b.2.1 - a.b.2.2) (by omega) (by omega),ak (n:=a.b.2.1+a.b.2.2) (by omega) (by omega)]
 rfl
def oB (x:Int):Bool:=decide (-67108864<=x/\x<=67108864)
def cq (lo hi:Int):Bl × Int:=
 if oB lo=true/\oB hi=true then (if hi < lo then (Bl0,10) else pz ((lo+hi) / 2,0,hi - (lo+hi) / 2)) else (Bl0,2)
theorem Fe {lo hi:Int}{k:Nat->Nat->Int->Int->Option α}:lT α lo hi k=KB k (cq lo hi):=by
 simp only [lT,af,OV,sN,af,CX]
 rw [Mb.f140_eq (by decide) (by decide)]
 unfold cq oB
 by_cases h1:-67108864<=lo/\lo<=67108864
 ·rw [decide_eq_true h1,Bool.not_true,ap,Mb.f140_eq (by decide) (by decide)]
  by_cases h2:-67108864<=hi/\hi<=67108864
  ·rw [decide_eq_true h2,Bool.not_true,ap,if_pos ⟨rfl,rfl⟩]
   by_cases h3:hi < lo
   ·rw [decide_eq_true h3,aq,if_pos h3];exact KB0
   ·rw [decide_eq_false h3,ap,if_neg h3,ak (n:=lo+hi) (by omega) (by omega),Mb.f88_eq (by decide) (by decide) (by omega) (by omega),ak (n:=hi - (lo+hi) / 2) (by omega) (by omega),jU]
  ·rw [decide_eq_false h2,Bool.not_false,aq,if_neg (fun h=>by cases h.2)];exact KB0
 ·rw [decide_eq_false h1,Bool.not_false,aq,aq,if_neg (fun h=>by cases h.1)];exact KB0
def vU (n d:Int):Bl × Int:=
 if (-1000000000<=n/\n<=1000000000)/\1<=d/\d<=1000000000 then pz (rdv (n*1048576) d,0,if (n*1048576).tmod d=0 then 0 else 1) else (Bl0,2)
theorem acA {n d:Int}{k:Nat->Nat->Int->Int->Option α}:z0 α n d k=KB k (vU n d):=by
 simp only [z0,af,Ov]
 rw [Mb.f140_eq (by decide) (by decide)]
 unfold vU
 by_cases h1:-1000000000<=n/\n<=1000000000
 ·rw [decide_eq_true h1,Bool.not_true,ap,Mb.f146_eq]
  by_cases h2:1<=d/\d<=1000000000
  ·rw [decide_eq_true h2,Bool.not_true,ap,if_pos ⟨h1,h2⟩,ak (n:=n*1048576) (by omega) (by omega),Mb.f171_eq (by omega) (by omega) (by omega) (by omega)]
   simp only [jw,af,xX,jU]
   by_cases h3:(n*1048576).tmod d=0
   ·rw [h3,if_pos rfl];rfl
   ·rw [if_neg h3,show ((n*1048576).tmod d != 0)=true from bne_iff_ne.2 h3,aq]
  ·rw [decide_eq_false h2,Bool.not_false,aq,if_neg (fun h=>h2 h.2)];exact KB0
 ·rw [decide_eq_false h1,Bool.not_false,aq,if_neg (fun h=>h1 h.1)];exact KB0
def z8 (a:Bl):Bl × Int:=pz (-a.b.2.1,a.b.1,a.b.2.2)
theorem LZ (a:Bl){k:Nat->Nat->Int->Int->Option α}:qD α a.n1 a.n2 a.r 1 k=KB k (z8 a):=by
 have g:=a.bd
 simp only [qD,af,M4,Ex,af,Kq,qk,bne_self_eq_false,ap,E0,af,Ml]
 rw [Mb.f140_eq (by decide) (by decide),show decide ((-1000000000:Int)<=1/\(1:Int)<=1000000000)=true by decide,Bool.not_true,ap,show Int.tmod (w64 ((Int.tmod 1 4)+4)) 4=1 by decide,Mb.f181_1 g.1 g.2.1]
 simp only [bne_self_eq_false,ap,jU]
 rfl
def Bl.dn (a:Bl):Int:=isq (sqn a.b)
def Bl.up (a:Bl):Int:=upc a.b
def Bl.eLo (a:Bl):Int:=let d:=if a.dn - a.b.2.2 > 0 then a.dn - a.b.2.2 else 0;d*d / 1048576
def Bl.eHi (a:Bl):Int:=cdv ((a.up+a.b.2.2)*(a.up+a.b.2.2)) 1048576
theorem Bl.dn_bd (a:Bl):0<=a.dn/\a.dn<=94906265:=by
 have:=Ye (j6 a.ok).2
 unfold Bl.dn;omega
theorem Bl.up_bd (a:Bl):0<=a.up/\a.up<=94906266:=Fh a.ok
theorem xT (a:Bl){k:Int->Option α}:mr α a.b.1 a.b.2.1 k=k a.dn:=by
 have g:=a.bd
 have e1:=lW g.1.1 g.1.2
 have e2:=lW g.2.1.1 g.2.1.2
 obtain⟨e3,e4⟩:=j6 a.ok
 simp only [mr,af,Nb,ja,af,sK]
 rw [ak (n:=a.b.1*a.b.1) (by omega) (by omega),ak (n:=a.b.2.1*a.b.2.1) (by omega) (by omega),ak (n:=a.b.1*a.b.1+a.b.2.1*a.b.2.1) (by omega) (by omega),<- e3,rH (by omega)]
 rfl
theorem aj3 (a:Bl){k:Int->Int->Int->Option α}:Af α a.n1 a.n2 a.r k=k a.eLo a.eHi 0:=by
 have g:=a.bd
 have d:=a.dn_bd
 have u:=a.up_bd
 simp only [Af,af,Tc,qk,bne_self_eq_false,ap,NU,af,Vc,xT,rx a.ok]
 unfold Bl.r Bl.eLo Bl.eHi
 rw [ak (n:=a.dn - a.b.2.2) (by omega) (by omega),show w64 (upc a.b+a.b.2.2)=a.up+a.b.2.2 from ak (by unfold Bl.up at u;omega) (by unfold Bl.up at u;omega)]
 have hz:∀ z:Int,0<=z->z<=200000000->0<=z*z/\z*z<=40000000000000000:=fun z h1 h2=>
  ⟨Int.mul_nonneg h1 h1,Int.mul_le_mul h2 h2 h1 (by decide)⟩
 have h1:=hz (if a.dn - a.b.2.2 > 0 then a.dn - a.b.2.2 else 0) (by split <;> omega) (by split <;> omega)
 have h2:=hz (a.up+a.b.2.2) (by omega) (by omega)
 simp only []
 generalize (if a.dn - a.b.2.2 > 0 then a.dn - a.b.2.2 else 0)=z1 at *
 generalize a.up+a.b.2.2=z2 at *
 rw [ak (n:=z1*z1) (by omega) (by omega),ak (n:=z2*z2) (by omega) (by omega),Mb.f88_eq (by decide) (by decide) (by omega) (by omega),Mb.f89_eq (by decide) (by decide) (by omega) (by omega)]
end Go.AM.K
