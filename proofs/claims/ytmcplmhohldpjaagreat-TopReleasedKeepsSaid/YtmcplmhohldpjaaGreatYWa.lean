/- Balls that are right, and what the program's operations make of them. -/
import Derived.Test.YtmcplmhohldpjaaGreatYW9
namespace Go.AM.K
set_option linter.unusedVariables false
set_option linter.unusedSimpArgs false
variable {α:Type}
structure Bl where
 b:B3
 ok:okS b=true
def Bl.n1 (a:Bl):Nat:=FloatKind.nearest .f64 a.b.1
def Bl.n2 (a:Bl):Nat:=FloatKind.nearest .f64 a.b.2.1
def Bl.r (a:Bl):Int:=a.b.2.2
def Bl0:Bl:=⟨(0,0,0),by decide⟩
theorem abA:FloatKind.nearest .f64 0=0:=by decide +kernel
theorem A1:Bl0.n1=0:=abA
theorem z3:Bl0.n2=0:=abA
theorem G6:Bl0.r=0:=rfl
theorem Bl.bd (a:Bl):(-67108864<=a.b.1/\a.b.1<=67108864)/\(-67108864<=a.b.2.1/\a.b.2.1<=67108864)/\0<=a.b.2.2/\a.b.2.2<=67108864:=fX.1 a.ok
def qp (b:B3):Bl × Int:=if h:okS b=true then (⟨b,h⟩,0) else (Bl0,8)
def KB (k:Nat->Nat->Int->Int->Option α)(u:Bl × Int):Option α:=k u.1.n1 u.1.n2 u.1.r u.2
theorem KB0 {k:Nat->Nat->Int->Int->Option α}{e:Int}:k 0 0 0 e=KB k (Bl0,e):=by
 unfold KB
 rw [A1,z3,G6]
theorem kq {x y r:Int}{k:Nat->Nat->Int->Int->Option α}:f9 α x y r k=KB k (qp (x,y,r)):=by
 rw [Mb.f182_eq,Z2]
 unfold qp
 by_cases h:okS (x,y,r)=true
 ·rw [if_pos h,dif_pos h];rfl
 ·rw [if_neg h,dif_neg h];exact KB0
theorem rd (a:Bl){k:Int->Int->Int->Option α}:iw α a.n1 a.n2 a.r k=k a.b.1 a.b.2.1 0:=by
 have g:=a.bd
 unfold Bl.n1 Bl.n2 Bl.r
 rw [E2 (by omega) (by omega) g.2.2,if_pos ⟨hI.2 g.1,hI.2 g.2.1⟩]
def ej (a b:Bl):Bl × Int:=qp (pls a.b b.b)
def gV (a b:Bl):Bl × Int:=qp (mis a.b b.b)
def bc (a b:Bl):Bl × Int:=qp (tmB a.b b.b)
theorem aeP (a b:Bl){k:Nat->Nat->Int->Int->Option α}:B2 α a.n1 a.n2 a.r b.n1 b.n2 b.r k=KB k (ej a b):=by
 have g:=a.bd
 have h:=b.bd
 simp only [B2,af,LG,Gn,af,Rr,rd,bne_self_eq_false,am,Ff,af,NO,EY,af,Pk,FJ,af,Ln,vX,af,Fz]
 unfold Bl.r
 rw [ak (n:=a.b.1+b.b.1) (by omega) (by omega),ak (n:=a.b.2.1+b.b.2.1) (by omega) (by omega),ak (n:=a.b.2.2+b.b.2.2) (by omega) (by omega),kq]
 rfl
theorem ag0 (a b:Bl){k:Nat->Nat->Int->Int->Option α}:Ak α a.n1 a.n2 a.r b.n1 b.n2 b.r k=KB k (gV a b):=by
 have g:=a.bd
 have h:=b.bd
 simp only [Ak,af,Pj,FZ,af,MQ,rd,bne_self_eq_false,am,FU,af,Lc,ES,af,Lm,EN,af,Nm,EG,af,Me]
 unfold Bl.r
 rw [ak (n:=a.b.1 - b.b.1) (by omega) (by omega),ak (n:=a.b.2.1 - b.b.2.1) (by omega) (by omega),ak (n:=a.b.2.2+b.b.2.2) (by omega) (by omega),kq]
 rfl
theorem aeK (a b:Bl){k:Nat->Nat->Int->Int->Option α}:v9 α a.n1 a.n2 a.r b.n1 b.n2 b.r k=KB k (bc a b):=by
 have:=ags a.ok b.ok (k:=k)
 refine this.trans ?_
 unfold tms bc qp
 by_cases h:okS (tmB a.b b.b)=true
 ·rw [if_pos h,dif_pos h];rfl
 ·rw [if_neg h,dif_neg h];exact KB0
def Bl.lo1 (a:Bl):Int:=a.b.1 - a.b.2.2
def Bl.hi1 (a:Bl):Int:=a.b.1+a.b.2.2
def Bl.lo2 (a:Bl):Int:=a.b.2.1 - a.b.2.2
def Bl.hi2 (a:Bl):Int:=a.b.2.1+a.b.2.2
theorem al9 (a:Bl){k:Int->Int->Int->Int->Int->Option α}:Hs α a.n1 a.n2 a.r k=k a.lo1 a.hi1 a.lo2 a.hi2 0:=by
 have g:=a.bd
 simp only [Hs,af,UF,rd,bne_self_eq_false,am,zk,af,Lo]
 unfold Bl.r
 rw [ak (n:=a.b.1 - a.b.2.2) (by omega) (by omega),ak (n:=a.b.1+a.b.2.2) (by omega) (by omega),ak (n:=a.b.2.1 - a.b.2.2) (by omega) (by omega),ak (n:=a.b.2.1+a.b.2.2) (by omega) (by omega)]
 rfl
def pm (x:Int):Bool:=decide (-67108864<=x/\x<=67108864)
def cu (lo hi:Int):Bl × Int:=
 if pm lo=true/\pm hi=true then (if hi < lo then (Bl0,10) else qp ((lo+hi) / 2,0,hi - (lo+hi) / 2)) else (Bl0,2)
theorem EA {lo hi:Int}{k:Nat->Nat->Int->Int->Option α}:mi α lo hi k=KB k (cu lo hi):=by
 simp only [mi,af,PC,rQ,af,CG]
 rw [Mb.f140_eq (by decide) (by decide)]
 unfold cu pm
 by_cases h1:-67108864<=lo/\lo<=67108864
 ·rw [decide_eq_true h1,Bool.not_true,am,Mb.f140_eq (by decide) (by decide)]
  by_cases h2:-67108864<=hi/\hi<=67108864
  ·rw [decide_eq_true h2,Bool.not_true,am,if_pos ⟨rfl,rfl⟩]
   by_cases h3:hi < lo
   ·rw [decide_eq_true h3,aq,if_pos h3];exact KB0
   ·rw [decide_eq_false h3,am,if_neg h3,ak (n:=lo+hi) (by omega) (by omega),Mb.f88_eq (by decide) (by decide) (by omega) (by omega),ak (n:=hi - (lo+hi) / 2) (by omega) (by omega),kq]
  ·rw [decide_eq_false h2,Bool.not_false,aq,if_neg (fun h=>by cases h.2)];exact KB0
 ·rw [decide_eq_false h1,Bool.not_false,aq,aq,if_neg (fun h=>by cases h.1)];exact KB0
def xo (n d:Int):Bl × Int:=
 if (-1000000000<=n/\n<=1000000000)/\1<=d/\d<=1000000000 then qp (rdv (n*1048576) d,0,if (n*1048576).tmod d=0 then 0 else 1) else (Bl0,2)
theorem af9 {n d:Int}{k:Nat->Nat->Int->Int->Option α}:AI α n d k=KB k (xo n d):=by
 simp only [AI,af,Mm]
 rw [Mb.f140_eq (by decide) (by decide)]
 unfold xo
 by_cases h1:-1000000000<=n/\n<=1000000000
 ·rw [decide_eq_true h1,Bool.not_true,am,Mb.f146_eq]
  by_cases h2:1<=d/\d<=1000000000
  ·rw [decide_eq_true h2,Bool.not_true,am,if_pos ⟨h1,h2⟩,ak (n:=n*1048576) (by omega) (by omega),Mb.f171_eq (by omega) (by omega) (by omega) (by omega)]
   simp only [jf,af,xZ,kq]
   by_cases h3:(n*1048576).tmod d=0
   ·rw [h3,if_pos rfl];rfl
   ·rw [if_neg h3,show ((n*1048576).tmod d != 0)=true from bne_iff_ne.2 h3,aq]
  ·rw [decide_eq_false h2,Bool.not_false,aq,if_neg (fun h=>h2 h.2)];exact KB0
 ·rw [decide_eq_false h1,Bool.not_false,aq,if_neg (fun h=>h1 h.1)];exact KB0
def BR (a:Bl):Bl × Int:=qp (-a.b.2.1,a.b.1,a.b.2.2)
theorem Rg (a:Bl){k:Nat->Nat->Int->Int->Option α}:rp α a.n1 a.n2 a.r 1 k=KB k (BR a):=by
 have g:=a.bd
 simp only [rp,af,Ra,Gu,af,Lj,rd,bne_self_eq_false,am,FW,af,OK]
 rw [Mb.f140_eq (by decide) (by decide),show decide ((-1000000000:Int)<=1/\(1:Int)<=1000000000)=true by decide,Bool.not_true,am,show Int.tmod (w64 ((Int.tmod 1 4)+4)) 4=1 by decide,Mb.f181_1 g.1 g.2.1]
 simp only [bne_self_eq_false,am,kq]
 rfl
def Bl.dn (a:Bl):Int:=isq (sqn a.b)
def Bl.up (a:Bl):Int:=upc a.b
def Bl.eLo (a:Bl):Int:=let d:=if a.dn - a.b.2.2 > 0 then a.dn - a.b.2.2 else 0;d*d / 1048576
def Bl.eHi (a:Bl):Int:=cdv ((a.up+a.b.2.2)*(a.up+a.b.2.2)) 1048576
theorem Bl.dn_bd (a:Bl):0<=a.dn/\a.dn<=94906265:=by
 have:=TN (kZ a.ok).2
 unfold Bl.dn;omega
theorem Bl.up_bd (a:Bl):0<=a.up/\a.up<=94906266:=F0 a.ok
theorem xO (a:Bl){k:Int->Option α}:nZ α a.b.1 a.b.2.1 k=k a.dn:=by
 have g:=a.bd
 have e1:=mR g.1.1 g.1.2
 have e2:=mR g.2.1.1 g.2.1.2
 obtain⟨e3,e4⟩:=kZ a.ok
 simp only [nZ,af,PF,jw,af,s9]
 rw [ak (n:=a.b.1*a.b.1) (by omega) (by omega),ak (n:=a.b.2.1*a.b.2.1) (by omega) (by omega),ak (n:=a.b.1*a.b.1+a.b.2.1*a.b.2.1) (by omega) (by omega),<- e3,uN (by omega)]
 rfl
theorem amh (a:Bl){k:Int->Int->Int->Option α}:Bw α a.n1 a.n2 a.r k=k a.eLo a.eHi 0:=by
 have g:=a.bd
 have d:=a.dn_bd
 have u:=a.up_bd
 simp only [Bw,af,YI,rd,bne_self_eq_false,am,Rw,af,XU,xO,rM a.ok]
 unfold Bl.r Bl.eLo Bl.eHi
 rw [ak (n:=a.dn - a.b.2.2) (by omega) (by omega),show w64 (upc a.b+a.b.2.2)=a.up+a.b.2.2 from ak (by unfold Bl.up at u;omega) (by unfold Bl.up at u;omega)]
 have hz:∀ z:Int,0<=z->z<=200000000->0<=z*z/\z*z<=40000000000000000:=fun z h1 h2=>
  ⟨Int.mul_nonneg h1 h1,Int.mul_le_mul h2 h2 h1 (by decide)⟩
 have h1:=hz (if a.dn - a.b.2.2 > 0 then a.dn - a.b.2.2 else 0) (by split <;> omega) (by split <;> omega)
 have h2:=hz (a.up+a.b.2.2) (by omega) (by omega)
 simp only []
 generalize (if a.dn - a.b.2.2 > 0 then a.dn - a.b.2.2 else 0)=z1 at *
 generalize a.up+a.b.2.2=z2 at *
 rw [ak (n:=z1*z1) (by omega) (by omega),ak (n:=z2*z2) (by omega) (by omega),Mb.f88_eq (by decide) (by decide) (by omega) (by omega),Mb.f89_eq (by decide) (by decide) (by omega) (by omega)]
end Go.AM.K
