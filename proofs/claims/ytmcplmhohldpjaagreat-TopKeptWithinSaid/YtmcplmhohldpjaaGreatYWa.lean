/- Balls that are right, and what the program's operations make of them. -/
import Derived.Test.YtmcplmhohldpjaaGreatYW9
namespace Go.AM.K
set_option linter.unusedVariables false
set_option linter.unusedSimpArgs false
variable {α:Type}
structure Bl where
 b:B3
 ok:okS b=true
def Bl.n1 (a:Bl):Nat:=FloatKind.nearest .f64 a.b.1
def Bl.n2 (a:Bl):Nat:=FloatKind.nearest .f64 a.b.2.1
def Bl.r (a:Bl):Int:=a.b.2.2
def Bl0:Bl:=⟨(0,0,0),by decide⟩
theorem nea0:FloatKind.nearest .f64 0=0:=by decide +kernel
theorem Bl0_n1:Bl0.n1=0:=nea0
theorem Bl0_n2:Bl0.n2=0:=nea0
theorem Bl0_r:Bl0.r=0:=rfl
theorem Bl.bd (a:Bl):(-67108864<=a.b.1/\a.b.1<=67108864)/\(-67108864<=a.b.2.1/\a.b.2.1<=67108864)/\0<=a.b.2.2/\a.b.2.2<=67108864:=okS_iff.1 a.ok
def toBl (b:B3):Bl × Int:=if h:okS b=true then (⟨b,h⟩,0) else (Bl0,8)
def KB (k:Nat->Nat->Int->Int->Option α)(u:Bl × Int):Option α:=k u.1.n1 u.1.n2 u.1.r u.2
theorem KB0 {k:Nat->Nat->Int->Int->Option α}{e:Int}:k 0 0 0 e=KB k (Bl0,e):=by
 unfold KB
 rw [Bl0_n1,Bl0_n2,Bl0_r]
theorem f182_bl {x y r:Int}{k:Nat->Nat->Int->Int->Option α}:f182_0 α x y r k=KB k (toBl (x,y,r)):=by
 rw [Mb.f182_eq,okB_S]
 unfold toBl
 by_cases h:okS (x,y,r)=true
 ·rw [if_pos h,dif_pos h];rfl
 ·rw [if_neg h,dif_neg h];exact KB0
theorem f86_bl (a:Bl){k:Int->Int->Int->Option α}:f86_0 α a.n1 a.n2 a.r k=k a.b.1 a.b.2.1 0:=by
 have g:=a.bd
 unfold Bl.n1 Bl.n2 Bl.r
 rw [f86_num (by omega) (by omega) g.2.2,if_pos ⟨ptB_iff.2 g.1,ptB_iff.2 g.2.1⟩]
def plusE (a b:Bl):Bl × Int:=toBl (pls a.b b.b)
def minusE (a b:Bl):Bl × Int:=toBl (mis a.b b.b)
def timesE (a b:Bl):Bl × Int:=toBl (tmB a.b b.b)
theorem f129_bl (a b:Bl){k:Nat->Nat->Int->Int->Option α}:f129_0 α a.n1 a.n2 a.r b.n1 b.n2 b.r k=KB k (plusE a b):=by
 have g:=a.bd
 have h:=b.bd
 simp only [f129_0,sld_eq,f129_0g,f166_0,sld_eq,f166_0g,f86_bl,bne_self_eq_false,cK_false,f137_1,sld_eq,f137_1g,f200_0,sld_eq,f200_0g,f167_0,sld_eq,f167_0g,f168_0,sld_eq,f168_0g]
 unfold Bl.r
 rw [w64_in (n:=a.b.1+b.b.1) (by omega) (by omega),w64_in (n:=a.b.2.1+b.b.2.1) (by omega) (by omega),w64_in (n:=a.b.2.2+b.b.2.2) (by omega) (by omega),f182_bl]
 rfl
theorem f132_bl (a b:Bl){k:Nat->Nat->Int->Int->Option α}:f132_0 α a.n1 a.n2 a.r b.n1 b.n2 b.r k=KB k (minusE a b):=by
 have g:=a.bd
 have h:=b.bd
 simp only [f132_0,sld_eq,f132_0g,f166_2,sld_eq,f166_2g,f86_bl,bne_self_eq_false,cK_false,f137_3,sld_eq,f137_3g,f200_2,sld_eq,f200_2g,f177_0,sld_eq,f177_0g,f178_0,sld_eq,f178_0g]
 unfold Bl.r
 rw [w64_in (n:=a.b.1 - b.b.1) (by omega) (by omega),w64_in (n:=a.b.2.1 - b.b.2.1) (by omega) (by omega),w64_in (n:=a.b.2.2+b.b.2.2) (by omega) (by omega),f182_bl]
 rfl
theorem f130_bl (a b:Bl){k:Nat->Nat->Int->Int->Option α}:f130_0 α a.n1 a.n2 a.r b.n1 b.n2 b.r k=KB k (timesE a b):=by
 have:=f130_eq a.ok b.ok (k:=k)
 refine this.trans ?_
 unfold tms timesE toBl
 by_cases h:okS (tmB a.b b.b)=true
 ·rw [if_pos h,dif_pos h];rfl
 ·rw [if_neg h,dif_neg h];exact KB0
def Bl.lo1 (a:Bl):Int:=a.b.1 - a.b.2.2
def Bl.hi1 (a:Bl):Int:=a.b.1+a.b.2.2
def Bl.lo2 (a:Bl):Int:=a.b.2.1 - a.b.2.2
def Bl.hi2 (a:Bl):Int:=a.b.2.1+a.b.2.2
theorem f79_bl (a:Bl){k:Int->Int->Int->Int->Int->Option α}:f79_0 α a.n1 a.n2 a.r k=k a.lo1 a.hi1 a.lo2 a.hi2 0:=by
 have g:=a.bd
 simp only [f79_0,sld_eq,f79_0g,f86_bl,bne_self_eq_false,cK_false,f133_0,sld_eq,f133_0g]
 unfold Bl.r
 rw [w64_in (n:=a.b.1 - a.b.2.2) (by omega) (by omega),w64_in (n:=a.b.1+a.b.2.2) (by omega) (by omega),w64_in (n:=a.b.2.1 - a.b.2.2) (by omega) (by omega),w64_in (n:=a.b.2.1+a.b.2.2) (by omega) (by omega)]
 rfl
def small26 (x:Int):Bool:=decide (-67108864<=x/\x<=67108864)
def rangeE (lo hi:Int):Bl × Int:=
 if small26 lo=true/\small26 hi=true then (if hi < lo then (Bl0,10) else toBl ((lo+hi) / 2,0,hi - (lo+hi) / 2)) else (Bl0,2)
theorem f136_bl {lo hi:Int}{k:Nat->Nat->Int->Int->Option α}:f136_0 α lo hi k=KB k (rangeE lo hi):=by
 simp only [f136_0,sld_eq,f136_0g,J136_0_0,sld_eq,J136_0_0g]
 rw [Mb.f140_eq (by decide) (by decide)]
 unfold rangeE small26
 by_cases h1:-67108864<=lo/\lo<=67108864
 ·rw [decide_eq_true h1,Bool.not_true,cK_false,Mb.f140_eq (by decide) (by decide)]
  by_cases h2:-67108864<=hi/\hi<=67108864
  ·rw [decide_eq_true h2,Bool.not_true,cK_false,if_pos ⟨rfl,rfl⟩]
   by_cases h3:hi < lo
   ·rw [decide_eq_true h3,cK_true,if_pos h3];exact KB0
   ·rw [decide_eq_false h3,cK_false,if_neg h3,w64_in (n:=lo+hi) (by omega) (by omega),Mb.f88_eq (by decide) (by decide) (by omega) (by omega),w64_in (n:=hi - (lo+hi) / 2) (by omega) (by omega),f182_bl]
  ·rw [decide_eq_false h2,Bool.not_false,cK_true,if_neg (fun h=>by cases h.2)];exact KB0
 ·rw [decide_eq_false h1,Bool.not_false,cK_true,cK_true,if_neg (fun h=>by cases h.1)];exact KB0
def fracE (n d:Int):Bl × Int:=
 if (-1000000000<=n/\n<=1000000000)/\1<=d/\d<=1000000000 then toBl (rdv (n*1048576) d,0,if (n*1048576).tmod d=0 then 0 else 1) else (Bl0,2)
theorem f179_bl {n d:Int}{k:Nat->Nat->Int->Int->Option α}:f179_0 α n d k=KB k (fracE n d):=by
 simp only [f179_0,sld_eq,f179_0g]
 rw [Mb.f140_eq (by decide) (by decide)]
 unfold fracE
 by_cases h1:-1000000000<=n/\n<=1000000000
 ·rw [decide_eq_true h1,Bool.not_true,cK_false,Mb.f146_eq]
  by_cases h2:1<=d/\d<=1000000000
  ·rw [decide_eq_true h2,Bool.not_true,cK_false,if_pos ⟨h1,h2⟩,w64_in (n:=n*1048576) (by omega) (by omega),Mb.f171_eq (by omega) (by omega) (by omega) (by omega)]
   simp only [f172_0,sld_eq,f172_0g,f182_bl]
   by_cases h3:(n*1048576).tmod d=0
   ·rw [h3,if_pos rfl];rfl
   ·rw [if_neg h3,show ((n*1048576).tmod d != 0)=true from bne_iff_ne.2 h3,cK_true]
  ·rw [decide_eq_false h2,Bool.not_false,cK_true,if_neg (fun h=>h2 h.2)];exact KB0
 ·rw [decide_eq_false h1,Bool.not_false,cK_true,if_neg (fun h=>h1 h.1)];exact KB0
def turnE (a:Bl):Bl × Int:=toBl (-a.b.2.1,a.b.1,a.b.2.2)
theorem f135_bl (a:Bl){k:Nat->Nat->Int->Int->Option α}:f135_0 α a.n1 a.n2 a.r 1 k=KB k (turnE a):=by
 have g:=a.bd
 simp only [f135_0,sld_eq,f135_0g,f137_0,sld_eq,f137_0g,f86_bl,bne_self_eq_false,cK_false,f180_0,sld_eq,f180_0g]
 rw [Mb.f140_eq (by decide) (by decide),show decide ((-1000000000:Int)<=1/\(1:Int)<=1000000000)=true by decide,Bool.not_true,cK_false,show Int.tmod (w64 ((Int.tmod 1 4)+4)) 4=1 by decide,Mb.f181_1 g.1 g.2.1]
 simp only [bne_self_eq_false,cK_false,f182_bl]
 rfl
def Bl.dn (a:Bl):Int:=isq (sqn a.b)
def Bl.up (a:Bl):Int:=upc a.b
def Bl.eLo (a:Bl):Int:=let d:=if a.dn - a.b.2.2 > 0 then a.dn - a.b.2.2 else 0;d*d / 1048576
def Bl.eHi (a:Bl):Int:=cdv ((a.up+a.b.2.2)*(a.up+a.b.2.2)) 1048576
theorem Bl.dn_bd (a:Bl):0<=a.dn/\a.dn<=94906265:=by
 have:=isq94 (sqn_eq a.ok).2
 unfold Bl.dn;omega
theorem Bl.up_bd (a:Bl):0<=a.up/\a.up<=94906266:=upc_bd a.ok
theorem f139_bl (a:Bl){k:Int->Option α}:f139_0 α a.b.1 a.b.2.1 k=k a.dn:=by
 have g:=a.bd
 have e1:=sq_bd g.1.1 g.1.2
 have e2:=sq_bd g.2.1.1 g.2.1.2
 obtain⟨e3,e4⟩:=sqn_eq a.ok
 simp only [f139_0,sld_eq,f139_0g,f175_0,sld_eq,f175_0g]
 rw [w64_in (n:=a.b.1*a.b.1) (by omega) (by omega),w64_in (n:=a.b.2.1*a.b.2.1) (by omega) (by omega),w64_in (n:=a.b.1*a.b.1+a.b.2.1*a.b.2.1) (by omega) (by omega),<- e3,f141_eq (by omega)]
 rfl
theorem f36_bl (a:Bl){k:Int->Int->Int->Option α}:f36_0 α a.n1 a.n2 a.r k=k a.eLo a.eHi 0:=by
 have g:=a.bd
 have d:=a.dn_bd
 have u:=a.up_bd
 simp only [f36_0,sld_eq,f36_0g,f86_bl,bne_self_eq_false,cK_false,f87_0,sld_eq,f87_0g,f139_bl,f147_eq a.ok]
 unfold Bl.r Bl.eLo Bl.eHi
 rw [w64_in (n:=a.dn - a.b.2.2) (by omega) (by omega),show w64 (upc a.b+a.b.2.2)=a.up+a.b.2.2 from w64_in (by unfold Bl.up at u;omega) (by unfold Bl.up at u;omega)]
 have hz:∀ z:Int,0<=z->z<=200000000->0<=z*z/\z*z<=40000000000000000:=fun z h1 h2=>
  ⟨Int.mul_nonneg h1 h1,Int.mul_le_mul h2 h2 h1 (by decide)⟩
 have h1:=hz (if a.dn - a.b.2.2 > 0 then a.dn - a.b.2.2 else 0) (by split <;> omega) (by split <;> omega)
 have h2:=hz (a.up+a.b.2.2) (by omega) (by omega)
 simp only []
 generalize (if a.dn - a.b.2.2 > 0 then a.dn - a.b.2.2 else 0)=z1 at *
 generalize a.up+a.b.2.2=z2 at *
 rw [w64_in (n:=z1*z1) (by omega) (by omega),w64_in (n:=z2*z2) (by omega) (by omega),Mb.f88_eq (by decide) (by decide) (by omega) (by omega),Mb.f89_eq (by decide) (by decide) (by omega) (by omega)]
end Go.AM.K
