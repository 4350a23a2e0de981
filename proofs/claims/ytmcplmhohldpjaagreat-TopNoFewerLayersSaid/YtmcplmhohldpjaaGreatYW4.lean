/- Chapter 1, as far as Meter needs it: directions of all numbers, arcs, balls of whole numbers. -/
import Derived.Test.YtmcplmhohldpjaaGreatYW3
namespace Go.AM.K.Mb
open Ieee
set_option linter.unusedVariables false
set_option linter.unusedSimpArgs false
variable {α:Type}
theorem f181_1 {x y:Int}(hx:-67108864<=x/\x<=67108864)(hy:-67108864<=y/\y<=67108864){k:Int->Int->Option α}:jt α x y 1 k=k (-y) x:=by
 obtain⟨z,hz⟩:∃ z,aN=z+2:=⟨aN - 2,by have:=cB;omega⟩
 simp only [jt,af,Ez,ny,af,vr,hz,n8,nH]
 rw [show decide ((0:Int) < 1)=true by decide,aq,show w64 (0+1)=1 by decide,show decide ((1:Int) < 1)=false by decide,ap,ak (n:=0 - y) (by omega) (by omega),show 0 - y=-y by omega]
theorem ajJ {x y:Int}(hx:-67108864<=x/\x<=67108864)(hy:-67108864<=y/\y<=67108864){k:Int->Int->Option α}:jt α x y 2 k=k (-x) (-y):=by
 obtain⟨z,hz⟩:∃ z,aN=z+3:=⟨aN - 3,by have:=cB;omega⟩
 simp only [jt,af,Ez,ny,af,vr,hz,n8,nH]
 rw [show decide ((0:Int) < 2)=true by decide,aq,show w64 (0+1)=1 by decide,show decide ((1:Int) < 2)=true by decide,aq,show w64 (1+1)=2 by decide,show decide ((2:Int) < 2)=false by decide,ap,ak (n:=0 - y) (by omega) (by omega),ak (n:=0 - x) (by omega) (by omega),show 0 - x=-x by omega,show 0 - y=-y by omega]
theorem rd {m:Int}(h1:-4503599627370496<=m)(h2:m<=4503599627370496):w64 (m - w64 (4194304*(m / 4194304)))=((m % 4194304).toNat:Int):=by
 have e:=Int.emod_add_mul_ediv m 4194304
 have e1:=Int.emod_nonneg m (show (4194304:Int) ≠ 0 by decide)
 have e2:=Int.emod_lt_of_pos m (show (0:Int) < 4194304 by decide)
 generalize m / 4194304=q at *
 generalize m % 4194304=r at *
 rw [ak (n:=4194304*q) (by omega) (by omega),ak (by omega) (by omega)]
 omega
theorem aha {r:Nat}(hr:r < 1048576){k:Int->Int->Option α} :
  cK (decide (524288 < (r:Int))) (ik α (w64 (1048576 - (r:Int))) fun x3 x4=>k x4 x3) (ik α (r:Int) fun x5 x6=>k x5 x6)=k (gJ r).1 (gJ r).2:=by
 unfold gJ
 by_cases h:524288 < r
 ·rw [decide_eq_true (by omega),aq,ak (by omega) (by omega),show (1048576:Int) - (r:Int)=((1048576 - r:Nat):Int) by omega,P9 (by omega),if_pos h]
 ·rw [decide_eq_false (by omega),ap,P9 (by omega),if_neg h]
theorem BX {r:Nat}(hr:r < 1048576){k:Int->Int->Option α}:vm α (r:Int) k=k (gJ r).1 (gJ r).2:=by
 simp only [vm,af,Kz]
 rw [f88_eq (by decide) (by decide) (by omega) (by omega)]
 have e:w64 ((r:Int) - w64 (4194304*((r:Int) / 4194304)))=(r:Int):=by rw [rd (by omega) (by omega)];omega
 simp only [e]
 rw [decide_eq_false (by omega),ap,decide_eq_false (by omega),ap]
 exact aha hr
theorem XP {r:Nat}(hr:r < 2097152):dir (r:Int)=if 1048576<=r then pB (gJ (r - 1048576)) else gJ r:=by
 have hd:(((r:Int) % 4194304).toNat)=r:=by omega
 unfold dir
 simp only [hd]
 rw [if_neg (by omega)]
theorem vb {r:Nat}(hr:r < 2097152){k:Int->Int->Option α}:qc α (r:Int) k=k (dir (r:Int)).1 (dir (r:Int)).2:=by
 have e:w64 ((r:Int) - w64 (4194304*((r:Int) / 4194304)))=(r:Int):=by rw [rd (by omega) (by omega)];omega
 simp only [qc,af,FD]
 rw [f88_eq (by decide) (by decide) (by omega) (by omega),XP hr]
 simp only [e]
 rw [decide_eq_false (by omega),ap]
 by_cases h:1048576<=r
 ·obtain⟨q,hq⟩:∃ q,q=r - 1048576:=⟨_,rfl⟩
  have hb:=oM q
  rw [decide_eq_true (by omega),aq,if_pos h,ak (by omega) (by omega),show (r:Int) - 1048576=(q:Int) by omega,BX (by omega),f181_1 ⟨hb.h1,hb.h2⟩ ⟨hb.h3,hb.h4⟩,<- hq]
  simp only [pB]
 ·rw [decide_eq_false (by omega),ap,if_neg h]
  exact aha (by omega)
theorem afo {m:Int}(h1:-4503599627370496<=m)(h2:m<=4503599627370496){k:Int->Int->Option α}:ym α m k=k (dir m).1 (dir m).2:=by
 have hm:=rd h1 h2
 have hlt:(m % 4194304).toNat < 4194304:=by omega
 simp only [ym,af,MX]
 rw [f88_eq (by decide) (by decide) (by omega) (by omega)]
 simp only [hm]
 have hdir:dir m=(let r:=(m % 4194304).toNat;if 2097152<=r then pF (dir ((r - 2097152:Nat):Int)) else dir (r:Int)):=by
  unfold dir
  generalize (m % 4194304).toNat=r at *
  simp only
  by_cases h:2097152<=r
  ·have e1:((((r - 2097152:Nat):Int)) % 4194304).toNat=r - 2097152:=by omega
   rw [if_pos h,if_pos h,e1,if_neg (show ¬ 2097152<=r - 2097152 by omega)]
   split <;> rfl
  ·have e1:(((r:Int)) % 4194304).toNat=r:=by omega
   rw [if_neg h,if_neg h,e1,if_neg h]
 rw [hdir]
 generalize (m % 4194304).toNat=r at *
 simp only
 by_cases h:2097152<=r
 ·have hb:=YK ((r - 2097152:Nat):Int)
  rw [decide_eq_true (by omega),aq,if_pos h,ak (by omega) (by omega),show (r:Int) - 2097152=((r - 2097152:Nat):Int) by omega,vb (by omega),ajJ ⟨hb.h1,hb.h2⟩ ⟨hb.h3,hb.h4⟩]
  rfl
 ·have e:=vb (α:=α) (r:=r) (by omega) (k:=k)
  have e':w64 ((r:Int) - w64 (4194304*((r:Int) / 4194304)))=(r:Int):=by rw [rd (by omega) (by omega)];omega
  simp only [qc,af,FD] at e
  rw [f88_eq (by decide) (by decide) (by omega) (by omega)] at e
  simp only [e'] at e
  rw [decide_eq_false (by omega),ap] at e
  rw [decide_eq_false (by omega),ap,if_neg h,<- e]
  by_cases h3:1048576<=r
  ·have hb:=oM (r - 1048576)
   rw [decide_eq_true (by omega),aq,aq,ak (by omega) (by omega),show (r:Int) - 1048576=((r - 1048576:Nat):Int) by omega,vb (by omega),BX (by omega)]
   have e1:((((r - 1048576:Nat):Int)) % 4194304).toNat=r - 1048576:=by omega
   have:dir ((r - 1048576:Nat):Int)=gJ (r - 1048576):=by
    unfold dir
    simp only [e1]
    rw [if_neg (by omega),if_neg (by omega)]
   rw [this]
  ·rw [decide_eq_false (by omega),ap,ap]
theorem f146_eq {n lo hi:Int}{k:Bool->Option α}:kq α n lo hi k=k (decide (lo<=n/\n<=hi)):=by
 simp only [kq,af,EN]
 by_cases h:lo<=n <;> simp [h]
theorem f140_eq {n most:Int}(h1:-1000000000000<=most)(h2:most<=1000000000000){k:Bool->Option α}:iV α n most k=k (decide (-most<=n/\n<=most)):=by
 simp only [iV,af,Nm,f146_eq]
 rw [ak (by omega) (by omega),show 0 - most=-most by omega]
def okB (x y r:Int):Bool:=decide ((-67108864<=x/\x<=67108864)/\(-67108864<=y/\y<=67108864)/\0<=r/\r<=67108864)
theorem f182_eq {x y r:Int}{k:Nat->Nat->Int->Int->Option α}:fT α x y r k=if okB x y r=true then k (FloatKind.nearest .f64 x) (FloatKind.nearest .f64 y) r 0 else k 0 0 0 8:=by
 simp only [fT,af,Nv,so,af,C0]
 rw [f140_eq (by decide) (by decide)]
 unfold okB
 by_cases h1:-67108864<=x/\x<=67108864
 ·rw [decide_eq_true h1,Bool.not_true,ap,f140_eq (by decide) (by decide)]
  by_cases h2:-67108864<=y/\y<=67108864
  ·rw [decide_eq_true h2,Bool.not_true,ap,f146_eq]
   by_cases h3:0<=r/\r<=67108864
   ·rw [decide_eq_true h3,Bool.not_true,ap,if_pos (decide_eq_true ⟨h1,h2,h3⟩)];simp only [Fz,af,ML]
   ·rw [decide_eq_false h3,Bool.not_false,aq,if_neg (by rw [decide_eq_false (fun h=>h3 h.2.2)];decide)]
  ·rw [decide_eq_false h2,Bool.not_false,aq,aq,if_neg (by rw [decide_eq_false (fun h=>h2 h.2.1)];decide)]
 ·rw [decide_eq_false h1,Bool.not_false,aq,aq,if_neg (by rw [decide_eq_false (fun h=>h1 h.1)];decide)]
def arcX (lo hi:Int):Int:=rdv (dir ((lo+hi) / 2)).1 64
def arcY (lo hi:Int):Int:=rdv (dir ((lo+hi) / 2)).2 64
def arcR (lo hi:Int):Int:=if lo=hi/\lo % 1048576=0 then 0 else 2+cdv (11*(hi - (lo+hi) / 2)) 7
theorem aiT {n:Int}(h1:0<=n):0<=cdv n 7/\cdv n 7<=n:=by unfold cdv;omega
theorem tmod0 {a:Int}:(Int.tmod a 1048576 == 0)=decide (a % 1048576=0):=by
 rw [Int.tmod_eq_emod]
 by_cases h:a % 1048576=0
 ·rw [if_pos (.inr (Int.dvd_of_emod_eq_zero h))];simp [h]
 ·have hn:¬ (1048576:Int) ∣ a:=fun hd=>h (Int.emod_eq_zero_of_dvd hd)
  have e1:=Int.emod_nonneg a (show (1048576:Int) ≠ 0 by decide)
  have e2:=Int.emod_lt_of_pos a (show (0:Int) < 1048576 by decide)
  rw [decide_eq_false h]
  apply beq_eq_false_iff_ne.2
  split <;> simp <;> omega
theorem f197_eq {lo hi:Int}(h1:-4503599627370496<=lo)(h2:hi<=4503599627370496)(h3:lo<=hi){k:Nat->Nat->Int->Int->Option α} :
  zj α lo hi k=if okB (arcX lo hi) (arcY lo hi) (arcR lo hi)=true then k (FloatKind.nearest .f64 (arcX lo hi)) (FloatKind.nearest .f64 (arcY lo hi)) (arcR lo hi) 0 else k 0 0 0 8:=by
 simp only [zj,af,MC]
 rw [ak (n:=lo+hi) (by omega) (by omega),f88_eq (by decide) (by decide) (by omega) (by omega),afo (by omega) (by omega)]
 have hb:=YK ((lo+hi) / 2)
 have:=hb.h1;have:=hb.h2;have:=hb.h3;have:=hb.h4
 rw [f171_eq (by decide) (by decide) (by omega) (by omega),f171_eq (by decide) (by decide) (by omega) (by omega)]
 rw [ak (n:=hi - (lo+hi) / 2) (by omega) (by omega),ak (n:=11*(hi - (lo+hi) / 2)) (by omega) (by omega),f89_eq (by decide) (by decide) (by omega) (by omega)]
 have hc:=aiT (n:=11*(hi - (lo+hi) / 2)) (by omega)
 rw [ak (n:=2+cdv (11*(hi - (lo+hi) / 2)) 7) (by omega) (by omega)]
 simp only [tg,af,CL,tmod0,f182_eq]
 have hR:arcR lo hi=if lo=hi/\lo % 1048576=0 then 0 else 2+cdv (11*(hi - (lo+hi) / 2)) 7:=rfl
 by_cases h4:lo=hi
 ·have g:(lo == hi)=true:=by rw [h4];exact beq_self_eq_true _
  rw [g,aq]
  by_cases h5:lo % 1048576=0
  ·rw [if_pos ⟨h4,h5⟩] at hR
   rw [decide_eq_true h5,aq,hR];rfl
  ·rw [if_neg (fun h=>h5 h.2)] at hR
   rw [decide_eq_false h5,ap,hR];rfl
 ·have g:(lo == hi)=false:=beq_eq_false_iff_ne.2 h4
  rw [if_neg (fun h=>h4 h.1)] at hR
  rw [g,ap,hR];rfl
end Go.AM.K.Mb
