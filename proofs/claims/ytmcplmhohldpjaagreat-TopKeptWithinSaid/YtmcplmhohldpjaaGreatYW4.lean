/- Chapter 1, as far as Meter needs it: directions of all numbers, arcs, balls of whole numbers. -/
import Derived.Test.YtmcplmhohldpjaaGreatYW3
namespace Go.AM.K.Mb
open Ieee
set_option linter.unusedVariables false
set_option linter.unusedSimpArgs false
variable {α:Type}
theorem f181_1 {x y:Int}(hx:-67108864<=x/\x<=67108864)(hy:-67108864<=y/\y<=67108864){k:Int->Int->Option α}:f181_0 α x y 1 k=k (-y) x:=by
 obtain⟨z,hz⟩:∃ z,fuel=z+2:=⟨fuel - 2,by have:=fuel_ge;omega⟩
 simp only [f181_0,sld_eq,f181_0g,L181_0_0,sld_eq,L181_0_0g,hz,R181_0_0,S181_0_0]
 rw [show decide ((0:Int) < 1)=true by decide,cK_true,show w64 (0+1)=1 by decide,show decide ((1:Int) < 1)=false by decide,cK_false,w64_in (n:=0 - y) (by omega) (by omega),show 0 - y=-y by omega]
theorem f181_2 {x y:Int}(hx:-67108864<=x/\x<=67108864)(hy:-67108864<=y/\y<=67108864){k:Int->Int->Option α}:f181_0 α x y 2 k=k (-x) (-y):=by
 obtain⟨z,hz⟩:∃ z,fuel=z+3:=⟨fuel - 3,by have:=fuel_ge;omega⟩
 simp only [f181_0,sld_eq,f181_0g,L181_0_0,sld_eq,L181_0_0g,hz,R181_0_0,S181_0_0]
 rw [show decide ((0:Int) < 2)=true by decide,cK_true,show w64 (0+1)=1 by decide,show decide ((1:Int) < 2)=true by decide,cK_true,show w64 (1+1)=2 by decide,show decide ((2:Int) < 2)=false by decide,cK_false,w64_in (n:=0 - y) (by omega) (by omega),w64_in (n:=0 - x) (by omega) (by omega),show 0 - x=-x by omega,show 0 - y=-y by omega]
theorem mod_turn {m:Int}(h1:-4503599627370496<=m)(h2:m<=4503599627370496):w64 (m - w64 (4194304*(m / 4194304)))=((m % 4194304).toNat:Int):=by
 have e:=Int.emod_add_mul_ediv m 4194304
 have e1:=Int.emod_nonneg m (show (4194304:Int) ≠ 0 by decide)
 have e2:=Int.emod_lt_of_pos m (show (0:Int) < 4194304 by decide)
 generalize m / 4194304=q at *
 generalize m % 4194304=r at *
 rw [w64_in (n:=4194304*q) (by omega) (by omega),w64_in (by omega) (by omega)]
 omega
theorem fquad {r:Nat}(hr:r < 1048576){k:Int->Int->Option α} :
  cK (decide (524288 < (r:Int))) (f220_0 α (w64 (1048576 - (r:Int))) fun x3 x4=>k x4 x3) (f220_0 α (r:Int) fun x5 x6=>k x5 x6)=k (quad r).1 (quad r).2:=by
 unfold quad
 by_cases h:524288 < r
 ·rw [decide_eq_true (by omega),cK_true,w64_in (by omega) (by omega),show (1048576:Int) - (r:Int)=((1048576 - r:Nat):Int) by omega,f220_eq (by omega),if_pos h]
 ·rw [decide_eq_false (by omega),cK_false,f220_eq (by omega),if_neg h]
theorem f214_2_eq {r:Nat}(hr:r < 1048576){k:Int->Int->Option α}:f214_2 α (r:Int) k=k (quad r).1 (quad r).2:=by
 simp only [f214_2,sld_eq,f214_2g]
 rw [f88_eq (by decide) (by decide) (by omega) (by omega)]
 have e:w64 ((r:Int) - w64 (4194304*((r:Int) / 4194304)))=(r:Int):=by rw [mod_turn (by omega) (by omega)];omega
 simp only [e]
 rw [decide_eq_false (by omega),cK_false,decide_eq_false (by omega),cK_false]
 exact fquad hr
theorem dir_half {r:Nat}(hr:r < 2097152):dir (r:Int)=if 1048576<=r then trn1 (quad (r - 1048576)) else quad r:=by
 have hd:(((r:Int) % 4194304).toNat)=r:=by omega
 unfold dir
 simp only [hd]
 rw [if_neg (by omega)]
theorem f214_1_eq {r:Nat}(hr:r < 2097152){k:Int->Int->Option α}:f214_1 α (r:Int) k=k (dir (r:Int)).1 (dir (r:Int)).2:=by
 have e:w64 ((r:Int) - w64 (4194304*((r:Int) / 4194304)))=(r:Int):=by rw [mod_turn (by omega) (by omega)];omega
 simp only [f214_1,sld_eq,f214_1g]
 rw [f88_eq (by decide) (by decide) (by omega) (by omega),dir_half hr]
 simp only [e]
 rw [decide_eq_false (by omega),cK_false]
 by_cases h:1048576<=r
 ·obtain⟨q,hq⟩:∃ q,q=r - 1048576:=⟨_,rfl⟩
  have hb:=quad_bd q
  rw [decide_eq_true (by omega),cK_true,if_pos h,w64_in (by omega) (by omega),show (r:Int) - 1048576=(q:Int) by omega,f214_2_eq (by omega),f181_1 ⟨hb.h1,hb.h2⟩ ⟨hb.h3,hb.h4⟩,<- hq]
  simp only [trn1]
 ·rw [decide_eq_false (by omega),cK_false,if_neg h]
  exact fquad (by omega)
theorem f214_eq {m:Int}(h1:-4503599627370496<=m)(h2:m<=4503599627370496){k:Int->Int->Option α}:f214_0 α m k=k (dir m).1 (dir m).2:=by
 have hm:=mod_turn h1 h2
 have hlt:(m % 4194304).toNat < 4194304:=by omega
 simp only [f214_0,sld_eq,f214_0g]
 rw [f88_eq (by decide) (by decide) (by omega) (by omega)]
 simp only [hm]
 have hdir:dir m=(let r:=(m % 4194304).toNat;if 2097152<=r then trn2 (dir ((r - 2097152:Nat):Int)) else dir (r:Int)):=by
  unfold dir
  generalize (m % 4194304).toNat=r at *
  simp only
  by_cases h:2097152<=r
  ·have e1:((((r - 2097152:Nat):Int)) % 4194304).toNat=r - 2097152:=by omega
   rw [if_pos h,if_pos h,e1,if_neg (show ¬ 2097152<=r - 2097152 by omega)]
   split <;> rfl
  ·have e1:(((r:Int)) % 4194304).toNat=r:=by omega
   rw [if_neg h,if_neg h,e1,if_neg h]
 rw [hdir]
 generalize (m % 4194304).toNat=r at *
 simp only
 by_cases h:2097152<=r
 ·have hb:=dir_bd ((r - 2097152:Nat):Int)
  rw [decide_eq_true (by omega),cK_true,if_pos h,w64_in (by omega) (by omega),show (r:Int) - 2097152=((r - 2097152:Nat):Int) by omega,f214_1_eq (by omega),f181_2 ⟨hb.h1,hb.h2⟩ ⟨hb.h3,hb.h4⟩]
  rfl
 ·have e:=f214_1_eq (α:=α) (r:=r) (by omega) (k:=k)
  have e':w64 ((r:Int) - w64 (4194304*((r:Int) / 4194304)))=(r:Int):=by rw [mod_turn (by omega) (by omega)];omega
  simp only [f214_1,sld_eq,f214_1g] at e
  rw [f88_eq (by decide) (by decide) (by omega) (by omega)] at e
  simp only [e'] at e
  rw [decide_eq_false (by omega),cK_false] at e
  rw [decide_eq_false (by omega),cK_false,if_neg h,<- e]
  by_cases h3:1048576<=r
  ·have hb:=quad_bd (r - 1048576)
   rw [decide_eq_true (by omega),cK_true,cK_true,w64_in (by omega) (by omega),show (r:Int) - 1048576=((r - 1048576:Nat):Int) by omega,f214_1_eq (by omega),f214_2_eq (by omega)]
   have e1:((((r - 1048576:Nat):Int)) % 4194304).toNat=r - 1048576:=by omega
   have:dir ((r - 1048576:Nat):Int)=quad (r - 1048576):=by
    unfold dir
    simp only [e1]
    rw [if_neg (by omega),if_neg (by omega)]
   rw [this]
  ·rw [decide_eq_false (by omega),cK_false,cK_false]
theorem f146_eq {n lo hi:Int}{k:Bool->Option α}:f146_0 α n lo hi k=k (decide (lo<=n/\n<=hi)):=by
 simp only [f146_0,sld_eq,f146_0g]
 by_cases h:lo<=n <;> simp [h]
theorem f140_eq {n most:Int}(h1:-1000000000000<=most)(h2:most<=1000000000000){k:Bool->Option α}:f140_0 α n most k=k (decide (-most<=n/\n<=most)):=by
 simp only [f140_0,sld_eq,f140_0g,f146_eq]
 rw [w64_in (by omega) (by omega),show 0 - most=-most by omega]
def okB (x y r:Int):Bool:=decide ((-67108864<=x/\x<=67108864)/\(-67108864<=y/\y<=67108864)/\0<=r/\r<=67108864)
theorem f182_eq {x y r:Int}{k:Nat->Nat->Int->Int->Option α}:f182_0 α x y r k=if okB x y r=true then k (FloatKind.nearest .f64 x) (FloatKind.nearest .f64 y) r 0 else k 0 0 0 8:=by
 simp only [f182_0,sld_eq,f182_0g,J182_0_0,sld_eq,J182_0_0g]
 rw [f140_eq (by decide) (by decide)]
 unfold okB
 by_cases h1:-67108864<=x/\x<=67108864
 ·rw [decide_eq_true h1,Bool.not_true,cK_false,f140_eq (by decide) (by decide)]
  by_cases h2:-67108864<=y/\y<=67108864
  ·rw [decide_eq_true h2,Bool.not_true,cK_false,f146_eq]
   by_cases h3:0<=r/\r<=67108864
   ·rw [decide_eq_true h3,Bool.not_true,cK_false,if_pos (decide_eq_true ⟨h1,h2,h3⟩)];simp only [f201_0,sld_eq,f201_0g]
   ·rw [decide_eq_false h3,Bool.not_false,cK_true,if_neg (by rw [decide_eq_false (fun h=>h3 h.2.2)];decide)]
  ·rw [decide_eq_false h2,Bool.not_false,cK_true,cK_true,if_neg (by rw [decide_eq_false (fun h=>h2 h.2.1)];decide)]
 ·rw [decide_eq_false h1,Bool.not_false,cK_true,cK_true,if_neg (by rw [decide_eq_false (fun h=>h1 h.1)];decide)]
def arcX (lo hi:Int):Int:=rdv (dir ((lo+hi) / 2)).1 64
def arcY (lo hi:Int):Int:=rdv (dir ((lo+hi) / 2)).2 64
def arcR (lo hi:Int):Int:=if lo=hi/\lo % 1048576=0 then 0 else 2+cdv (11*(hi - (lo+hi) / 2)) 7
theorem cdv_bd {n:Int}(h1:0<=n):0<=cdv n 7/\cdv n 7<=n:=by unfold cdv;omega
theorem tmod0 {a:Int}:(Int.tmod a 1048576 == 0)=decide (a % 1048576=0):=by
 rw [Int.tmod_eq_emod]
 by_cases h:a % 1048576=0
 ·rw [if_pos (.inr (Int.dvd_of_emod_eq_zero h))];simp [h]
 ·have hn:¬ (1048576:Int) ∣ a:=fun hd=>h (Int.emod_eq_zero_of_dvd hd)
  have e1:=Int.emod_nonneg a (show (1048576:Int) ≠ 0 by decide)
  have e2:=Int.emod_lt_of_pos a (show (0:Int) < 1048576 by decide)
  rw [decide_eq_false h]
  apply beq_eq_false_iff_ne.2
  split <;> simp <;> omega
theorem f197_eq {lo hi:Int}(h1:-4503599627370496<=lo)(h2:hi<=4503599627370496)(h3:lo<=hi){k:Nat->Nat->Int->Int->Option α} :
  f197_0 α lo hi k=if okB (arcX lo hi) (arcY lo hi) (arcR lo hi)=true then k (FloatKind.nearest .f64 (arcX lo hi)) (FloatKind.nearest .f64 (arcY lo hi)) (arcR lo hi) 0 else k 0 0 0 8:=by
 simp only [f197_0,sld_eq,f197_0g]
 rw [w64_in (n:=lo+hi) (by omega) (by omega),f88_eq (by decide) (by decide) (by omega) (by omega),f214_eq (by omega) (by omega)]
 have hb:=dir_bd ((lo+hi) / 2)
 have:=hb.h1;have:=hb.h2;have:=hb.h3;have:=hb.h4
 rw [f171_eq (by decide) (by decide) (by omega) (by omega),f171_eq (by decide) (by decide) (by omega) (by omega)]
 rw [w64_in (n:=hi - (lo+hi) / 2) (by omega) (by omega),w64_in (n:=11*(hi - (lo+hi) / 2)) (by omega) (by omega),f89_eq (by decide) (by decide) (by omega) (by omega)]
 have hc:=cdv_bd (n:=11*(hi - (lo+hi) / 2)) (by omega)
 rw [w64_in (n:=2+cdv (11*(hi - (lo+hi) / 2)) 7) (by omega) (by omega)]
 simp only [J197_0_0,sld_eq,J197_0_0g,tmod0,f182_eq]
 have hR:arcR lo hi=if lo=hi/\lo % 1048576=0 then 0 else 2+cdv (11*(hi - (lo+hi) / 2)) 7:=rfl
 by_cases h4:lo=hi
 ·have g:(lo == hi)=true:=by rw [h4];exact beq_self_eq_true _
  rw [g,cK_true]
  by_cases h5:lo % 1048576=0
  ·rw [if_pos ⟨h4,h5⟩] at hR
   rw [decide_eq_true h5,cK_true,hR];rfl
  ·rw [if_neg (fun h=>h5 h.2)] at hR
   rw [decide_eq_false h5,cK_false,hR];rfl
 ·have g:(lo == hi)=false:=beq_eq_false_iff_ne.2 h4
  rw [if_neg (fun h=>h4 h.1)] at hR
  rw [g,cK_false,hR];rfl
end Go.AM.K.Mb
