/- The kernel of a spectrum that covers the spectrum of numbers contains these numbers. -/
import Derived.Test.YtehamglokkjipaaGreatQM2
namespace Go.AM.K
open Ieee
set_option linter.unusedVariables false
set_option linter.unusedSimpArgs false
set_option linter.unusedSectionVars false
variable {α:Type}
def cX (l:List Int)(m:Nat):Int:=sumI (fun s=>l.getD s 0*(uB ((m*s:Nat):Int) (l.length:Int)).1) l.length
def cY (l:List Int)(m:Nat):Int:=sumI (fun s=>l.getD s 0*(uB ((m*s:Nat):Int) (l.length:Int)).2.1) l.length
def cR (l:List Int)(m:Nat):Int:=sumI (fun s=>((l.getD s 0).natAbs:Int)*(uB ((m*s:Nat):Int) (l.length:Int)).2.2) l.length
def kS (l:List Int)(a:Nat->B3)(t:Nat):B3:=cum (fun m=>tmB (a m) (uB (-1*((t*m:Nat):Int)) (l.length:Int))) l.length
def covs (l:List Int)(a:Nat->B3):Prop:=∀ m,m < l.length->okS (a m)=true/\nle ((a m).1 - cX l m) ((a m).2.1 - cY l m) ((a m).2.2 - cR l m)
structure Sz (l:List Int)(q:Nat):Prop where
 n1:1<=l.length
 nq:l.length*q=16
 e:eAll q l.length=true
section
variable {l:List Int}{q:Nat}(hz:Sz l q)
include hz
theorem Sz.u (k:Int):uB k (l.length:Int)=tu ((q:Int)*k):=uB_q (by have:=hz.n1;omega) (by have:=hz.nq;exact_mod_cast this)
theorem Sz.ok (k:Int):okS (uB k (l.length:Int))=true:=uB_ok (by have:=hz.n1;omega)
theorem Sz.up (k:Int):upc (uB k (l.length:Int))=utb ((q:Int)*k):=by rw [hz.u];exact (uB_tab _).2
theorem Sz.up_le (k:Int):1048576<=upc (uB k (l.length:Int))/\upc (uB k (l.length:Int))<=1048577:=by
 rw [hz.up];unfold utb;split <;> omega
theorem Sz.r (k:Int):0<=(uB k (l.length:Int)).2.2/\(uB k (l.length:Int)).2.2<=2:=by rw [hz.u];exact tu_r _
theorem Sz.le (k:Int):nle (uB k (l.length:Int)).1 (uB k (l.length:Int)).2.1 1048577:=nle_mono (nle_up (hz.ok k)) (hz.up_le k).2
theorem Sz.step {a:B3}(ha:okS a=true){x y r:Int}(hr:0<=r)(hc:nle (a.1 - x) (a.2.1 - y) (a.2.2 - r))(k:Int) :
  nle (1048576*(tmB a (uB k (l.length:Int))).1 - (x*(uB k (l.length:Int)).1 - y*(uB k (l.length:Int)).2.1)) (1048576*(tmB a (uB k (l.length:Int))).2.1 - (x*(uB k (l.length:Int)).2.1+y*(uB k (l.length:Int)).1))
   (1048576*(tmB a (uB k (l.length:Int))).2.2 - upc (uB k (l.length:Int))*r):=by
 have g:=okS_iff.1 ha
 have hu:=hz.r k
 have h1:=tm_cov (a:=a) (b:=uB k (l.length:Int))
 have h2:=nle_mul hc (nle_up (hz.ok k))
 have h3:=nle_add h1 h2
 refine nle_mono (nle_eq h3 (by unfold tmP;grind) (by unfold tmQ;grind)) ?_
 have e1:=Int.mul_nonneg (upc_bd ha).1 hu.1
 have e2:=Int.mul_nonneg g.2.2.1 hu.1
 unfold tmW
 have e3:(a.2.2 - r)*upc (uB k (l.length:Int))=upc (uB k (l.length:Int))*a.2.2 - upc (uB k (l.length:Int))*r:=by grind
 omega
theorem Sz.swapP (t:Nat)(ht:t < l.length):sumI (fun m=>cX l m*(uB (-1*((t*m:Nat):Int)) (l.length:Int)).1 - cY l m*(uB (-1*((t*m:Nat):Int)) (l.length:Int)).2.1) l.length=
  sumI (fun s=>l.getD s 0*eRe q l.length t s) l.length+l.getD t 0*((l.length:Int)*1099511627776):=by
 have e1:sumI (fun m=>cX l m*(uB (-1*((t*m:Nat):Int)) (l.length:Int)).1 - cY l m*(uB (-1*((t*m:Nat):Int)) (l.length:Int)).2.1) l.length=
   sumI (fun m=>sumI (fun s=>l.getD s 0*tmP (uB ((m*s:Nat):Int) (l.length:Int)) (uB (-1*((t*m:Nat):Int)) (l.length:Int))) l.length) l.length:=by
  refine sumI_congr fun m _=>?_
  unfold cX cY
  rw [<- sumI_mulr,<- sumI_mulr,<- sumI_sub]
  refine sumI_congr fun s _=>?_
  unfold tmP;grind
 rw [e1,sumI_swap]
 have e2:∀ s,s < l.length->sumI (fun m=>l.getD s 0*tmP (uB ((m*s:Nat):Int) (l.length:Int)) (uB (-1*((t*m:Nat):Int)) (l.length:Int))) l.length=
   l.getD s 0*eRe q l.length t s+if s=t then l.getD t 0*((l.length:Int)*1099511627776) else 0:=fun s hs=>by
  rw [sumI_mul]
  have e3:sumI (fun m=>tmP (uB ((m*s:Nat):Int) (l.length:Int)) (uB (-1*((t*m:Nat):Int)) (l.length:Int))) l.length=eRe q l.length t s+if s=t then (l.length:Int)*1099511627776 else 0:=by
   unfold eRe
   simp only [hz.u]
   omega
  rw [e3,Int.mul_add]
  by_cases h:s=t
  ·rw [if_pos h,if_pos h,h]
  ·rw [if_neg h,if_neg h,Int.mul_zero]
 rw [sumI_congr e2,sumI_add,sumI_one,if_pos ht]
theorem Sz.swapQ (t:Nat):sumI (fun m=>cX l m*(uB (-1*((t*m:Nat):Int)) (l.length:Int)).2.1+cY l m*(uB (-1*((t*m:Nat):Int)) (l.length:Int)).1) l.length=
  sumI (fun s=>l.getD s 0*eIm q l.length t s) l.length:=by
 have e1:sumI (fun m=>cX l m*(uB (-1*((t*m:Nat):Int)) (l.length:Int)).2.1+cY l m*(uB (-1*((t*m:Nat):Int)) (l.length:Int)).1) l.length=
   sumI (fun m=>sumI (fun s=>l.getD s 0*tmQ (uB ((m*s:Nat):Int) (l.length:Int)) (uB (-1*((t*m:Nat):Int)) (l.length:Int))) l.length) l.length:=by
  refine sumI_congr fun m _=>?_
  unfold cX cY
  rw [<- sumI_mulr,<- sumI_mulr,<- sumI_add]
  refine sumI_congr fun s _=>?_
  unfold tmQ;grind
 rw [e1,sumI_swap]
 refine sumI_congr fun s _=>?_
 rw [sumI_mul]
 unfold eIm
 simp only [hz.u]
theorem Sz.swapR (t:Nat):sumI (fun m=>upc (uB (-1*((t*m:Nat):Int)) (l.length:Int))*cR l m) l.length=sumI (fun s=>((l.getD s 0).natAbs:Int)*eG q l.length t s) l.length:=by
 have e1:sumI (fun m=>upc (uB (-1*((t*m:Nat):Int)) (l.length:Int))*cR l m) l.length=
   sumI (fun m=>sumI (fun s=>((l.getD s 0).natAbs:Int)*(upc (uB (-1*((t*m:Nat):Int)) (l.length:Int))*(uB ((m*s:Nat):Int) (l.length:Int)).2.2)) l.length) l.length:=by
  refine sumI_congr fun m _=>?_
  unfold cR
  rw [<- sumI_mul]
  refine sumI_congr fun s _=>?_
  grind
 rw [e1,sumI_swap]
 refine sumI_congr fun s _=>?_
 rw [sumI_mul]
 unfold eG
 simp only [hz.up]
 simp only [hz.u]
theorem Sz.cR_nn (m:Nat):0<=cR l m:=sumI_nn fun s _=>Int.mul_nonneg (by omega) (hz.r _).1
theorem Sz.main {a:Nat->B3}(hc:covs l a){t:Nat}(ht:t < l.length):nle ((kS l a t).1 - (l.length:Int)*(l.getD t 0*1048576)) (kS l a t).2.1 (kS l a t).2.2:=by
 have h1:=nle_sum (n:=l.length) fun m (hm:m < l.length)=>hz.step (hc m hm).1 (hz.cR_nn m) (hc m hm).2 (-1*((t*m:Nat):Int))
 have E1:sumI (fun m=>1048576*(tmB (a m) (uB (-1*((t*m:Nat):Int)) (l.length:Int))).1 - (cX l m*(uB (-1*((t*m:Nat):Int)) (l.length:Int)).1 - cY l m*(uB (-1*((t*m:Nat):Int)) (l.length:Int)).2.1)) l.length=
   1048576*(kS l a t).1 - (sumI (fun s=>l.getD s 0*eRe q l.length t s) l.length+l.getD t 0*((l.length:Int)*1099511627776)):=by
  rw [sumI_sub,sumI_mul,hz.swapP t ht];rfl
 have E2:sumI (fun m=>1048576*(tmB (a m) (uB (-1*((t*m:Nat):Int)) (l.length:Int))).2.1 - (cX l m*(uB (-1*((t*m:Nat):Int)) (l.length:Int)).2.1+cY l m*(uB (-1*((t*m:Nat):Int)) (l.length:Int)).1)) l.length=
   1048576*(kS l a t).2.1 - sumI (fun s=>l.getD s 0*eIm q l.length t s) l.length:=by
  rw [sumI_sub,sumI_mul,hz.swapQ t];rfl
 have E3:sumI (fun m=>1048576*(tmB (a m) (uB (-1*((t*m:Nat):Int)) (l.length:Int))).2.2 - upc (uB (-1*((t*m:Nat):Int)) (l.length:Int))*cR l m) l.length=
   1048576*(kS l a t).2.2 - sumI (fun s=>((l.getD s 0).natAbs:Int)*eG q l.length t s) l.length:=by
  rw [sumI_sub,sumI_mul,hz.swapR t];rfl
 rw [E1,E2,E3] at h1
 have h2:=nle_sum (n:=l.length) fun s (hs:s < l.length)=>nle_scale (l.getD s 0) (e_of hz.e ht hs)
 have h3:=nle_add h1 h2
 have hr:0<=(kS l a t).2.2:=by
  have:=h3.1
  omega
 refine nle_div (k:=1048576) (by decide) hr (nle_eq (nle_mono h3 (by omega)) ?_ (by omega))
 have e2:1048576*((kS l a t).1 - (l.length:Int)*(l.getD t 0*1048576))=1048576*(kS l a t).1 - l.getD t 0*((l.length:Int)*1099511627776):=by grind
 omega
end
theorem shr_cov {b:B3}{d x:Int}(hd:2<=d)(hr:0<=b.2.2)(h:nle (b.1 - d*x) b.2.1 b.2.2):nle ((shr d b).1 - x) (shr d b).2.1 (shr d b).2.2:=by
 have hc:b.2.2<=d*cdv b.2.2 d:=by
  have h1:=(cdv_le_iff (n:=b.2.2) (d:=d) (m:=cdv b.2.2 d) (by omega)).1 (Int.le_refl _)
  rw [Int.mul_comm] at h1;exact h1
 have hc0:0<=cdv b.2.2 d:=by
  by_cases hh:0<=cdv b.2.2 d
  ·exact hh
  ·have:=Int.mul_nonneg (show 0<=d by omega) (show 0<=-cdv b.2.2 d - 1 by omega)
   have e:d*(-cdv b.2.2 d - 1)=-(d*cdv b.2.2 d) - d:=by grind
   omega
 have nr:∀ y:Int,-d<=2*(d*near y d - y)/\2*(d*near y d - y)<=d/\(y % d=0->d*near y d=y):=fun y=>by
  have e1:=Int.emod_add_mul_ediv (2*y+d) (2*d)
  have e2:=Int.emod_nonneg (2*y+d) (show 2*d ≠ 0 by omega)
  have e3:=Int.emod_lt_of_pos (2*y+d) (show 0 < 2*d by omega)
  have e4:2*d*((2*y+d) / (2*d))=2*(d*near y d):=by unfold near;rw [Int.mul_assoc]
  refine⟨by omega,by omega,fun h0=>?_⟩
  have e5:y=d*(y / d):=by have:=Int.emod_add_mul_ediv y d;omega
  have e6:near y d=y / d:=by
   unfold near
   have:(2*y+d) / (2*d)=y / d:=by
    apply Int.le_antisymm
    ·have:(2*y+d) / (2*d) < y / d+1:=by
      rw [Int.ediv_lt_iff_lt_mul (by omega)]
      have e7:(y / d+1)*(2*d)=2*(d*(y / d))+2*d:=by grind
      omega
     omega
    ·rw [Int.le_ediv_iff_mul_le (by omega)]
     have e7:y / d*(2*d)=2*(d*(y / d)):=by grind
     omega
   exact this
  rw [e6];omega
 have n1:=nr b.1
 have n2:=nr b.2.1
 have hsh:(shr d b).1=near b.1 d/\(shr d b).2.1=near b.2.1 d:=⟨rfl,rfl⟩
 have key:nle (d*near b.1 d - b.1) (d*near b.2.1 d - b.2.1) (d*(if b.1 % d=0/\b.2.1 % d=0 then 0 else 1)):=by
  by_cases h0:b.1 % d=0/\b.2.1 % d=0
  ·rw [if_pos h0,n1.2.2 h0.1,n2.2.2 h0.2,Int.sub_self,Int.sub_self]
   exact nle_zero (by omega)
  ·rw [if_neg h0,Int.mul_one]
   refine⟨by omega,?_⟩
   generalize hA:d*near b.1 d - b.1=A at n1
   generalize hB:d*near b.2.1 d - b.2.1=B at n2
   have q1:=mul_bd (a:=2*A) (b:=2*A) (A:=d) (B:=d) (by omega) (by omega) (by omega) (by omega)
   have q2:=mul_bd (a:=2*B) (b:=2*B) (A:=d) (B:=d) (by omega) (by omega) (by omega) (by omega)
   have e1:2*A*(2*A)=4*(A*A):=by grind
   have e2:2*B*(2*B)=4*(B*B):=by grind
   have:=sq_nn d
   omega
 have hall:=nle_add h key
 have hs0:0<=(shr d b).2.2:=by
  unfold shr;simp only;split <;> omega
 refine nle_div (k:=d) (by omega) hs0 (nle_eq (nle_mono hall ?_) ?_ ?_)
 ·have:d*(shr d b).2.2=d*cdv b.2.2 d+d*(if b.1 % d=0/\b.2.1 % d=0 then 0 else 1):=by
   unfold shr;simp only;rw [Int.mul_add]
  omega
 ·rw [hsh.1,Int.mul_sub];omega
 ·rw [hsh.2];omega
end Go.AM.K
