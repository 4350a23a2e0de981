/- How great the balls of a kernel and of a causal spectrum are: none is too great; what they contain. -/
import Derived.Test.YtehamglokkjipaaGreatQM3
namespace Go.AM.K
open Ieee
set_option linter.unusedVariables false
set_option linter.unusedSimpArgs false
set_option linter.unusedSectionVars false
variable {α:Type}
def szS (l:List Int):Int:=sumI (fun s=>((l.getD s 0).natAbs:Int)) l.length
structure Sm (l:List Int)(q:Nat):Prop extends Sz l q where
 n2:2<=l.length
 n16:l.length<=16
 s60:(l.length:Int)*szS l<=60
section
variable {l:List Int}{q:Nat}(hm:Sm l q)
include hm
theorem Sm.s0:0<=szS l:=sumI_nn fun _ _=>by omega
theorem Sm.s30:szS l<=30:=by
 have h1:=hm.s60;have h2:=hm.s0;have h3:=hm.n2
 have:=Int.mul_nonneg (show 0<=(l.length:Int) - 2 by omega) h2
 rw [Int.sub_mul] at this
 omega
theorem Sm.one {t:Nat}(ht:t < l.length):((l.getD t 0).natAbs:Int)<=szS l:=by
 have h:=sumI_le (f:=fun s=>if s=t then ((l.getD t 0).natAbs:Int) else 0) (g:=fun s=>((l.getD s 0).natAbs:Int)) (n:=l.length) fun i hi=>by
  by_cases e:i=t
  ·rw [if_pos e,e];exact Int.le_refl _
  ·rw [if_neg e];omega
 rw [sumI_one,if_pos ht] at h
 exact h
theorem Sm.two {t r:Nat}(ht:t < l.length)(hr:r < l.length)(hne:t ≠ r):((l.getD t 0).natAbs:Int)+((l.getD r 0).natAbs:Int)<=szS l:=by
 have h:=sumI_le (f:=fun s=>(if s=t then ((l.getD t 0).natAbs:Int) else 0)+(if s=r then ((l.getD r 0).natAbs:Int) else 0)) (g:=fun s=>((l.getD s 0).natAbs:Int)) (n:=l.length) fun i hi=>by
  by_cases e:i=t
  ·rw [if_pos e,if_neg (by omega),e];omega
  ·rw [if_neg e]
   by_cases e2:i=r
   ·rw [if_pos e2,e2];omega
   ·rw [if_neg e2];omega
 rw [sumI_add,sumI_one,sumI_one,if_pos ht,if_pos hr] at h
 exact h
theorem Sm.kSz (k:Nat)(hk:k<=l.length):(k:Int)*szS l<=60:=by
 have h1:=hm.s60;have h2:=hm.s0
 have:=Int.mul_nonneg (show 0<=(l.length:Int) - k by omega) h2
 rw [Int.sub_mul] at this
 omega
theorem Sm.cle (m:Nat):nle (cX l m) (cY l m) (szS l*1048577):=by
 have h:=nle_sum (n:=l.length) fun s (hs:s < l.length)=>nle_scale (l.getD s 0) (hm.le ((m*s:Nat):Int))
 rw [sumI_mulr] at h
 exact h
theorem Sm.tm_bd {a:B3}(ha:okS a=true){m:Nat}{ρ:Int}(h0:0<=ρ)(h1:ρ<=20000)(hr:a.2.2<=ρ)(hc:nle (a.1 - cX l m) (a.2.1 - cY l m) (a.2.2 - cR l m))(k:Int) :
  (0<=(tmB a (uB k (l.length:Int))).2.2/\(tmB a (uB k (l.length:Int))).2.2<=2*szS l+ρ+2) /\
  (-(1048580*szS l+ρ+3)<=(tmB a (uB k (l.length:Int))).1/\(tmB a (uB k (l.length:Int))).1<=1048580*szS l+ρ+3) /\
  -(1048580*szS l+ρ+3)<=(tmB a (uB k (l.length:Int))).2.1/\(tmB a (uB k (l.length:Int))).2.1<=1048580*szS l+ρ+3:=by
 have hs0:=hm.s0;have hs30:=hm.s30
 have hcr:=hm.cR_nn m
 have g:=okS_iff.1 ha
 have hu:=hm.r k
 have hup:=hm.up_le k
 have hst:=hm.step ha hcr hc k
 have hA:upc a<=szS l*1048577+ρ:=by
  refine upc_le ha (nle_mono (nle_eq (nle_add hc (hm.cle m)) (by omega) (by omega)) (by omega))
 have hA0:=(upc_bd ha).1
 have w1:upc a*(uB k (l.length:Int)).2.2<=upc a*2:=Int.mul_le_mul_of_nonneg_left hu.2 hA0
 have w2:upc (uB k (l.length:Int))*a.2.2<=1048577*ρ:=by
  have e1:=Int.mul_le_mul_of_nonneg_right hup.2 g.2.2.1
  omega
 have w3:a.2.2*(uB k (l.length:Int)).2.2<=a.2.2*2:=Int.mul_le_mul_of_nonneg_left hu.2 g.2.2.1
 have v1:=Int.mul_nonneg hA0 hu.1
 have v2:=Int.mul_nonneg (show 0<=upc (uB k (l.length:Int)) by omega) g.2.2.1
 have v3:=Int.mul_nonneg g.2.2.1 hu.1
 have hW:tmW a (uB k (l.length:Int))<=2*(szS l*1048577)+1048581*ρ/\0<=tmW a (uB k (l.length:Int)):=by unfold tmW;omega
 have hcd:=cdv_up (n:=tmW a (uB k (l.length:Int)))
 have hR:(tmB a (uB k (l.length:Int))).2.2<=cdv (tmW a (uB k (l.length:Int))) 1048576+1/\cdv (tmW a (uB k (l.length:Int))) 1048576<=(tmB a (uB k (l.length:Int))).2.2:=by
  change cdv (tmW a (uB k (l.length:Int))) 1048576+_<=_/\_<=cdv (tmW a (uB k (l.length:Int))) 1048576+_
  split <;> omega
 have hrr:(tmB a (uB k (l.length:Int))).2.2<=2*szS l+ρ+2:=by omega
 have hmul:=nle_mul (hm.cle m) (hm.le k)
 have hall:=nle_add hst hmul
 have hpc:0<=upc (uB k (l.length:Int))*cR l m:=Int.mul_nonneg (by omega) hcr
 have ex:=nle_x (nle_eq hall (a':=1048576*(tmB a (uB k (l.length:Int))).1) (b':=1048576*(tmB a (uB k (l.length:Int))).2.1) (by omega) (by omega))
 have ey:=nle_y (nle_eq hall (a':=1048576*(tmB a (uB k (l.length:Int))).1) (b':=1048576*(tmB a (uB k (l.length:Int))).2.1) (by omega) (by omega))
 have eS:szS l*1048577*1048577=1099513724929*szS l:=by omega
 rw [eS] at ex ey
 refine⟨⟨by omega,hrr⟩,⟨by omega,by omega⟩,by omega,by omega⟩
theorem sum_bd {f:Nat->Int}{c:Int}{k:Nat}(h:∀ i,i < k->-c<=f i/\f i<=c):-((k:Int)*c)<=sumI f k/\sumI f k<=(k:Int)*c:=by
 have e1:=sumI_le (f:=f) (g:=fun _=>c) (n:=k) fun i hi=>(h i hi).2
 have e2:=sumI_le (f:=fun _=>-c) (g:=f) (n:=k) fun i hi=>(h i hi).1
 rw [sumI_const] at e1 e2
 rw [Int.mul_neg] at e2
 exact⟨e2,e1⟩
theorem Sm.cum_ok {τ:Nat->B3}{ρ:Int}(h0:0<=ρ)(h1:ρ<=20000)
  (hb:∀ m,m < l.length->(0<=(τ m).2.2/\(τ m).2.2<=2*szS l+ρ+2)/\(-(1048580*szS l+ρ+3)<=(τ m).1/\(τ m).1<=1048580*szS l+ρ+3)/\-(1048580*szS l+ρ+3)<=(τ m).2.1/\(τ m).2.1<=1048580*szS l+ρ+3) :
  (∀ m,m < l.length->okS (τ m)=true)/\(∀ k,k<=l.length->okS (cum τ k)=true)/\0<=(cum τ l.length).2.2/\(cum τ l.length).2.2<=152+16*ρ:=by
 have hs0:=hm.s0;have hs30:=hm.s30;have hn:=hm.n16
 have hr:∀ k,k<=l.length->0<=(cum τ k).2.2/\(cum τ k).2.2<=152+16*ρ:=fun k hk=>by
  have e0:=sumI_nn (f:=fun t=>(τ t).2.2) (n:=k) fun i hi=>(hb i (by omega)).1.1
  have e1:=sumI_le (f:=fun t=>(τ t).2.2) (g:=fun _=>2*szS l+ρ+2) (n:=k) fun i hi=>(hb i (by omega)).1.2
  rw [sumI_const] at e1
  have e2:=hm.kSz k hk
  have e3:(k:Int)*ρ<=16*ρ:=Int.mul_le_mul_of_nonneg_right (by omega) h0
  have e4:(k:Int)*(2*szS l+ρ+2)=2*((k:Int)*szS l)+(k:Int)*ρ+2*k:=by grind
  refine⟨e0,?_⟩
  show sumI (fun t=>(τ t).2.2) k<=_
  omega
 refine⟨fun m h=>?_,fun k hk=>?_,hr _ (Nat.le_refl _)⟩
 ·have:=hb m h
  exact okS_iff.2 ⟨by omega,by omega,by omega⟩
 ·have e1:=sum_bd hm (f:=fun t=>(τ t).1) (c:=1048580*szS l+ρ+3) (k:=k) fun i hi=>(hb i (by omega)).2.1
  have e2:=sum_bd hm (f:=fun t=>(τ t).2.1) (c:=1048580*szS l+ρ+3) (k:=k) fun i hi=>(hb i (by omega)).2.2
  have e5:=hm.kSz k hk
  have e3:(k:Int)*ρ<=16*ρ:=Int.mul_le_mul_of_nonneg_right (by omega) h0
  have e4:(k:Int)*(1048580*szS l+ρ+3)=1048580*((k:Int)*szS l)+(k:Int)*ρ+3*k:=by grind
  rw [e4] at e1 e2
  have e6:=hr k hk
  refine okS_iff.2 ⟨?_,?_,?_⟩
  ·show -67108864<=sumI (fun t=>(τ t).1) k/\sumI (fun t=>(τ t).1) k<=67108864
   omega
  ·show -67108864<=sumI (fun t=>(τ t).2.1) k/\sumI (fun t=>(τ t).2.1) k<=67108864
   omega
  ·omega
theorem Sm.kern {a:Nat->B3}{s:List B3}(hl:s.length=l.length)(hs:∀ m,m < l.length->s.getD m z3=a m)(hc:covs l a){ρ:Int}(h0:0<=ρ)(h1:ρ<=20000)(hr:∀ m,m < l.length->(a m).2.2<=ρ) :
  kerL s=some (mkL l.length fun t=>shr (l.length:Int) (kS l a t))/\∀ t,t < l.length->okS (kS l a t)=true/\(kS l a t).2.2<=152+16*ρ:=by
 have hb:=fun (t m:Nat) (h:m < l.length)=>hm.tm_bd (hc m h).1 h0 h1 (hr m h) (hc m h).2 (-1*((t*m:Nat):Int))
 have hok:=fun t=>hm.cum_ok (τ:=fun m=>tmB (a m) (uB (-1*((t*m:Nat):Int)) (l.length:Int))) h0 h1 (fun m h=>hb t m h)
 refine⟨?_,fun t _=>⟨(hok t).2.1 _ (Nat.le_refl _),(hok t).2.2.2⟩⟩
 unfold kerL
 rw [hl,allB_val (τ:=fun t m=>tmB (a m) (uB (-1*((t*m:Nat):Int)) (l.length:Int))) (fun t m ht hmm=>⟨?_,(hok t).1 m hmm⟩) (fun t k ht hk=>(hok t).2.1 k hk)]
 ·simp only [Option.map_some,mkL,List.map_map]
  rfl
 ·unfold tS tms
  rw [hs m hmm,hl,if_pos ((hok t).1 m hmm)]
theorem Sm.kcov {a:Nat->B3}(hc:covs l a){t:Nat}(ht:t < l.length):nle ((shr (l.length:Int) (kS l a t)).1 - l.getD t 0*1048576) (shr (l.length:Int) (kS l a t)).2.1 (shr (l.length:Int) (kS l a t)).2.2:=by
 have h:=hm.main hc ht
 exact shr_cov (by have:=hm.n2;omega) h.1 h
theorem Sm.shr_r {b:B3}(hb:okS b=true){c:Int}(h:b.2.2<=2*c):(shr (l.length:Int) b).2.2<=c+1:=by
 have g:=okS_iff.1 hb
 have hn:=hm.n2
 have e:cdv b.2.2 (l.length:Int)<=c:=by
  refine (cdv_le_iff (by omega)).2 ?_
  have:=Int.mul_le_mul_of_nonneg_left (show (2:Int)<=(l.length:Int) by omega) (show 0<=c by omega)
  omega
 unfold shr;simp only;split <;> omega
end
end Go.AM.K
