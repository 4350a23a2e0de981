/- The spectrum of numbers, its kernel and its causal spectrum: there are such, and what they contain. -/
import Derived.Test.YtehamglokkjipaaGreatQM5
namespace Go.AM.K
open Ieee
set_option linter.unusedVariables false
set_option linter.unusedSimpArgs false
set_option linter.unusedSectionVars false
variable {α:Type}
theorem part_le {f:Nat->Int}{n:Nat}(h:∀ i,i < n->0<=f i):∀ k,k<=n->sumI f k<=sumI f n:=by
 have key:∀ (d k:Nat),k+d=n->sumI f k<=sumI f n:=by
  intro d
  induction d with
  | zero=>
   intro k hk
   obtain rfl:k=n:=by omega
   exact Int.le_refl _
  | succ d ih=>
   intro k hk
   have h1:=ih (k+1) (by omega)
   have h2:=h k (by omega)
   have h3:sumI f (k+1)=sumI f k+f k:=rfl
   omega
 exact fun k hk=>key (n - k) k (by omega)
def spL (l:List Int):List B3:=mkL l.length fun m=>cum (spT l m) l.length
theorem spL_at {l:List Int}(m:Nat):cum (spT l m) l.length=(cX l m,cY l m,cR l m):=by
 have e1:∀ t,(spT l m t).1=l.getD t 0*(uB ((m*t:Nat):Int) (l.length:Int)).1:=fun _=>rfl
 have e2:∀ t,(spT l m t).2.1=l.getD t 0*(uB ((m*t:Nat):Int) (l.length:Int)).2.1:=fun _=>rfl
 have e3:∀ t,(spT l m t).2.2=((l.getD t 0).natAbs:Int)*(uB ((m*t:Nat):Int) (l.length:Int)).2.2:=fun _=>rfl
 unfold cum cX cY cR
 simp only [e1,e2,e3]
section
variable {l:List Int}{q:Nat}(hm:Sm l q)
include hm
theorem Sm.prop_ok {τ:Nat->B3}{A B C:Int}(hA:0<=A)(hA2:A<=1048578)(hB:0<=B)(hB2:B<=2)(hC:0<=C)(hC2:C<=1203)
  (hb:∀ t,t < l.length->(0<=(τ t).2.2/\(τ t).2.2<=B*((l.getD t 0).natAbs:Int)+C)/\(-(A*((l.getD t 0).natAbs:Int)+C)<=(τ t).1/\(τ t).1<=A*((l.getD t 0).natAbs:Int)+C)/\-(A*((l.getD t 0).natAbs:Int)+C)<=(τ t).2.1/\(τ t).2.1<=A*((l.getD t 0).natAbs:Int)+C) :
  (∀ t,t < l.length->okS (τ t)=true)/\(∀ k,k<=l.length->okS (cum τ k)=true)/\(cum τ l.length).2.2<=B*szS l+16*C:=by
 have hs0:=hm.s0;have hs30:=hm.s30;have hn:=hm.n16
 have hAS:A*szS l<=1048578*30:=by
  have e1:=Int.mul_le_mul_of_nonneg_right hA2 hs0
  omega
 have hBS:B*szS l<=2*30:=by
  have e1:=Int.mul_le_mul_of_nonneg_right hB2 hs0
  omega
 have hone:∀ t,t < l.length->A*((l.getD t 0).natAbs:Int)<=A*szS l/\B*((l.getD t 0).natAbs:Int)<=B*szS l:=fun t ht=>
  ⟨Int.mul_le_mul_of_nonneg_left (hm.one ht) hA,Int.mul_le_mul_of_nonneg_left (hm.one ht) hB⟩
 have hpart:∀ (D:Int),0<=D->∀ k,k<=l.length->sumI (fun t=>D*((l.getD t 0).natAbs:Int)+C) k<=D*szS l+16*C:=fun D hD k hk=>by
  rw [sumI_add,sumI_mul,sumI_const]
  have e1:=part_le (f:=fun t=>((l.getD t 0).natAbs:Int)) (n:=l.length) (fun i _=>by omega) k hk
  have e2:=Int.mul_le_mul_of_nonneg_left e1 hD
  have e3:=Int.mul_le_mul_of_nonneg_right (show (k:Int)<=16 by omega) hC
  show D*sumI (fun t=>((l.getD t 0).natAbs:Int)) k+_<=D*sumI (fun t=>((l.getD t 0).natAbs:Int)) l.length+_
  omega
 have hneg:∀ {f g:Nat->Int} {k:Nat},(∀ i,i < k->-(g i)<=f i)->-(sumI g k)<=sumI f k:=fun {f g k} h=>by
  have:=sumI_le (f:=fun i=>-1*g i) (g:=f) (n:=k) fun i hi=>by have:=h i hi;omega
  rw [sumI_mul] at this
  omega
 have hr:∀ k,k<=l.length->0<=(cum τ k).2.2/\(cum τ k).2.2<=B*szS l+16*C:=fun k hk=>
  ⟨sumI_nn (f:=fun t=>(τ t).2.2) fun i hi=>(hb i (by omega)).1.1,Int.le_trans (sumI_le (f:=fun t=>(τ t).2.2) fun i hi=>(hb i (by omega)).1.2) (hpart B hB k hk)⟩
 refine⟨fun t ht=>?_,fun k hk=>?_,(hr _ (Nat.le_refl _)).2⟩
 ·have h:=hb t ht
  have h1:=hone t ht
  exact okS_iff.2 ⟨by omega,by omega,by omega⟩
 ·have x1:=Int.le_trans (sumI_le (f:=fun t=>(τ t).1) (n:=k) fun i hi=>(hb i (by omega)).2.1.2) (hpart A hA k hk)
  have x2:=hneg (f:=fun t=>(τ t).1) (k:=k) fun i hi=>(hb i (by omega)).2.1.1
  have y1:=Int.le_trans (sumI_le (f:=fun t=>(τ t).2.1) (n:=k) fun i hi=>(hb i (by omega)).2.2.2) (hpart A hA k hk)
  have y2:=hneg (f:=fun t=>(τ t).2.1) (k:=k) fun i hi=>(hb i (by omega)).2.2.1
  have z:=hpart A hA k hk
  have zr:=hr k hk
  refine okS_iff.2 ⟨?_,?_,?_⟩
  ·show -67108864<=sumI (fun t=>(τ t).1) k/\sumI (fun t=>(τ t).1) k<=67108864
   omega
  ·show -67108864<=sumI (fun t=>(τ t).2.1) k/\sumI (fun t=>(τ t).2.1) k<=67108864
   omega
  ·omega
theorem Sm.sp_t (m t:Nat):(0<=(spT l m t).2.2/\(spT l m t).2.2<=2*((l.getD t 0).natAbs:Int)+0)/\(-(1048576*((l.getD t 0).natAbs:Int)+0)<=(spT l m t).1/\(spT l m t).1<=1048576*((l.getD t 0).natAbs:Int)+0)/\-(1048576*((l.getD t 0).natAbs:Int)+0)<=(spT l m t).2.1/\(spT l m t).2.1<=1048576*((l.getD t 0).natAbs:Int)+0:=by
 have hb:=mb_unit hm ((m*t:Nat):Int)
 have hr:=hm.r ((m*t:Nat):Int)
 have e:spT l m t=(l.getD t 0*(uB ((m*t:Nat):Int) (l.length:Int)).1,l.getD t 0*(uB ((m*t:Nat):Int) (l.length:Int)).2.1,((l.getD t 0).natAbs:Int)*(uB ((m*t:Nat):Int) (l.length:Int)).2.2):=rfl
 rw [e]
 simp only [Int.add_zero]
 generalize uB ((m*t:Nat):Int) (l.length:Int)=u at hb hr ⊢
 generalize l.getD t 0=x
 have m1:=mul_bd (a:=x) (b:=u.1) (A:=(x.natAbs:Int)) (B:=1048576) (by omega) (by omega) hb.1.1 hb.1.2
 have m2:=mul_bd (a:=x) (b:=u.2.1) (A:=(x.natAbs:Int)) (B:=1048576) (by omega) (by omega) hb.2.1 hb.2.2
 have m3:=Int.mul_nonneg (show 0<=(x.natAbs:Int) by omega) hr.1
 have m4:=Int.mul_le_mul_of_nonneg_left hr.2 (show 0<=(x.natAbs:Int) by omega)
 refine⟨⟨m3,by omega⟩,⟨by omega,by omega⟩,by omega,by omega⟩
theorem Sm.sp_ok (m:Nat):(∀ t,t < l.length->okS (spT l m t)=true)/\(∀ k,k<=l.length->okS (cum (spT l m) k)=true)/\(cum (spT l m) l.length).2.2<=2*szS l:=by
 have h:=hm.prop_ok (τ:=spT l m) (A:=1048576) (B:=2) (C:=0) (by decide) (by decide) (by decide) (by decide) (by decide) (by decide) (fun t _=>hm.sp_t m t)
 exact⟨h.1,h.2.1,Int.le_trans h.2.2 (by omega)⟩
theorem Sm.sp_val:allB (fun m t=>some (spT l m t)) l.length l.length 0 []=some (spL l):=
 allB_val (fun m t _ ht=>⟨rfl,(hm.sp_ok m).1 t ht⟩) fun m k _ hk=>(hm.sp_ok m).2.1 k hk
theorem Sm.sp_covs:covs l fun m=>cum (spT l m) l.length:=fun m _=>by
 refine⟨(hm.sp_ok m).2.1 _ (Nat.le_refl _),?_⟩
 have e:=spL_at (l:=l) m
 show nle ((cum (spT l m) l.length).1 - cX l m) ((cum (spT l m) l.length).2.1 - cY l m) ((cum (spT l m) l.length).2.2 - cR l m)
 rw [e]
 show nle (cX l m - cX l m) (cY l m - cY l m) (cR l m - cR l m)
 rw [Int.sub_self,Int.sub_self,Int.sub_self]
 exact nle_zero (Int.le_refl _)
def kB (l:List Int)(t:Nat):B3:=shr (l.length:Int) (kS l (fun m=>cum (spT l m) l.length) t)
theorem Sm.kB_val:kerL (spL l)=some (mkL l.length (kB l))/\∀ t,t < l.length->okS (kB l t)=true/\hasN (kB l t) (l.getD t 0)/\(kB l t).2.2<=600:=by
 have hs30:=hm.s30
 have h:=hm.kern (a:=fun m=>cum (spT l m) l.length) (s:=spL l) mkL_len (fun m h=>mkL_get h) hm.sp_covs (ρ:=60) (by decide) (by decide) (fun m _=>by have:=(hm.sp_ok m).2.2;omega)
 refine⟨h.1,fun t ht=>⟨shr_ok (by have:=hm.n2;omega) (h.2 t ht).1,hm.kcov hm.sp_covs ht,?_⟩⟩
 have h1:=hm.shr_r (h.2 t ht).1 (c:=556) (by have:=(h.2 t ht).2;omega)
 unfold kB
 omega
def kC (l:List Int)(t:Nat):B3:=gP (mkL l.length (kB l)) (l.length / 2) l.length t
theorem Sm.mis_ok {t r:Nat}(ht:t < l.length)(hr:r < l.length)(hne:t ≠ r)(h0:l.getD r 0=0):okS (mis (kB l t) (kB l r))=true/\hasN (mis (kB l t) (kB l r)) (l.getD t 0)/\(mis (kB l t) (kB l r)).2.2<=1200:=by
 obtain⟨a1,a2,a3⟩:=hm.kB_val.2 t ht
 obtain⟨b1,b2,b3⟩:=hm.kB_val.2 r hr
 have hs30:=hm.s30
 have ho:=hm.one ht
 rw [h0] at b2
 have h1:=nle_sub a2 b2
 have h2:hasN (mis (kB l t) (kB l r)) (l.getD t 0):=nle_eq h1 (by unfold mis;simp only;omega) rfl
 have h3:(mis (kB l t) (kB l r)).2.2<=1200:=by unfold mis;simp only;omega
 have ex:=nle_x h2
 have ey:=nle_y h2
 have e0:=h2.1
 exact⟨okS_iff.2 ⟨by omega,by omega,by omega⟩,h2,h3⟩
theorem Sm.kC_ok (hz0:∀ t,l.length / 2 < t->t < l.length->l.getD t 0=0){t:Nat}(ht:t < l.length):okS (kC l t)=true/\hasN (kC l t) (l.getD t 0)/\(kC l t).2.2<=1200:=by
 unfold kC gP
 rw [mkL_len]
 split
 ·rename_i h
  rw [hz0 t h.1 h.2]
  exact⟨by decide,⟨by decide,by decide⟩,by decide⟩
 ·split
  ·rename_i h1 h2
   rw [mkL_get ht,mkL_get (show l.length - t < l.length by omega)]
   exact hm.mis_ok ht (by omega) (by omega) (hz0 _ (by omega) (by omega))
  ·rw [mkL_get ht]
   obtain⟨a1,a2,a3⟩:=hm.kB_val.2 t ht
   exact⟨a1,a2,by omega⟩
def cS (l:List Int)(m:Nat):B3:=cum (fun t=>tmB (kC l t) (uB (1*((m*t:Nat):Int)) (l.length:Int))) l.length
theorem Sm.cS_ok (hz0:∀ t,l.length / 2 < t->t < l.length->l.getD t 0=0)(m:Nat):(∀ t,t < l.length->okS (tmB (kC l t) (uB (1*((m*t:Nat):Int)) (l.length:Int)))=true) /\
  (∀ k,k<=l.length->okS (cum (fun t=>tmB (kC l t) (uB (1*((m*t:Nat):Int)) (l.length:Int))) k)=true)/\(cS l m).2.2<=20000:=by
 have hs30:=hm.s30
 have h:=hm.prop_ok (τ:=fun t=>tmB (kC l t) (uB (1*((m*t:Nat):Int)) (l.length:Int))) (A:=1048578) (B:=2) (C:=1203) (by decide) (by decide) (by decide) (by decide) (by decide) (by decide) (fun t ht=>by
  obtain⟨a1,a2,a3⟩:=hm.kC_ok hz0 ht
  have hb:=hm.term_bd a1 a2 a3 (hm.one ht) (1*((m*t:Nat):Int))
  refine⟨⟨hb.1.1,by omega⟩,⟨by omega,by omega⟩,by omega,by omega⟩)
 exact⟨h.1,h.2.1,by have:=h.2.2;unfold cS;omega⟩
theorem Sm.cS_covs (hz0:∀ t,l.length / 2 < t->t < l.length->l.getD t 0=0):covs l (cS l):=fun m _=>by
 refine⟨(hm.cS_ok hz0 m).2.1 _ (Nat.le_refl _),?_⟩
 have h:=nle_sum (n:=l.length) fun t (ht:t < l.length)=>hm.term (hm.kC_ok hz0 ht).1 (hm.kC_ok hz0 ht).2.1 (1*((m*t:Nat):Int))
 rw [sumI_mul,sumI_mul,sumI_mul,sumI_sub,sumI_sub,sumI_sub] at h
 have e1:sumI (fun t=>l.getD t 0*(uB (1*((m*t:Nat):Int)) (l.length:Int)).1) l.length=cX l m:=by
  unfold cX;exact sumI_congr fun t _=>by rw [Int.one_mul]
 have e2:sumI (fun t=>l.getD t 0*(uB (1*((m*t:Nat):Int)) (l.length:Int)).2.1) l.length=cY l m:=by
  unfold cY;exact sumI_congr fun t _=>by rw [Int.one_mul]
 have e3:sumI (fun t=>((l.getD t 0).natAbs:Int)*(uB (1*((m*t:Nat):Int)) (l.length:Int)).2.2) l.length=cR l m:=by
  unfold cR;exact sumI_congr fun t _=>by rw [Int.one_mul]
 rw [e1,e2,e3] at h
 exact nle_div (k:=1048576) (by decide) (by have:=h.1;change 0<=1048576*((cS l m).2.2 - cR l m) at this;omega) h
theorem Sm.cau_val (hz0:∀ t,l.length / 2 < t->t < l.length->l.getD t 0=0):cauZ (mkL l.length (kB l))=some (mkL l.length (cS l)):=by
 have hd:okDn (mkL l.length (kB l)) (l.length / 2 - 1)=true:=(okDn_iff _ _).2 fun i h1 h2=>by
  unfold okM
  rw [mkL_len,mkL_get (show i < l.length by omega),mkL_get (show l.length - i < l.length by omega)]
  exact (hm.mis_ok (by omega) (by omega) (by omega) (hz0 _ (by omega) (by omega))).1
 unfold cauZ
 rw [mkL_len,if_pos hd]
 refine allB_val (τ:=fun m t=>tmB (kC l t) (uB (1*((m*t:Nat):Int)) (l.length:Int))) (fun m t _ ht=>⟨?_,(hm.cS_ok hz0 m).1 t ht⟩) (fun m k _ hk=>(hm.cS_ok hz0 m).2.1 k hk)
 unfold tS tms
 rw [mkL_len,mkL_get ht]
 change (if okS (tmB (kC l t) _)=true then some (tmB (kC l t) _) else none)=_
 rw [if_pos ((hm.cS_ok hz0 m).1 t ht)]
theorem Sm.again (hz0:∀ t,l.length / 2 < t->t < l.length->l.getD t 0=0):∃ K:Nat->B3,kerL (mkL l.length (cS l))=some (mkL l.length K)/\∀ t,t < l.length->okS (K t)=true/\hasN (K t) (l.getD t 0):=by
 have h:=hm.kern (a:=cS l) (s:=mkL l.length (cS l)) mkL_len (fun m h=>mkL_get h) (hm.cS_covs hz0) (ρ:=20000) (by decide) (by decide) (fun m _=>(hm.cS_ok hz0 m).2.2)
 exact⟨_,h.1,fun t ht=>⟨shr_ok (by have:=hm.n2;omega) (h.2 t ht).1,hm.kcov (hm.cS_covs hz0) ht⟩⟩
end
end Go.AM.K
