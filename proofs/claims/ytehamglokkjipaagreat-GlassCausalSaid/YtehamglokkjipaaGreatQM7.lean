/- Chapter 2: cause comes first: spectra of numbers without any at times below 0 are never told to be acausal. -/
import Derived.Test.YtehamglokkjipaaGreatQM6
namespace Go.AM.K
open Ieee
set_option linter.unusedVariables false
set_option linter.unusedSimpArgs false
set_option linter.unusedSectionVars false
variable {α:Type}
def mts (a b:B3):Bool:=decide ((a.1 - b.1)*(a.1 - b.1)+(a.2.1 - b.2.1)*(a.2.1 - b.2.1)<=(a.2.2+b.2.2)*(a.2.2+b.2.2))
theorem f46_eq {a b:B3}(ha:okS a=true)(hb:okS b=true){k:Bool->Int->Option α}:f46_0 α (nB a).1 (nB a).2.1 (nB a).2.2 (nB b).1 (nB b).2.1 (nB b).2.2 k=k (mts a b) 0:=by
 have g:=okS_iff.1 ha
 have h:=okS_iff.1 hb
 have e1:=mul_bd (a:=a.1 - b.1) (b:=a.1 - b.1) (A:=134217728) (B:=134217728) (by omega) (by omega) (by omega) (by omega)
 have e2:=mul_bd (a:=a.2.1 - b.2.1) (b:=a.2.1 - b.2.1) (A:=134217728) (B:=134217728) (by omega) (by omega) (by omega) (by omega)
 have e3:=mul_bd (a:=a.2.2+b.2.2) (b:=a.2.2+b.2.2) (A:=134217728) (B:=134217728) (by omega) (by omega) (by omega) (by omega)
 simp only [f46_0,f46_0g,f97_0,f97_0g,nB]
 rw [f94_num (by omega) (by omega) g.2.2,if_pos ⟨ptB_iff.2 g.1,ptB_iff.2 g.2.1⟩]
 simp only [bne_self_eq_false,cK_false]
 rw [f94_num (by omega) (by omega) h.2.2,if_pos ⟨ptB_iff.2 h.1,ptB_iff.2 h.2.1⟩]
 simp only [bne_self_eq_false,cK_false,f98_0,f98_0g,f96_0,f96_0g,f123_0,f123_0g,f131_0,f131_0g]
 rw [w64_in (n:=a.2.2+b.2.2) (by omega) (by omega),decide_eq_true (show 0<=a.2.2+b.2.2 by omega),cK_true,w64_in (n:=a.1 - b.1) (by omega) (by omega),w64_in (n:=a.2.1 - b.2.1) (by omega) (by omega),w64_in (n:=(a.1 - b.1)*(a.1 - b.1)) (by omega) (by omega),w64_in (n:=(a.2.1 - b.2.1)*(a.2.1 - b.2.1)) (by omega) (by omega),w64_in (n:=(a.2.2+b.2.2)*(a.2.2+b.2.2)) (by omega) (by omega),w64_in (by omega) (by omega)]
 rfl
def late (l:List Int)(t:Nat):Bool:=decide (l.length / 2 < t) && (l.getD t 0 != 0)
def befF (l:List Int)(k:Nat):Int:=sumI (fun t=>if late l t=true then 1 else 0) k
def atF (l:List Int):Nat->Int
 | 0=>-1
 | k+1=>if late l k=true/\atF l k < 0 then (k:Int) else atF l k
def absF (l:List Int)(k:Nat):Int:=sumI (fun t=>((l.getD t 0).natAbs:Int)) k
theorem at_char {l:List Int}:∀ k,(atF l k=-1/\∀ t,t < k->late l t=false)\/∃ t0,t0 < k/\atF l k=(t0:Int)/\late l t0=true/\∀ t,t < t0->late l t=false
 | 0=>.inl ⟨rfl,fun t h=>by omega⟩
 | k+1=>by
  simp only [atF]
  rcases at_char (l:=l) k with ⟨h1,h2⟩ | ⟨t0,h1,h2,h3,h4⟩
  ·cases hL:late l k with
   | true=>rw [if_pos ⟨rfl,by omega⟩];exact .inr ⟨k,by omega,rfl,hL,h2⟩
   | false=>
    rw [if_neg (by simp),h1]
    refine .inl ⟨rfl,fun t ht=>?_⟩
    by_cases e:t=k
    ·rw [e];exact hL
    ·exact h2 t (by omega)
  ·rw [if_neg (by omega)]
   exact .inr ⟨t0,by omega,h2,h3,h4⟩
theorem bef_zero {l:List Int}{k:Nat}(h:∀ t,t < k->late l t=false):befF l k=0:=by
 unfold befF
 rw [sumI_congr (g:=fun _=>0) fun i hi=>by rw [h i hi];rfl,sumI_zero]
theorem bef_pos {l:List Int}{k t0:Nat}(h1:t0 < k)(h2:late l t0=true):0 < befF l k:=by
 have:=sumI_le (f:=fun s=>if s=t0 then (1:Int) else 0) (g:=fun t=>if late l t=true then 1 else 0) (n:=k) fun i _=>by
  by_cases e:i=t0
  ·rw [if_pos e,e,if_pos h2];exact Int.le_refl _
  ·rw [if_neg e];split <;> decide
 rw [sumI_one,if_pos h1] at this
 unfold befF;omega
theorem fst_char {r:List B3}:∀ (m a:Nat),(fstN r m a=-1/\∀ t,a<=t->t < a+m->hz (r.getD t z3)=true)\/∃ t0,a<=t0/\t0 < a+m/\fstN r m a=(t0:Int)/\hz (r.getD t0 z3)=false/\∀ t,a<=t->t < t0->hz (r.getD t z3)=true
 | 0,a=>.inl ⟨rfl,fun t h1 h2=>by omega⟩
 | m+1,a=>by
  cases hh:hz (r.getD a z3) with
  | false=>
   have e:fstN r (m+1) a=(a:Int):=by simp only [fstN,hh,Bool.false_eq_true,if_false]
   exact .inr ⟨a,Nat.le_refl _,by omega,e,hh,fun t h1 h2=>by omega⟩
  | true=>
   have e:fstN r (m+1) a=fstN r m (a+1):=by simp only [fstN,hh,if_true]
   rw [e]
   rcases fst_char (r:=r) m (a+1) with ⟨h1,h2⟩ | ⟨t0,h1,h2,h3,h4,h5⟩
   ·refine .inl ⟨h1,fun t q1 q2=>?_⟩
    by_cases e:t=a
    ·rw [e];exact hh
    ·exact h2 t (by omega) (by omega)
   ·refine .inr ⟨t0,by omega,by omega,h3,h4,fun t q1 q2=>?_⟩
    by_cases e:t=a
    ·rw [e];exact hh
    ·exact h5 t (by omega) (by omega)
theorem fst_at {l:List Int}{K:Nat->B3}(h2:2<=l.length)(h:∀ t,t < l.length->l.length / 2 < t->hz (K t)=!(l.getD t 0 != 0)):fstA (mkL l.length K)=atF l l.length:=by
 have hlen:(mkL l.length K).length=l.length:=mkL_len
 have hh:∀ t,hf (mkL l.length K)<=t->t < hf (mkL l.length K)+hn (mkL l.length K)->hz ((mkL l.length K).getD t z3)=!late l t:=fun t h1 h3=>by
  unfold hf at h1 h3;unfold hn at h3
  rw [hlen] at h1 h3
  rw [mkL_get (by omega),h t (by omega) (by omega)]
  unfold late
  rw [decide_eq_true (by omega),Bool.true_and]
 have hb:hf (mkL l.length K)+hn (mkL l.length K)=l.length/\hf (mkL l.length K)=l.length / 2+1:=by unfold hf hn;rw [hlen];omega
 have hl:∀ t,t < l.length->late l t=true->hf (mkL l.length K)<=t:=fun t _ hL=>by
  unfold late at hL
  rw [Bool.and_eq_true,decide_eq_true_iff] at hL
  omega
 unfold fstA
 rcases fst_char (r:=mkL l.length K) (hn (mkL l.length K)) (hf (mkL l.length K)) with ⟨p1,p2⟩ | ⟨t0,p1,p2,p3,p4,p5⟩
 ·rcases at_char (l:=l) l.length with ⟨q1,_⟩ | ⟨t1,q1,q2,q3,_⟩
  ·rw [p1,q1]
  ·exfalso
   have:=p2 t1 (hl t1 q1 q3) (by omega)
   rw [hh t1 (hl t1 q1 q3) (by omega),q3] at this
   cases this
 ·have e0:late l t0=true:=by
   rw [hh t0 p1 p2] at p4
   cases hL:late l t0 with
   | true=>rfl
   | false=>rw [hL] at p4;cases p4
  rcases at_char (l:=l) l.length with ⟨_,q2⟩ | ⟨t1,q1,q2,q3,q4⟩
  ·have:=q2 t0 (by omega)
   rw [e0] at this;cases this
  ·rw [p3,q2]
   rcases Nat.lt_trichotomy t0 t1 with w | w | w
   ·have:=q4 t0 w
    rw [e0] at this;cases this
   ·rw [w]
   ·exfalso
    have:=p5 t1 (hl t1 q1 q3) w
    rw [hh t1 (hl t1 q1 q3) (by omega),q3] at this
    cases this
section
variable {l:List Int}(h16:l.length<=16)(hk:∀ i,i < l.length->-1000<=l.getD i 0/\l.getD i 0<=1000)
include h16 hk
theorem abs_bd {k:Nat}(h:k<=l.length):0<=absF l k/\absF l k<=(k:Int)*1000:=by
 have e1:=sumI_le (f:=fun t=>((l.getD t 0).natAbs:Int)) (g:=fun _=>1000) (n:=k) fun i hi=>by have:=hk i (by omega);omega
 rw [sumI_const] at e1
 exact⟨sumI_nn fun _ _=>by omega,e1⟩
theorem bef_bd {k:Nat}:0<=befF l k/\befF l k<=(k:Int)*1:=by
 have e1:=sumI_le (f:=fun t=>if late l t=true then (1:Int) else 0) (g:=fun _=>1) (n:=k) fun i hi=>by split <;> decide
 rw [sumI_const] at e1
 exact⟨sumI_nn fun _ _=>by split <;> decide,e1⟩
theorem R8_1_eq {k1:Int->Int->Int->Int->Bool->Option α}:∀ (m t n:Nat),t+m=l.length->m < n->R8_0_1 α (l.map rI1) k1 n (absF l t) (befF l t) (atF l t) (t:Int)=k1 (absF l l.length) (befF l l.length) (atF l l.length) (l.length:Int) false
 | 0,t,n,q1,q2=>by
  obtain⟨n,rfl⟩:∃ k,n=k+1:=⟨n - 1,by omega⟩
  obtain rfl:t=l.length:=by omega
  simp only [R8_0_1,S8_0_1,S8_0_1g,List.length_map]
  rw [decide_eq_false (by omega),cK_false]
 | m+1,t,n,q1,q2=>by
  obtain⟨n,rfl⟩:∃ k,n=k+1:=⟨n - 1,by omega⟩
  have ht:t < l.length:=by omega
  have hb:=hk t ht
  have a1:=abs_bd h16 hk (k:=t) (by omega)
  have b1:=bef_bd h16 hk (k:=t)
  have hj:∀ kk:Bool->Option α,J8_0_0 α (l.map rI1) (t:Int) kk=kk (late l t):=fun kk=>by
   simp only [J8_0_0,J8_0_0g,List.length_map]
   have e:w64 (Int.tdiv ((l.length:Nat):Int) 2)=((l.length / 2:Nat):Int):=by
    have e0:Int.tdiv ((l.length:Nat):Int) 2=((l.length / 2:Nat):Int):=rfl
    rw [e0];exact w64_in (by omega) (by omega)
   rw [e]
   unfold late
   by_cases hh:l.length / 2 < t
   ·rw [decide_eq_true (by omega),cK_true,rowK_I ht,<- gD (d:=0) ht,decide_eq_true hh,Bool.true_and]
   ·rw [decide_eq_false (by omega),cK_false,decide_eq_false hh,Bool.false_and]
  have eA:w64 (absF l t+((l.getD t 0).natAbs:Int))=absF l (t+1):=by
   rw [w64_in (by omega) (by omega)];rfl
  simp only [R8_0_1,S8_0_1,S8_0_1g,List.length_map]
  rw [decide_eq_true (by omega),cK_true,rowK_I ht,<- gD (d:=0) ht,f43_eq (by omega) (by omega),hj,eA,w64_nat ht (by omega)]
  cases hL:late l t with
  | false=>
   rw [cK_false]
   have e1:befF l (t+1)=befF l t:=by unfold befF;simp only [sumI];rw [hL];simp
   have e2:atF l (t+1)=atF l t:=by simp only [atF];rw [if_neg (by rw [hL];simp)]
   have:=R8_1_eq (k1:=k1) m (t+1) n (by omega) (by omega)
   rw [e1,e2] at this
   exact this
  | true=>
   rw [cK_true]
   have e1:w64 (befF l t+1)=befF l (t+1):=by
    have:befF l (t+1)=befF l t+1:=by unfold befF;simp only [sumI];rw [hL];simp
    rw [this];exact w64_in (by omega) (by omega)
   rw [e1]
   by_cases hA:atF l t < 0
   ·have e2:atF l (t+1)=(t:Int):=by simp only [atF];rw [if_pos ⟨hL,hA⟩]
    have:=R8_1_eq (k1:=k1) m (t+1) n (by omega) (by omega)
    rw [e2] at this
    rw [decide_eq_true hA,cK_true]
    exact this
   ·have e2:atF l (t+1)=atF l t:=by simp only [atF];rw [if_neg (fun q=>hA q.2)]
    have:=R8_1_eq (k1:=k1) m (t+1) n (by omega) (by omega)
    rw [e2] at this
    rw [decide_eq_false hA,cK_false]
    exact this
theorem R8_3_eq {K:Nat->B3}(hK:∀ t,t < l.length->okS (K t)=true/\hasN (K t) (l.getD t 0)){k1:Option α}{k2:Int->Bool->Option α}:∀ (m t n:Nat),t+m=l.length->m < n ->
  R8_0_3 α (l.map rI1) (eB (mkL l.length K)) k1 k2 n (t:Int)=k2 (l.length:Int) false
 | 0,t,n,q1,q2=>by
  obtain⟨n,rfl⟩:∃ k,n=k+1:=⟨n - 1,by omega⟩
  obtain rfl:t=l.length:=by omega
  simp only [R8_0_3,S8_0_3,S8_0_3g,eB_len,mkL_len]
  rw [decide_eq_false (by omega),cK_false]
 | m+1,t,n,q1,q2=>by
  obtain⟨n,rfl⟩:∃ k,n=k+1:=⟨n - 1,by omega⟩
  have ht:t < l.length:=by omega
  have hb:=hk t ht
  have hgl:t < (mkL l.length K).length:=by rw [mkL_len];exact ht
  obtain⟨p1,p2⟩:=hK t ht
  have hin:∃ kk,kk=(l.getD t 0*1048576):=⟨_,rfl⟩
  have e45:∀ kk:Nat->Nat->Option α,f45_0 α (l.getD t 0*1048576) 0 kk=kk (FloatKind.nearest .f64 (l.getD t 0*1048576)) (FloatKind.nearest .f64 0):=fun _=>rfl
  simp only [R8_0_3,S8_0_3,S8_0_3g,eB_len,mkL_len]
  rw [decide_eq_true (by omega),cK_true,ixK_Bq hgl,Int.toNat_natCast,ldK_Bq hgl,mkL_get ht,rowK_I ht,<- gD (d:=0) ht,w64_in (n:=l.getD t 0*1048576) (by omega) (by omega),e45]
  by_cases hs:(l.getD t 0*1048576).natAbs<=134217728
  ·rw [f44_eq p1 hs (by decide),hasN_ctn p2,bne_self_eq_false,cK_false,Bool.not_true,cK_false,w64_nat ht (by omega)]
   exact R8_3_eq hK m (t+1) n (by omega) (by omega)
  ·exfalso
   have g:=okS_iff.1 p1
   have:=nle_x p2
   omega
theorem R8_4_eq {A C:Nat->B3}(hA:∀ t,t < l.length->okS (A t)=true/\okS (C t)=true/\mts (C t) (A t)=true){k1:Option α}{k2:Int->Bool->Option α}:∀ (m t n:Nat),t+m=l.length->m < n ->
  R8_0_4 α (eB (mkL l.length A)) (eB (mkL l.length C)) k1 k2 n (t:Int)=k2 (l.length:Int) false
 | 0,t,n,q1,q2=>by
  obtain⟨n,rfl⟩:∃ k,n=k+1:=⟨n - 1,by omega⟩
  obtain rfl:t=l.length:=by omega
  simp only [R8_0_4,S8_0_4,S8_0_4g,eB_len,mkL_len]
  rw [decide_eq_false (by omega),cK_false]
 | m+1,t,n,q1,q2=>by
  obtain⟨n,rfl⟩:∃ k,n=k+1:=⟨n - 1,by omega⟩
  have ht:t < l.length:=by omega
  have hgl:t < (mkL l.length A).length:=by rw [mkL_len];exact ht
  have hgl2:t < (mkL l.length C).length:=by rw [mkL_len];exact ht
  obtain⟨p1,p2,p3⟩:=hA t ht
  simp only [R8_0_4,S8_0_4,S8_0_4g,eB_len,mkL_len]
  rw [decide_eq_true (by omega),cK_true,ixK_Bq hgl2,Int.toNat_natCast,ldK_Bq hgl2,ixK_Bq hgl,ldK_Bq hgl,mkL_get ht,mkL_get ht,f46_eq p2 p1,p3,bne_self_eq_false,cK_false,Bool.not_true,cK_false,w64_nat ht (by omega)]
  exact R8_4_eq hA m (t+1) n (by omega) (by omega)
end
end Go.AM.K
