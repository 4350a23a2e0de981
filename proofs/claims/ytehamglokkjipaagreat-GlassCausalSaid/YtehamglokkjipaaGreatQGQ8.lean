/- Chapter 2: cause comes first. -/
import Derived.Test.YtehamglokkjipaaGreatQM7
namespace Go.AM.K
open Ieee
set_option linter.unusedVariables false
set_option linter.unusedSimpArgs false
set_option linter.unusedSectionVars false
variable {α:Type}
theorem f12_eq {l:List Int}(h:l.length<=1000){k:Rows->Option α}:f12_0 α (l.map rI1) k=k (l.map rI1):=by
 simp only [f12_0,f12_0g,List.nil_append]
 exact gK_ap0 (enc:=rI1) (n:=1) (b:=8) (fun _=>rfl) (by omega) (by omega)
theorem spF0 {s:List B3}(h1:lenB s.length=true)(h2:∀ b ∈ s,okS b=true):spF s=0:=by
 have h:s.all okS=true:=List.all_eq_true.2 h2
 unfold spF
 rw [h1,h];rfl
theorem mkL_ok {n:Nat}{f:Nat->B3}(h:∀ t,t < n->okS (f t)=true):∀ b ∈ mkL n f,okS b=true:=fun b hb=>by
 obtain⟨i,hi,rfl⟩:=mkL_mem hb
 exact h i hi
theorem Sm.of {l:List Int}(h:lenB l.length=true)(h16:l.length<=16)(hs:(l.length:Int)*szS l<=60):∃ q,Sm l q:=by
 have hc:l.length=2\/l.length=4\/l.length=8\/l.length=16:=by
  unfold lenB at h
  simp only [Bool.or_eq_true,beq_iff_eq] at h
  omega
 rcases hc with e | e | e | e
 ·exact⟨8,⟨⟨by omega,by omega,by rw [e];exact e2⟩,by omega,h16,hs⟩⟩
 ·exact⟨4,⟨⟨by omega,by omega,by rw [e];exact e4⟩,by omega,h16,hs⟩⟩
 ·exact⟨2,⟨⟨by omega,by omega,by rw [e];exact e8⟩,by omega,h16,hs⟩⟩
 ·exact⟨1,⟨⟨by omega,by omega,by rw [e];exact e16⟩,by omega,h16,hs⟩⟩
section
variable {l:List Int}{q:Nat}(hm:Sm l q)(hLB:lenB l.length=true)
include hm hLB
theorem sp_all:∀ b ∈ spL l,okS b=true:=mkL_ok fun t _=>(hm.sp_ok t).2.1 _ (Nat.le_refl _)
theorem hz_K (t:Nat)(ht:t < l.length):hz (kB l t)=!(l.getD t 0 != 0):=by
 obtain⟨h1,h2,h3⟩:=hm.kB_val.2 t ht
 by_cases e:l.getD t 0=0
 ·rw [e] at h2 ⊢
  rw [hasN_hz h2];rfl
 ·rw [hasN_no h2 e (by omega),show (l.getD t 0 != 0)=true from bne_iff_ne.2 e];rfl
theorem mts_ok (hz0:∀ t,l.length / 2 < t->t < l.length->l.getD t 0=0)(m:Nat)(h:m < l.length):mts (cS l m) (cum (spT l m) l.length)=true:=by
 have h1:=(hm.cS_covs hz0 m h).2
 have h0:=hm.cR_nn m
 rw [spL_at]
 unfold mts
 have h2:=nle_mono h1 (q:=(cS l m).2.2+cR l m) (by omega)
 exact decide_eq_true h2.2
theorem cau_no {K:Nat->B3}(h:∀ t,t < l.length->l.length / 2 < t->hz (K t)=true):fstA (mkL l.length K)=-1:=by
 have hlen:(mkL l.length K).length=l.length:=mkL_len
 have hn2:=hm.n2
 unfold fstA
 rcases fst_char (r:=mkL l.length K) (hn (mkL l.length K)) (hf (mkL l.length K)) with ⟨p1,_⟩ | ⟨t0,p1,p2,_,p4,_⟩
 ·exact p1
 ·exfalso
  unfold hf at p1 p2;unfold hn at p2
  rw [hlen] at p1 p2
  rw [mkL_get (by omega),h t0 (by omega) (by omega)] at p4
  cases p4
theorem cau_ne {r:List B3}(h:fstA r=-1):cau r ≠ 0:=by
 unfold cau
 rw [h,if_neg (show ¬ (0:Int)<=-1 by decide)]
 split <;> decide
end
theorem law8 {l:List Int}{k:Bool->Option α}:f8_0 α (l.map rI1) k=k true:=by
 have hfu:=fuel_ge
 simp only [f8_0,f8_0g,f9_0,List.length_map,cK_dec]
 by_cases h16:(16:Int) < (l.length:Int)
 ·rw [if_pos h16]
 rw [if_neg h16]
 have hl16:l.length<=16:=by omega
 rw [f13_eq (by omega)]
 by_cases hE:spE l=0
 rotate_left
 ·rw [show (spE l != 0)=true from bne_iff_ne.2 hE,cK_true]
 have hLB:lenB l.length=true:=by
  unfold spE at hE
  cases h:lenB l.length with
  | true=>rfl
  | false=>rw [h] at hE;simp at hE
 have hKN:knB l=true:=by
  unfold spE at hE
  rw [hLB] at hE
  cases h:knB l with
  | true=>rfl
  | false=>rw [h] at hE;simp at hE
 have hk:∀ i,i < l.length->-1000<=l.getD i 0/\l.getD i 0<=1000:=fun i hi=>knB_at hKN hi
 rw [hE,bne_self_eq_false,cK_false]
 simp only [L8_0_1]
 refine (R8_1_eq hl16 hk l.length 0 fuel (by omega) (by omega)).trans ?_
 have ha:=abs_bd hl16 hk (Nat.le_refl _)
 have hwS:w64 (absF l l.length*(l.length:Int))=(l.length:Int)*szS l:=by
  have e:absF l l.length=szS l:=rfl
  rw [e] at ha ⊢
  have h1:=Int.mul_le_mul_of_nonneg_right (show (l.length:Int)<=16 by omega) ha.1
  have h2:=Int.mul_nonneg (show 0<=(l.length:Int) by omega) ha.1
  rw [Int.mul_comm]
  exact w64_in (by omega) (by omega)
 rw [hwS]
 by_cases h60:(60:Int) < (l.length:Int)*szS l
 ·rw [if_pos h60]
 rw [if_neg h60]
 obtain⟨q,hm⟩:=Sm.of hLB hl16 (by omega)
 have hn2:=hm.n2
 have hspl:(spL l).length=l.length:=mkL_len
 have hsp:=sp_all hm hLB
 have hspw:∀ b ∈ spL l,wide b:=fun b hb=>okS_wide (hsp b hb)
 have hspF:spF (spL l)=0:=spF0 (by rw [hspl];exact hLB) hsp
 obtain⟨hker,hK⟩:=hm.kB_val
 have hKok:∀ b ∈ mkL l.length (kB l),okS b=true:=mkL_ok fun t ht=>(hK t ht).1
 have hfst:=fst_at hn2 fun t ht _=>hz_K hm hLB t ht
 have hnn:((l.length:Int) != (l.length:Int))=false:=bne_self_eq_false _
 have e11:∀ kk:Rows->Int->Option α,f11_0 α (l.map rI1) kk=kk (eB (spL l)) 0:=fun kk=>by
  rw [f11_eq (by omega),if_pos hE,hm.sp_val]
 have e32:∀ kk:Rows->Int->Option α,f32_0 α (eB (spL l)) kk=kk (eB (mkL l.length (kB l))) 0:=fun kk=>by
  rw [f32_eq (by omega) hspw,if_pos hspF,hker]
 have e34:∀ kk:Int->Int->Option α,f34_0 α (eB (spL l)) kk=kk (cau (mkL l.length (kB l))) 0:=fun kk=>by
  rw [f34_eq (by omega) hspw,if_pos hspF,hker]
 rw [f12_eq (by omega),e11,fl_B,e32,fl_B,e34,f35_eq (by omega) hspw,if_pos hspF,hker]
 simp only [hfst]
 rcases at_char (l:=l) l.length with ⟨q1,q2⟩ | ⟨t0,q1,q2,q3,q4⟩
 ·-- no number at a time below 0
  have hb0:=bef_zero q2
  have hz0:∀ t,l.length / 2 < t->t < l.length->l.getD t 0=0:=fun t h1 h2=>by
   have:=q2 t h2
   unfold late at this
   rw [decide_eq_true h1,Bool.true_and] at this
   simpa using this
  have hcv:=hm.cau_val hz0
  have hcok:∀ b ∈ mkL l.length (cS l),okS b=true:=mkL_ok fun t _=>(hm.cS_ok hz0 t).2.1 _ (Nat.le_refl _)
  have hclen:(mkL l.length (cS l)).length=l.length:=mkL_len
  obtain⟨K2,hK2a,hK2b⟩:=hm.again hz0
  have hcF:spF (mkL l.length (cS l))=0:=spF0 (by rw [hclen];exact hLB) hcok
  have hc1:cau (mkL l.length (kB l)) ≠ 0:=cau_ne hm hLB (by rw [hfst,q1])
  have hc2:cau (mkL l.length K2) ≠ 0:=cau_ne hm hLB (cau_no hm hLB fun t ht hh=>hasN_hz (by have:=(hK2b t ht).2;rw [hz0 t hh ht] at this;exact this))
  have e36:∀ kk:Rows->Int->Option α,f36_0 α (eB (spL l)) kk=kk (eB (mkL l.length (cS l))) 0:=fun kk=>by
   rw [f36_eq (by omega) hspw,if_pos hspF,hker]
   simp only [Option.bind,hcv]
  have e34c:∀ kk:Int->Int->Option α,f34_0 α (eB (mkL l.length (cS l))) kk=kk (cau (mkL l.length K2)) 0:=fun kk=>by
   rw [f34_eq (by omega) (fun b hb=>okS_wide (hcok b hb)),if_pos hcF,hK2a]
  rw [if_pos q1]
  simp only [J8_0_2,J8_0_2g,List.length_map,eB_len,hspl,mkL_len,hnn,bne_self_eq_false,cK_false,L8_0_3]
  refine (R8_3_eq hl16 hk (fun t ht=>⟨(hK t ht).1,(hK t ht).2.1⟩) l.length 0 fuel (by omega) (by omega)).trans ?_
  rw [hb0,if_neg (show ¬ (0:Int) < 0 by decide),e36,fl_B,show (cau (mkL l.length (kB l)) == 0)=false by simpa using hc1,cK_false]
  simp only [bne_self_eq_false,cK_false,eB_len,hspl,mkL_len,hnn,L8_0_4]
  refine (R8_4_eq hl16 hk (A:=fun m=>cum (spT l m) l.length) (C:=cS l) (fun t ht=>⟨(hm.sp_ok t).2.1 _ (Nat.le_refl _),(hm.cS_ok hz0 t).2.1 _ (Nat.le_refl _),mts_ok hm hLB hz0 t ht⟩) l.length 0 fuel (by omega) (by omega)).trans ?_
  rw [e34c,beq_self_eq_true,cK_true,show (cau (mkL l.length K2) != 0)=true from bne_iff_ne.2 hc2]
 ·-- a number at a time below 0
  have hb1:=bef_pos q1 q3
  have hA:¬ atF l l.length=-1:=by omega
  have hc1:cau (mkL l.length (kB l))=0:=by
   unfold cau
   rw [hfst,q2,if_pos (by omega)]
  rw [if_neg hA]
  simp only [J8_0_2,J8_0_2g,List.length_map,eB_len,hspl,mkL_len,hnn,bne_self_eq_false,cK_false,L8_0_3]
  refine (R8_3_eq hl16 hk (fun t ht=>⟨(hK t ht).1,(hK t ht).2.1⟩) l.length 0 fuel (by omega) (by omega)).trans ?_
  rw [if_pos hb1,hc1,beq_self_eq_true,cK_true,cK_true,beq_self_eq_true]
end Go.AM.K
