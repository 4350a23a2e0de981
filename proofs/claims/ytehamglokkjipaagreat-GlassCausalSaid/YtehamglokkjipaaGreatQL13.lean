/- Chapter 2: the causal spectrum, in the program and in the document. -/
import Derived.Test.YtehamglokkjipaaGreatQL12
namespace Go.AM.K
open Ieee
set_option linter.unusedVariables false
set_option linter.unusedSimpArgs false
set_option linter.unusedSectionVars false
variable {α:Type}
def mkL (n:Nat)(f:Nat->B3):List B3:=(List.range n).map f
theorem mkL_len {n:Nat}{f:Nat->B3}:(mkL n f).length=n:=by simp [mkL]
theorem mkL_get {n i:Nat}{f:Nat->B3}(h:i < n):(mkL n f).getD i z3=f i:=by
 rw [gD (by rw [mkL_len];exact h)];simp [mkL]
theorem mkL_ext {n:Nat}{f g:Nat->B3}(h:∀ i,i < n->f i=g i):mkL n f=mkL n g:=by
 unfold mkL
 exact List.map_congr_left fun i hi=>h i (List.mem_range.1 hi)
theorem mkL_set {n i:Nat}{f:Nat->B3}{v:B3}:(mkL n f).set i v=mkL n fun j=>if j=i then v else f j:=by
 apply List.ext_getElem?
 intro j
 rw [List.getElem?_set]
 simp only [mkL_len]
 by_cases h:i=j
 ·subst h
  simp only [if_true]
  by_cases hi:i < n
  ·simp [mkL,hi]
  ·simp [mkL,hi]
 ·rw [if_neg h]
  by_cases hj:j < n
  ·simp [mkL,hj,show ¬ j=i from fun q=>h q.symm]
  ·simp [mkL,hj]
theorem mkL_self {s:List B3}:s=mkL s.length fun i=>s.getD i z3:=by
 apply List.ext_getElem?
 intro j
 by_cases hj:j < s.length
 ·simp [mkL,hj]
 ·simp [mkL,hj]
theorem mkL_mem {n:Nat}{f:Nat->B3}{b:B3}(h:b ∈ mkL n f):∃ i,i < n/\b=f i:=by
 obtain⟨i,h1,h2⟩:=List.mem_map.1 h
 exact⟨i,List.mem_range.1 h1,h2.symm⟩
section
variable (s:List B3)(h:Nat)
def gP (T i:Nat):B3:=if h < i/\i < T then z3 else if s.length - T < i/\i < h then mis (s.getD i z3) (s.getD (s.length - i) z3) else s.getD i z3
def okM (i:Nat):Bool:=okS (mis (s.getD i z3) (s.getD (s.length - i) z3))
def okDn:Nat->Bool
 | 0=>true
 | j+1=>okM s (j+1) && okDn j
theorem okDn_iff:∀ j,okDn s j=true ↔ ∀ i,1<=i->i<=j->okM s i=true
 | 0=>⟨fun _ i h1 h2=>by omega,fun _=>rfl⟩
 | j+1=>by
  simp only [okDn,Bool.and_eq_true,okDn_iff j]
  refine⟨fun q i h1 h2=>?_,fun q=>⟨q _ (by omega) (Nat.le_refl _),fun i h1 h2=>q i h1 (by omega)⟩⟩
  by_cases e:i=j+1
  ·rw [e];exact q.1
  ·exact q.2 i h1 (by omega)
end
section
variable {s:List B3}{h:Nat}(hn2:s.length=2*h)(h1:1<=h)(hl:s.length<=34)(hs:∀ b ∈ s,okS b=true)
include hn2 h1 hl hs
theorem sg_at {t:Nat}(ht:t < s.length):okS (s.getD t z3)=true:=by rw [gD ht];exact hs _ (List.getElem_mem ht)
theorem gP_step {T:Nat}(hT:h+1<=T)(hT2:T < s.length){d:B3}(hd:d=mis (s.getD (s.length - T) z3) (s.getD T z3)) :
  ((mkL s.length (gP s h T)).set (s.length - T) d).set T z3=mkL s.length (gP s h (T+1)):=by
 rw [mkL_set,mkL_set]
 refine mkL_ext fun i hi=>?_
 unfold gP
 by_cases e1:i=T
 ·rw [if_pos e1,if_pos (by omega)]
 ·rw [if_neg e1]
  by_cases e2:i=s.length - T
  ·rw [if_pos e2,if_neg (by omega),if_pos (by omega),hd,e2,show s.length - (s.length - T)=T by omega]
  ·rw [if_neg e2]
   by_cases e3:h < i/\i < T
   ·rw [if_pos e3,if_pos (by omega)]
   ·rw [if_neg e3,if_neg (show ¬ (h < i/\i < T+1) by omega)]
    by_cases e4:s.length - T < i/\i < h
    ·rw [if_pos e4,if_pos (by omega)]
    ·rw [if_neg e4,if_neg (by omega)]
theorem V36_eq {k1 k2:Rows->Option α}{Z:Option α}(hZ:∀ x,k2 x=Z):∀ (m T:Nat),T+m=s.length->h+1<=T ->
  V36_0_0 α (s.length:Int) k1 k2 ((List.range' T m).map fun (i:Nat)=>(i:Int)) (eB (mkL s.length (gP s h T)))=if okDn s (s.length - T)=true then k1 (eB (mkL s.length (gP s h s.length))) else Z
 | 0,T,q1,q2=>by
  obtain rfl:T=s.length:=by omega
  rw [Nat.sub_self]
  simp [V36_0_0,okDn]
 | m+1,T,q1,q2=>by
  have hT2:T < s.length:=by omega
  have hT3:s.length - T < s.length:=by omega
  have hgl:T < (mkL s.length (gP s h T)).length:=by rw [mkL_len];omega
  have hgl2:s.length - T < (mkL s.length (gP s h T)).length:=by rw [mkL_len];omega
  have e1:gP s h T T=s.getD T z3:=by unfold gP;rw [if_neg (by omega),if_neg (by omega)]
  have e2:gP s h T (s.length - T)=s.getD (s.length - T) z3:=by unfold gP;rw [if_neg (by omega),if_neg (by omega)]
  have ew:w64 ((s.length:Int) - (T:Int))=((s.length - T:Nat):Int):=by rw [w64_in (by omega) (by omega)];omega
  have eo:okDn s (s.length - T)=(okM s (s.length - T) && okDn s (s.length - (T+1))):=by
   rw [show s.length - T=(s.length - (T+1))+1 by omega];rfl
  have em:okM s (s.length - T)=okS (mis (s.getD (s.length - T) z3) (s.getD T z3)):=by
   unfold okM;rw [show s.length - (s.length - T)=T by omega]
  rw [List.range'_succ]
  simp only [List.map_cons,V36_0_0,S36_0_0,S36_0_0g]
  rw [Int.toNat_natCast,ldK_Bq hgl,ew,Int.toNat_natCast,ixK_Bq hgl2,ldK_Bq hgl2,mkL_get hT2,mkL_get hT3,e1,e2,f86_eq (sg_at hn2 h1 hl hs hT3) (sg_at hn2 h1 hl hs hT2),eo,em]
  unfold dfs
  cases ho:okS (mis (s.getD (s.length - T) z3) (s.getD T z3)) with
  | false=>simp only [Bool.false_eq_true,if_false,Bool.false_and];exact hZ _
  | true=>
   have hgl3:T < ((mkL s.length (gP s h T)).set (s.length - T) (mis (s.getD (s.length - T) z3) (s.getD T z3))).length:=by rw [List.length_set];exact hgl
   simp only [if_true,bne_self_eq_false,cK_false,Bool.true_and]
   rw [ixK_Bq hgl2,stK_Bq hgl2,set_Bq hgl2,ixK_Bq hgl3,stK_Bq hgl3]
   have e0:=set_Bq hgl3 z3
   rw [nB0] at e0
   rw [e0,gP_step hn2 h1 hl hs q2 hT2 rfl]
   exact V36_eq hZ m (T+1) (by omega) (by omega)
theorem start_P:mkL s.length (gP s h (h+1))=s:=by
 have e:mkL s.length (gP s h (h+1))=mkL s.length fun i=>s.getD i z3:=mkL_ext fun i hi=>by
  unfold gP
  rw [if_neg (by omega),if_neg (by omega)]
 rw [e,<- mkL_self]
theorem gP_ok (ho:okDn s (h - 1)=true):∀ b ∈ mkL s.length (gP s h s.length),okS b=true:=fun b hb=>by
 obtain⟨i,hi,rfl⟩:=mkL_mem hb
 unfold gP
 split
 ·decide
 ·split
  ·rename_i e1 e2
   exact (okDn_iff s (h - 1)).1 ho i (by omega) (by omega)
  ·exact sg_at hn2 h1 hl hs hi
end
def cauZ (s:List B3):Option (List B3):=if okDn s (s.length / 2 - 1)=true then allB (tS (mkL s.length (gP s (s.length / 2) s.length)) 1) s.length s.length 0 [] else none
theorem lenB_half {n:Nat}(h:lenB n=true):n=2*(n / 2)/\1<=n / 2:=by
 unfold lenB at h
 simp only [Bool.or_eq_true,beq_iff_eq] at h
 omega
theorem f36_eq {s:List B3}(hl:s.length<=34)(hw:∀ b ∈ s,wide b){k:Rows->Int->Option α}:f36_0 α (eB s) k=if spF s=0 then (match (kerL s).bind cauZ with
  | some c=>k (eB c) 0
  | none=>k [] 8) else k [] (spF s):=by
 simp only [f36_0,f36_0g,f32_eq hl hw]
 by_cases h0:spF s=0
 ·rw [if_pos h0,if_pos h0]
  have hLB:lenB s.length=true:=by
   unfold spF at h0
   cases h:lenB s.length with
   | true=>rfl
   | false=>rw [h] at h0;simp at h0
  cases hk:kerL s with
  | none=>rfl
  | some r=>
   obtain⟨h1,h2⟩:=kerL_ok (len_pos hLB).1 hk
   rw [<- h1] at hLB
   obtain⟨h3,h4⟩:=lenB_half hLB
   simp only [bne_self_eq_false,cK_false,eB_len,Option.bind]
   refine (qK_idx (L:=r.length) (f:=_)).trans ?_
   have key:=V36_eq (α:=α) h3 h4 (by omega) h2 (k1:=fun x19=>f52_2 α (r.length:Int) (r.length:Int) x19 (fun x22 x23=>flatK [x22] (cK (!x23) (k [] 8) (k x22 0)))) (k2:=fun x20=>k [] 8) (Z:=k [] 8) (fun _=>rfl) (r.length - (r.length / 2+1)) (r.length / 2+1) (by omega) (Nat.le_refl _)
   rw [start_P h3 h4 (by omega) h2] at key
   refine key.trans ?_
   rw [show r.length - (r.length / 2+1)=r.length / 2 - 1 by omega]
   unfold cauZ
   cases ho:okDn r (r.length / 2 - 1) with
   | false=>rfl
   | true=>
    have hlen:(mkL r.length (gP r (r.length / 2) r.length)).length=r.length:=mkL_len
    have e:=f52_2_eq (α:=α) (s:=mkL r.length (gP r (r.length / 2) r.length)) (by omega) (by omega) (gP_ok h3 h4 (by omega) h2 ho) (k:=fun x22 x23=>flatK [x22] (cK (!x23) (k [] 8) (k x22 0)))
    rw [hlen] at e
    simp only [if_true]
    rw [e]
    cases allB (tS (mkL r.length (gP r (r.length / 2) r.length)) 1) r.length r.length 0 [] with
    | none=>rfl
    | some c=>simp only [fl_B,Bool.not_true,cK_false]
 ·rw [if_neg h0,if_neg h0,show (spF s != 0)=true from bne_iff_ne.2 h0,cK_true]
end Go.AM.K
