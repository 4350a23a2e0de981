/- Chapter 2: the kernel of a spectrum, in the program and in the document. -/
import Derived.Test.YtehamglokkjipaaGreatQL10
namespace Go.AM.K
open Ieee
set_option linter.unusedVariables false
set_option linter.unusedSimpArgs false
set_option linter.unusedSectionVars false
variable {α:Type}
theorem chkB {A:Type}{l:List A}{p:A->Bool}{R:Nat->Int->Option α}{Y Z:Option α}(hn:l.length < 1000)
  (hs:∀ (n i:Nat) (h:i < l.length),R (n+1) (i:Int)=if p (l[i]'h)=true then R n ((i+1:Nat):Int) else Z) (he:∀ n:Nat,R (n+1) (l.length:Int)=Y) :
  R fuel 0=if l.all p=true then Y else Z:=by
 have hfu:=fuel_ge
 have key:∀ (m i n:Nat),i+m=l.length->m < n->R n (i:Int)=if ((l.drop i).all p)=true then Y else Z:=by
  intro m
  induction m with
  | zero=>
   intro i n h1 h2
   obtain⟨n,rfl⟩:∃ k,n=k+1:=⟨n - 1,by omega⟩
   obtain rfl:i=l.length:=by omega
   rw [he,List.drop_length];rfl
  | succ m ih=>
   intro i n h1 h2
   obtain⟨n,rfl⟩:∃ k,n=k+1:=⟨n - 1,by omega⟩
   rw [hs n i (by omega),List.drop_eq_getElem_cons (by omega),List.all_cons]
   cases p (l[i]'(by omega)) with
   | false=>rfl
   | true=>rw [if_pos rfl,Bool.true_and];exact ih (i+1) n (by omega) (by omega)
 exact key l.length 0 fuel (by omega) (by omega)
theorem mapB {ρ:Type}{l:List B3}{f:B3->B3}{enc:List B3->ρ}{R:Nat->Int->ρ->Option α}{Y:ρ->Option α}(hn:l.length < 1000)
  (hs:∀ (n i:Nat) (s:List B3) (h:i < l.length),s.length=l.length->s.getD i z3=l[i]'h->R (n+1) (i:Int) (enc s)=R n ((i+1:Nat):Int) (enc (s.set i (f (l[i]'h))))) (he:∀ (n:Nat) (r:ρ),R (n+1) (l.length:Int) r=Y r) :
  R fuel 0 (enc l)=Y (enc (l.map f)):=by
 have hfu:=fuel_ge
 have key:∀ (m i n:Nat),i+m=l.length->m < n->R n (i:Int) (enc ((l.take i).map f++l.drop i))=Y (enc (l.map f)):=by
  intro m
  induction m with
  | zero=>
   intro i n h1 h2
   obtain⟨n,rfl⟩:∃ k,n=k+1:=⟨n - 1,by omega⟩
   obtain rfl:i=l.length:=by omega
   rw [he,List.take_length,List.drop_length,List.append_nil]
  | succ m ih=>
   intro i n h1 h2
   obtain⟨n,rfl⟩:∃ k,n=k+1:=⟨n - 1,by omega⟩
   have hi:i < l.length:=by omega
   have hlt:((l.take i).map f).length=i:=by simp;omega
   have hd:l.drop i=l[i]::l.drop (i+1):=List.drop_eq_getElem_cons hi
   rw [hs n i _ hi (by simp;omega) (by
    rw [List.getD_eq_getElem?_getD,List.getElem?_append_right (by omega),hlt,Nat.sub_self,hd];rfl)]
   have e:((l.take i).map f++l.drop i).set i (f l[i])=(l.take (i+1)).map f++l.drop (i+1):=by
    rw [List.set_append_right _ _ (by omega),hlt,Nat.sub_self,hd,List.set_cons_zero,List.take_add_one,List.getElem?_eq_getElem hi,List.map_append,List.append_assoc]
    rfl
   rw [e]
   exact ih (i+1) n (by omega) (by omega)
 have:=key l.length 0 fuel (by omega) (by omega)
 simpa using this
def spF (s:List B3):Int:=if lenB s.length=false then 12 else if s.all okS=false then 2 else 0
def kerL (s:List B3):Option (List B3):=(allB (tS s (-1)) s.length s.length 0 []).map fun r=>r.map (shr (s.length:Int))
theorem allB_ok0 {s:List B3}{sg:Int}{r:List B3}(h:allB (tS s sg) s.length s.length 0 []=some r):r.length=s.length/\∀ b ∈ r,okS b=true:=
 ⟨by have:=allB_len _ _ _ _ h;simpa using this,allB_ok _ _ _ _ (by simp) h⟩
theorem kerL_ok {s r:List B3}(hl:2<=s.length)(h:kerL s=some r):r.length=s.length/\∀ b ∈ r,okS b=true:=by
 unfold kerL at h
 cases ha:allB (tS s (-1)) s.length s.length 0 [] with
 | none=>rw [ha] at h;cases h
 | some q=>
  rw [ha] at h
  simp only [Option.map_some,Option.some.injEq] at h
  obtain⟨h1,h2⟩:=allB_ok0 ha
  subst h
  refine⟨by simpa using h1,fun b hb=>?_⟩
  obtain⟨c,hc,rfl⟩:=List.mem_map.1 hb
  exact shr_ok (by omega) (h2 c hc)
theorem all_of {s:List B3}(h:s.all okS=true):∀ b ∈ s,okS b=true:=fun b hb=>List.all_eq_true.1 h b hb
theorem f32_eq {s:List B3}(hl:s.length<=34)(hw:∀ b ∈ s,wide b){k:Rows->Int->Option α}:f32_0 α (eB s) k=if spF s=0 then (match kerL s with
  | some r=>k (eB r) 0
  | none=>k [] 8) else k [] (spF s):=by
 simp only [f32_0,f32_0g,eB_len,f50_eq hl,L32_0_0]
 unfold spF
 cases hL:lenB s.length with
 | false=>rfl
 | true=>
  have hp:=len_pos hL
  simp only [Bool.true_eq_false,if_false,if_true,bne_self_eq_false,cK_false]
  refine (chkB (l:=s) (p:=okS) (R:=fun n i=>R32_0_0 α (eB s) (s.length:Int) (fun x13=>k [] x13) (fun x14 x15=>f52_1 α (s.length:Int) (eB s) (s.length:Int) (fun x17 x18=>flatK [x17] (cK (!x18) (k [] 8) (L32_0_1 α ((List.length x17:Nat):Int) (s.length:Int) (k [] 8) (fun x34 x35 x36=>k x36 0) 0 x17)))) n i) (Y:=f52_1 α (s.length:Int) (eB s) (s.length:Int) (fun x17 x18=>flatK [x17] (cK (!x18) (k [] 8) (L32_0_1 α ((List.length x17:Nat):Int) (s.length:Int) (k [] 8) (fun x34 x35 x36=>k x36 0) 0 x17)))) (Z:=k [] 2) (by omega) (fun n i hi=>?_) (fun n=>?_)).trans ?_
  ·simp only [R32_0_0,S32_0_0,S32_0_0g]
   rw [decide_eq_true (by omega),cK_true,rowK_B hi,gD hi,f64_any (hw _ (List.getElem_mem hi)),w64_nat hi (by omega)]
   cases okS (s[i]'hi) <;> rfl
  ·simp only [R32_0_0,S32_0_0,S32_0_0g]
   rw [decide_eq_false (by omega),cK_false]
  cases hA:s.all okS with
  | false=>rfl
  | true=>
   simp only [if_true,Bool.true_eq_false,if_false]
   rw [f52_1_eq (by omega) hl (all_of hA)]
   unfold kerL
   cases ha:allB (tS s (-1)) s.length s.length 0 [] with
   | none=>rfl
   | some r=>
    obtain⟨h1,h2⟩:=allB_ok0 ha
    simp only [fl_B,Bool.not_true,cK_false,Option.map_some,L32_0_1,eB_len]
    refine mapB (α:=α) (l:=r) (f:=shr (s.length:Int)) (enc:=eB) (R:=fun n i q=>R32_0_1 α (r.length:Int) (s.length:Int) (k [] 8) (fun x34 x35 x36=>k x36 0) n i q) (Y:=fun q=>k q 0) (by omega) (fun n i q hi hq1 hq2=>?_) (fun n q=>?_)
    ·have hi':i < q.length:=by omega
     have hb:=h2 _ (List.getElem_mem hi)
     have hk:=shr_ok (d:=(s.length:Int)) (by omega) hb
     have hi2:i < (q.set i (shr (s.length:Int) (r[i]'hi))).length:=by rw [List.length_set];exact hi'
     have hg:(q.set i (shr (s.length:Int) (r[i]'hi))).getD i z3=shr (s.length:Int) (r[i]'hi):=by
      rw [gD hi2,List.getElem_set_self]
     simp only [R32_0_1,S32_0_1,S32_0_1g]
     rw [decide_eq_true (by omega),cK_true,ixK_Bq hi',Int.toNat_natCast,ldK_Bq hi',hq2,f83_eq (by omega) (by omega) hb,ixK_Bq hi',stK_Bq hi',set_Bq hi',ixK_Bq hi2,ldK_Bq hi2,hg,f64_ok hk,bne_self_eq_false,cK_false,w64_nat hi (by omega)]
    ·simp only [R32_0_1,S32_0_1,S32_0_1g]
     rw [decide_eq_false (by omega),cK_false]
end Go.AM.K
