/- Chapter 6: psi. -/
import Derived.Test.YtnhkllkecbmchaaGreatDoorXL2
import Derived.Test.YtnhkllkecbmchaaGreatDoorXP
namespace Go.AM.K
set_option linter.unusedVariables false
set_option linter.unusedSimpArgs false
variable {α:Type}
def cosR3 (k:Nat):Int × Int × Int:=((k:Int),(cosP k).1,(cosP k).2)
theorem cos_dec:∀ l:List Nat,decL xIP (l.map cosRow)=some (l.map cosR3)
 | []=>rfl
 | k::r=>by
  have h:xIP.dx (cosRow k)=some (cosR3 k):=rfl
  simp only [List.map_cons,decL,h,cos_dec r];rfl
theorem cos_x {f:List (Int × Int × Int)->Option α}(l:List Nat):qK (some (l.map cosRow)) xIP f=f (l.map cosR3):=by
 simp only [qK,listK,xK,cos_dec]
theorem cos_q {f:List (Int × Int × Int)->Option α}:qK q170 xIP f=f ((List.range' 0 1025).map cosR3):=cos_x (List.range' 0 1025)
def psiS (nlo nhi:Int)(s:Int × Int × Bool)(k:Nat):Int × Int × Bool:=
 (if nhi<=(cosP k).1 then (k:Int) else s.1,if (cosP k).2<=nlo/\s.2.2=false then (k:Int) else s.2.1,s.2.2 || decide ((cosP k).2<=nlo))
def psiL (l:List Nat)(nlo nhi:Int):Int × Int × Bool:=l.foldl (psiS nlo nhi) (0,1024,false)
def psiF (nlo nhi:Int):Int × Int × Bool:=psiL (List.range' 0 1025) nlo nhi
theorem S75_eq {nlo nhi kk lo hi x y:Int}{b:Bool}{kn k1:Int->Int->Bool->Option α}:S75_0_0 α nlo nhi (kk,lo,hi) x y b kn k1=
  kn (if nhi<=lo then kk else x) (if hi<=nlo/\b=false then kk else y) (b || decide (hi<=nlo)):=by
 simp only [S75_0_0,S75_0_0g]
 by_cases p:nhi<=lo
 ·rw [decide_eq_true p,cK_true,if_pos p]
  by_cases q:hi<=nlo
  ·rw [decide_eq_true q,cK_true]
   cases b <;> simp [q]
  ·rw [decide_eq_false q,cK_false]
   simp [q]
 ·rw [decide_eq_false p,cK_false,if_neg p]
  by_cases q:hi<=nlo
  ·rw [decide_eq_true q,cK_true]
   cases b <;> simp [q]
  ·rw [decide_eq_false q,cK_false]
   simp [q]
theorem V75_eq {nlo nhi:Int}{k:Int->Int->Bool->Option α}:∀ (l:List Nat) (s:Int × Int × Bool),V75_0_0 α nlo nhi k (l.map cosR3) s.1 s.2.1 s.2.2=k (l.foldl (psiS nlo nhi) s).1 (l.foldl (psiS nlo nhi) s).2.1 (l.foldl (psiS nlo nhi) s).2.2
 | [],s=>rfl
 | d::r,s=>by
  rw [List.map_cons,List.foldl_cons,<- V75_eq (k:=k) r (psiS nlo nhi s d)]
  exact S75_eq
theorem V75_fin {a b:Int}{k:Int->Int->Int->Option α}(l:List Nat):V75_0_0 α a b (fun x29 x30 x31=>k x29 x30 0) (l.map cosR3) 0 1024 false=k (psiL l a b).1 (psiL l a b).2.1 0:=V75_eq (k:=fun x29 x30 x31=>k x29 x30 0) l (0,1024,false)
theorem q75 {a b:Int}{k:Int->Int->Int->Option α}:qK q170 xIP (fun y=>V75_0_0 α a b (fun x29 x30 x31=>k x29 x30 0) y 0 1024 false)=k (psiF a b).1 (psiF a b).2.1 0:=by
 unfold psiF
 exact cos_q.trans (V75_fin (List.range' 0 1025))
theorem f75_eq {s:ByteArray}(hs:s.size<=9223372036854775807){w i n a b c d e f:Int}{k:Int->Int->Int->Option α} :
  f75_0 α s w i n a b c d e f k=if rdE s w i n a b c d e f ≠ 0 then k 0 0 (rdE s w i n a b c d e f) else k (psiF a b).1 (psiF a b).2.1 0:=by
 simp only [f75_0,f75_0g,f82_eq hs,cK_ne]
 split
 ·rfl
 ·exact q75
theorem psi_true (l:List Nat):∀ (x y:Int),(∀ k ∈ l,(cosP k).1 < -524288)->l.foldl (psiS (-524288) (-524288)) (x,y,true)=(x,y,true):=by
 induction l with
 | nil=>intro x y _;rfl
 | cons k r ih=>
  intro x y h
  rw [List.foldl_cons]
  have h1:=h k (by simp)
  have:psiS (-524288) (-524288) (x,y,true) k=(x,y,true):=by
   unfold psiS
   rw [if_neg (by omega),if_neg (by simp)];rfl
  rw [this]
  exact ih x y fun q hq=>h q (by simp [hq])
theorem psi_false (l:List Nat):∀ (x y:Int),(∀ k ∈ l,-524288<=(cosP k).1/\-524288 < (cosP k).2)->∃ x',l.foldl (psiS (-524288) (-524288)) (x,y,false)=(x',y,false)/\(∀ k,l.getLast?=some k->x'=(k:Int)):=by
 induction l with
 | nil=>intro x y _;exact⟨x,rfl,fun k h=>by simp at h⟩
 | cons k r ih=>
  intro x y h
  rw [List.foldl_cons]
  have h1:=h k (by simp)
  have:psiS (-524288) (-524288) (x,y,false) k=((k:Int),y,false):=by
   unfold psiS
   rw [if_pos h1.1,if_neg (by intro hh;omega),decide_eq_false (by omega)];rfl
  rw [this]
  obtain⟨x',e1,e2⟩:=ih (k:Int) y fun q hq=>h q (by simp [hq])
  refine⟨x',e1,fun q hq=>?_⟩
  cases r with
  | nil=>
   simp only [List.getLast?_singleton,Option.some.injEq] at hq
   subst hq
   simp only [List.foldl_nil,Prod.mk.injEq,and_true] at e1
   exact e1.symm
  | cons q' r'=>exact e2 q (by rw [List.getLast?_cons_cons] at hq;exact hq)
def cosLow:Nat->Nat->Bool
 | 0,_=>true
 | m+1,k=>decide (-524288<=(cosP k).1/\-524288 < (cosP k).2) && cosLow m (k+1)
def cosHigh:Nat->Nat->Bool
 | 0,_=>true
 | m+1,k=>decide ((cosP k).1 < -524288) && cosHigh m (k+1)
theorem cosLow_spec:∀ (m k:Nat),cosLow m k=true->∀ q ∈ List.range' k m,-524288<=(cosP q).1/\-524288 < (cosP q).2
 | 0,k,_,q,hq=>by simp at hq
 | m+1,k,h,q,hq=>by
  simp only [cosLow,Bool.and_eq_true,decide_eq_true_eq] at h
  rw [List.range'_succ] at hq
  rcases List.mem_cons.1 hq with h1 | h1
  ·subst h1;exact h.1
  ·exact cosLow_spec m (k+1) h.2 q h1
theorem cosHigh_spec:∀ (m k:Nat),cosHigh m k=true->∀ q ∈ List.range' k m,(cosP q).1 < -524288
 | 0,k,_,q,hq=>by simp at hq
 | m+1,k,h,q,hq=>by
  simp only [cosHigh,Bool.and_eq_true,decide_eq_true_eq] at h
  rw [List.range'_succ] at hq
  rcases List.mem_cons.1 hq with h1 | h1
  ·subst h1;exact h.1
  ·exact cosHigh_spec m (k+1) h.2 q h1
set_option maxRecDepth 100000 in
theorem cos_low:cosLow 683 0=true:=by decide +kernel
set_option maxRecDepth 100000 in
theorem cos_high:cosHigh 341 684=true:=by decide +kernel
theorem cos_683:(cosP 683).1 < -524288/\(cosP 683).2<=-524288:=by decide +kernel
theorem psi_awake:(psiF (-524288) (-524288)).1=682/\(psiF (-524288) (-524288)).2.1=683:=by
 have e:List.range' 0 1025=List.range' 0 683++(683::List.range' 684 341):=by
  rw [show (683::List.range' 684 341)=List.range' (0+683) 342 from (List.range'_succ (s:=683) (n:=341) (step:=1)).symm,List.range'_append_1]
 unfold psiF psiL
 rw [e,List.foldl_append,List.foldl_cons]
 obtain⟨x',h1,h2⟩:=psi_false (List.range' 0 683) 0 1024 (cosLow_spec 683 0 cos_low)
 rw [h1,h2 682 (by rw [show (683:Nat)=682+1 from rfl,List.range'_concat];simp)]
 have h3:psiS (-524288) (-524288) (((682:Nat):Int),1024,false) 683=(682,683,true):=by
  have:=cos_683
  unfold psiS
  rw [if_neg (by omega),if_pos ⟨this.2,rfl⟩,decide_eq_true this.2];rfl
 rw [h3,psi_true _ 682 683 (cosHigh_spec 341 684 cos_high)]
 exact⟨rfl,rfl⟩
end Go.AM.K
