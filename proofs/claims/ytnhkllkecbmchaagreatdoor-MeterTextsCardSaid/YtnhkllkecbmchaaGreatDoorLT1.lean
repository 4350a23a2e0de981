/- Plain laws of numerals: digits, numbers of at most seven digits, texts cut at a byte. No program. -/
import Derived.Lib.AtoiAll
import Derived.Lib.ItoaNum
import Derived.Lib.SplitLaws
namespace Go.LT
open Go.Lib
def isDig (b:UInt8):Bool:=decide (48<=b.toNat/\b.toNat<=57)
def nv (acc:Nat)(l:List UInt8):Nat:=l.foldl (fun a c=>a*10+(c.toNat - 48)) acc
theorem nv_nil (acc:Nat):nv acc []=acc:=rfl
theorem nv_cons (acc:Nat)(c:UInt8)(r:List UInt8):nv acc (c::r)=nv (acc*10+(c.toNat - 48)) r:=by simp only [nv,List.foldl_cons]
theorem nv_snoc (l:List UInt8)(acc:Nat)(c:UInt8):nv acc (l++[c])=nv acc l*10+(c.toNat - 48):=by simp [nv,List.foldl_append]
theorem nv_ge:∀ (l:List UInt8) (acc:Nat),acc<=nv acc l
 | [],_=>Nat.le_refl _
 | c::r,acc=>by
  have h:=nv_ge r (acc*10+(c.toNat - 48))
  rw [nv_cons]
  exact Nat.le_trans (by omega) h
theorem nv_lt:∀ (l:List UInt8) (acc:Nat),l.all isDig=true->nv acc l < (acc+1)*10 ^ l.length
 | [],acc,_=>by simp [nv_nil]
 | c::r,acc,h=>by
  simp only [List.all_cons,Bool.and_eq_true,isDig,decide_eq_true_eq] at h
  have:=nv_lt r (acc*10+(c.toNat - 48)) h.2
  simp only [nv_cons,List.length_cons,Nat.pow_succ]
  refine Nat.lt_of_lt_of_le this ?_
  rw [Nat.mul_comm (10 ^ r.length) 10,<- Nat.mul_assoc]
  exact Nat.mul_le_mul_right _ (by omega)
theorem dig_byte {d:Nat}(h:d < 10):(UInt8.ofNat (48+d)).toNat=48+d:=by
 simp [UInt8.toNat_ofNat'];omega
theorem byte_dig {c:UInt8}(h:isDig c=true):UInt8.ofNat (48+(c.toNat - 48))=c:=by
 simp only [isDig,decide_eq_true_eq] at h
 rw [show 48+(c.toNat - 48)=c.toNat by omega]
 simp
theorem decDigits_lt {u:Nat}(h:u < 10):decDigits u=[UInt8.ofNat (48+u)]:=by rw [decDigits,dif_pos h]
theorem decDigits_ge {u:Nat}(h:¬ u < 10):decDigits u=decDigits (u / 10)++[UInt8.ofNat (48+u % 10)]:=by rw [decDigits,dif_neg h]
theorem decDigits_all (u:Nat):(decDigits u).all isDig=true:=by
 induction u using Nat.strongRecOn with
 | _ u ih=>
  by_cases h:u < 10
  ·rw [decDigits_lt h,List.all_cons,isDig,dig_byte h];simp;omega
  ·rw [decDigits_ge h,List.all_append,ih (u / 10) (by omega)]
   have:u % 10 < 10:=Nat.mod_lt _ (by decide)
   rw [List.all_cons,isDig,dig_byte this];simp;omega
theorem decDigits_val (u:Nat):nv 0 (decDigits u)=u:=by
 induction u using Nat.strongRecOn with
 | _ u ih=>
  by_cases h:u < 10
  ·rw [decDigits_lt h,nv_cons,nv_nil,dig_byte h];omega
  ·have:u % 10 < 10:=Nat.mod_lt _ (by decide)
   rw [decDigits_ge h,nv_snoc,ih (u / 10) (by omega),dig_byte this];omega
theorem decDigits_ne (u:Nat):decDigits u ≠ []:=by
 by_cases h:u < 10
 ·rw [decDigits_lt h];simp
 ·rw [decDigits_ge h];simp
theorem decDigits_head (u:Nat):(∃ c r,decDigits u=c::r/\c ≠ 48)\/decDigits u=[48]:=by
 induction u using Nat.strongRecOn with
 | _ u ih=>
  by_cases h:u < 10
  ·rw [decDigits_lt h]
   by_cases h0:u=0
   ·subst h0;exact .inr rfl
   ·refine .inl ⟨_,_,rfl,fun e=>?_⟩
    have:=congrArg UInt8.toNat e
    rw [dig_byte h] at this
    simp at this;omega
  ·rw [decDigits_ge h]
   refine .inl ?_
   rcases ih (u / 10) (by omega) with ⟨c,r,e,hc⟩ | e
   ·exact⟨c,r++_,by rw [e];rfl,hc⟩
   ·have:=decDigits_val (u / 10)
    rw [e] at this
    simp [nv_cons,nv_nil] at this;omega
theorem decDigits_canon:∀ (n:Nat) (l:List UInt8),l.length=n->l ≠ []->l.all isDig=true->(∀ c r,l=c::r->c ≠ 48\/r=[])->decDigits (nv 0 l)=l:=by
 intro n
 induction n using Nat.strongRecOn with
 | _ n ih=>
  intro l hn hne hall hc
  rcases List.eq_nil_or_concat l with h | ⟨r,c,h⟩
  ·exact absurd h hne
  ·rw [List.concat_eq_append] at h
   subst h
   rw [List.all_append,Bool.and_eq_true] at hall
   have hcd:isDig c=true:=by simpa using hall.2
   have hd:=hcd
   simp only [isDig,decide_eq_true_eq] at hd
   rw [nv_snoc]
   by_cases hr:r=[]
   ·subst hr
    simp only [nv_nil]
    rw [decDigits_lt (by omega)]
    simp only [Nat.zero_mul,Nat.zero_add,List.nil_append]
    rw [byte_dig hcd]
   ·obtain⟨a,r',e⟩:=List.exists_cons_of_ne_nil hr
    have ha:a ≠ 48:=by
     rcases hc a (r'++[c]) (by rw [e];rfl) with h | h
     ·exact h
     ·simp at h
    have ih':=ih r.length (by rw [<- hn];simp) r rfl hr hall.1 (fun x y h=>by rw [e] at h;injection h with h1 h2;subst h1;exact .inl ha)
    have hpos:1<=nv 0 r:=by
     rw [e,nv_cons]
     have had:isDig a=true:=by rw [e] at hall;simp only [List.all_cons,Bool.and_eq_true] at hall;exact hall.1.1
     simp only [isDig,decide_eq_true_eq] at had
     have:a.toNat ≠ 48:=fun h=>ha (UInt8.toNat_inj.1 (by simpa using h))
     have:=nv_ge r' (0*10+(a.toNat - 48))
     omega
    rw [decDigits_ge (by omega),show (nv 0 r*10+(c.toNat - 48)) / 10=nv 0 r by omega,show (nv 0 r*10+(c.toNat - 48)) % 10=c.toNat - 48 by omega,ih',byte_dig hcd]
theorem parse_digits:∀ (l:List UInt8) (acc k:Nat),acc < 10 ^ k->l.length+k<=18->l.all isDig=true->parseUint10 acc l=.ok (nv acc l)
 | [],_,_,_,_,_=>by rw [nv_nil];rfl
 | c::r,acc,k,ha,hl,h=>by
  simp only [List.all_cons,Bool.and_eq_true] at h
  have hd:=h.1
  simp only [isDig,decide_eq_true_eq] at hd
  simp only [List.length_cons] at hl
  have hp:10 ^ k<=10 ^ 17:=Nat.pow_le_pow_right (by decide) (by omega)
  have e17:(10:Nat) ^ 17=100000000000000000:=by decide
  have h1:10 ^ (k+1)=10 ^ k*10:=Nat.pow_succ ..
  simp only [parseUint10,if_pos hd,nv_cons]
  rw [if_neg (by omega),if_neg (by omega)]
  exact parse_digits r _ (k+1) (by omega) (by omega) h.2
def canon (r:List UInt8)(n:Nat):Bool:=!r.isEmpty && r.all isDig && (r.head? != some 48 || n == 1) && decide (r.length<=7)
def num?:List UInt8->Option Int
 | []=>none
 | c::r=>if c=45 then (if canon r (r.length+1) then some (-(nv 0 r:Int)) else none) else (if canon (c::r) (r.length+1) then some (nv 0 (c::r):Int) else none)
def word? (l:List UInt8):Option Int:=
 match atoiAll l with
 | .ok v=>if itoa v=l then (if (trimPrefix l [45]).length<=7 then some v else none) else none
 | _=>none
theorem trim_minus (r:List UInt8):trimPrefix (45::r) [45]=r:=by simp [trimPrefix,hasPrefix]
theorem trim_other {c:UInt8}(r:List UInt8)(h:c ≠ 45):trimPrefix (c::r) [45]=c::r:=by
 simp [trimPrefix,hasPrefix,Ne.symm h]
theorem canon_iff {r:List UInt8}{n:Nat}(hn:r.length<=n):canon r n=true ↔ r ≠ []/\r.all isDig=true/\(∀ c q,r=c::q->c ≠ 48\/n=1)/\r.length<=7:=by
 unfold canon
 cases r with
 | nil=>simp
 | cons c q=>
  simp only [List.isEmpty_cons,Bool.not_false,Bool.true_and,Bool.and_eq_true,Bool.or_eq_true,List.head?_cons,bne_iff_ne,beq_iff_eq,decide_eq_true_eq,ne_eq,List.cons_ne_nil,not_false_eq_true,true_and,Option.some.injEq]
  constructor
  ·rintro ⟨⟨h1,h2⟩,h3⟩
   exact⟨h1,fun a b e=>by injection e with e1 e2;subst e1;exact h2,h3⟩
  ·rintro ⟨h1,h2,h3⟩
   exact⟨⟨h1,h2 c q rfl⟩,h3⟩
theorem word_eq (l:List UInt8):word? l=num? l:=by
 have key:∀ v:Int,itoa v=l->(trimPrefix l [45]).length<=7->num? l=some v:=by
  intro v hv hl
  by_cases hneg:v < 0
  ·have e:itoa v=45::decDigits v.natAbs:=by unfold itoa;rw [if_pos hneg]
   rw [e] at hv
   subst hv
   rw [trim_minus] at hl
   have hh:canon (decDigits v.natAbs) ((decDigits v.natAbs).length+1)=true:=by
    refine (canon_iff (Nat.le_succ _)).2 ⟨decDigits_ne _,decDigits_all _,fun c q e=>?_,hl⟩
    rcases decDigits_head v.natAbs with ⟨a,b,e',ha⟩ | e'
    ·rw [e] at e';injection e' with e1 e2;exact .inl (e1 ▸ ha)
    ·have:=decDigits_val v.natAbs
     rw [e'] at this
     simp [nv_cons,nv_nil] at this;omega
   simp only [num?,if_pos,hh,decDigits_val]
   congr 1;omega
  ·have e:itoa v=decDigits v.toNat:=by unfold itoa;rw [if_neg hneg]
   rw [e] at hv
   obtain⟨c,q,hcq⟩:=List.exists_cons_of_ne_nil (decDigits_ne v.toNat)
   have hall:=decDigits_all v.toNat
   have hcd:isDig c=true:=by rw [hcq] at hall;simp only [List.all_cons,Bool.and_eq_true] at hall;exact hall.1
   have hc45:c ≠ 45:=fun e=>by subst e;revert hcd;decide
   rw [hcq] at hv
   subst hv
   rw [trim_other q hc45] at hl
   have hh:canon (c::q) (q.length+1)=true:=by
    refine (canon_iff (by simp)).2 ⟨by simp,by rw [<- hcq];exact hall,fun a b e=>?_,hl⟩
    injection e with e1 e2
    subst e1
    rcases decDigits_head v.toNat with ⟨a,b,e',ha⟩ | e'
    ·rw [hcq] at e';injection e' with e1 e2;exact .inl (e1 ▸ ha)
    ·rw [hcq] at e';injection e' with e1 e2;subst e2;exact .inr rfl
   simp only [num?,if_neg hc45,hh,if_true]
   rw [<- hcq,decDigits_val]
   congr 1;omega
 unfold word?
 cases hl:num? l with
 | none=>
  split
  ·split
   ·split
    ·rename_i v h1 h2 h3
     rw [key v h2 h3] at hl;cases hl
    ·rfl
   ·rfl
  ·rfl
 | some v=>
  have fin:∀ r:List UInt8,r ≠ []->r.all isDig=true->r.length<=7->parseMag r=.ok (nv 0 r)/\nv 0 r < 10000000:=by
   intro r h1 h2 h3
   constructor
   ·unfold parseMag;rw [if_neg h1];exact parse_digits r 0 0 (by decide) (by omega) h2
   ·have:=nv_lt r 0 h2
    have h4:10 ^ r.length<=10 ^ 7:=Nat.pow_le_pow_right (by decide) h3
    have e7:(10:Nat) ^ 7=10000000:=by decide
    omega
  cases l with
  | nil=>cases hl
  | cons c r=>
   unfold num? at hl
   by_cases hc:c=45
   ·subst hc
    simp only [if_true] at hl
    split at hl
    ·rename_i hcan
     simp only [Option.some.injEq] at hl
     subst hl
     obtain⟨h1,h2,h3,h4⟩:=(canon_iff (Nat.le_succ _)).1 hcan
     obtain⟨h5,h6⟩:=fin r h1 h2 h4
     have hnz:nv 0 r ≠ 0:=fun h0=>by
      have:=decDigits_canon r.length r rfl h1 h2 (fun c q e=>by
       rcases h3 c q e with h | h
       ·exact .inl h
       ·have:r.length=0:=by omega
        exact absurd (List.length_eq_zero_iff.1 this) h1)
      rw [h0] at this
      rcases h3 48 [] (by rw [<- this,decDigits_lt (by decide)];rfl) with h | h
      ·exact h rfl
      ·have:r.length=0:=by omega
       exact absurd (List.length_eq_zero_iff.1 this) h1
     have e1:atoiAll (45::r)=.ok (-(nv 0 r:Int)):=by
      unfold atoiAll
      simp only [show (45:UInt8).toNat=45 from rfl,or_true,if_true,h5,not_true,false_and,if_false,true_and]
      rw [if_neg (by omega)]
     rw [e1]
     have e2:itoa (-(nv 0 r:Int))=45::r:=by
      unfold itoa
      rw [if_pos (by omega),show (-(nv 0 r:Int)).natAbs=nv 0 r by omega,decDigits_canon r.length r rfl h1 h2]
      intro c q e
      rcases h3 c q e with h | h
      ·exact .inl h
      ·have:r.length=0:=by omega
       exact absurd (List.length_eq_zero_iff.1 this) h1
     simp only [e2,if_true]
     rw [trim_minus,if_pos h4]
    ·cases hl
   ·simp only [if_neg hc] at hl
    split at hl
    ·rename_i hcan
     simp only [Option.some.injEq] at hl
     subst hl
     obtain⟨h1,h2,h3,h4⟩:=(canon_iff (by simp)).1 hcan
     obtain⟨h5,h6⟩:=fin (c::r) h1 h2 h4
     have hcd:isDig c=true:=by simp only [List.all_cons,Bool.and_eq_true] at h2;exact h2.1
     simp only [isDig,decide_eq_true_eq] at hcd
     have e1:atoiAll (c::r)=.ok (nv 0 (c::r):Int):=by
      have hA:¬ (c.toNat=43\/c.toNat=45):=by omega
      have hB:¬ c.toNat=45:=by omega
      have hC:¬ 9223372036854775808<=nv 0 (c::r):=by omega
      unfold atoiAll;dsimp only;rw [if_neg hA,h5];dsimp only;rw [if_neg (fun h=>hC h.2),if_neg (fun h=>hB h.1),if_neg hB]
     rw [e1]
     have e2:itoa (nv 0 (c::r):Int)=c::r:=by
      unfold itoa
      rw [if_neg (by omega),show (nv 0 (c::r):Int).toNat=nv 0 (c::r) by omega,decDigits_canon _ (c::r) rfl h1 h2]
      intro a q e
      rcases h3 a q e with h | h
      ·exact .inl h
      ·refine .inr ?_
       injection e with e1 e2
       have:r.length=0:=by omega
       rw [<- e2];exact List.length_eq_zero_iff.1 this
     simp only [e2,if_true]
     rw [trim_other r hc,if_pos h4]
    ·cases hl
theorem num_itoa {n:Int}(h1:-10000000 < n)(h2:n < 10000000):num? (itoa n)=some n:=by
 have len:∀ (k u:Nat),u < 10 ^ (k+1)->(decDigits u).length<=k+1:=by
  intro k
  induction k with
  | zero=>intro u h;rw [decDigits_lt (by simpa using h)];simp
  | succ k ih=>
   intro u h
   by_cases h10:u < 10
   ·rw [decDigits_lt h10];simp
   ·rw [decDigits_ge h10]
    have:=ih (u / 10) (by rw [Nat.pow_succ] at h;omega)
    simp;omega
 rw [<- word_eq]
 have e7:(10:Nat) ^ 7=10000000:=by decide
 have hok:atoiAll (itoa n)=.ok n:=by
  by_cases hneg:n < 0
  ·unfold itoa
   rw [if_pos hneg]
   unfold atoiAll
   have hl:=len 6 n.natAbs (by omega)
   have h5:parseMag (decDigits n.natAbs)=.ok n.natAbs:=by
    unfold parseMag;rw [if_neg (decDigits_ne _),parse_digits _ 0 0 (by decide) (by omega) (decDigits_all _),decDigits_val]
   simp only [show (45:UInt8).toNat=45 from rfl,or_true,if_true,h5,not_true,false_and,if_false,true_and]
   rw [if_neg (by omega)]
   congr 1;omega
  ·unfold itoa
   rw [if_neg hneg]
   have hl:=len 6 n.toNat (by omega)
   have hall:=decDigits_all n.toNat
   have h5:parseMag (decDigits n.toNat)=.ok n.toNat:=by
    unfold parseMag;rw [if_neg (decDigits_ne _),parse_digits _ 0 0 (by decide) (by omega) hall,decDigits_val]
   obtain⟨c,q,hcq⟩:=List.exists_cons_of_ne_nil (decDigits_ne n.toNat)
   rw [hcq] at h5 hall ⊢
   have hcd:isDig c=true:=by simp only [List.all_cons,Bool.and_eq_true] at hall;exact hall.1
   simp only [isDig,decide_eq_true_eq] at hcd
   have hA:¬ (c.toNat=43\/c.toNat=45):=by omega
   have hB:¬ c.toNat=45:=by omega
   have hC:¬ 9223372036854775808<=n.toNat:=by omega
   unfold atoiAll;dsimp only;rw [if_neg hA,h5];dsimp only;rw [if_neg (fun h=>hC h.2),if_neg (fun h=>hB h.1),if_neg hB]
   congr 1;omega
 unfold word?
 rw [hok]
 simp only [if_true]
 rw [if_pos]
 by_cases hneg:n < 0
 ·unfold itoa
  rw [if_pos hneg,trim_minus]
  exact len 6 n.natAbs (by omega)
 ·unfold itoa
  rw [if_neg hneg]
  have hl:=len 6 n.toNat (by omega)
  have hall:=decDigits_all n.toNat
  obtain⟨c,q,hcq⟩:=List.exists_cons_of_ne_nil (decDigits_ne n.toNat)
  rw [hcq] at hl hall ⊢
  have hcd:isDig c=true:=by simp only [List.all_cons,Bool.and_eq_true] at hall;exact hall.1
  rw [trim_other q (fun e=>by subst e;revert hcd;decide)]
  exact hl
end Go.LT
