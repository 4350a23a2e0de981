/- Plain laws of texts: cut at a byte. No program. -/
import Derived.Test.YtnhkllkecbmchaaGreatDoorLT1
namespace Go.LT
open Go.Lib
def cutL (c:UInt8):List UInt8->List (List UInt8)
 | []=>[[]]
 | b::l=>if b=c then []::cutL c l else match cutL c l with
  | h::t=>(b::h)::t
  | []=>[[b]]
theorem cutL_ne (c:UInt8):∀ l,cutL c l ≠ []
 | []=>by simp [cutL]
 | b::l=>by
  unfold cutL
  split
  ·simp
  ·split <;> simp
theorem splitK_cut (c:UInt8):∀ l:List UInt8,splitK [c] 0 (count l [c]) l=cutL c l
 | []=>by rw [count_miss (by simp [index])];rfl
 | b::l=>by
  have ih:=splitK_cut c l
  by_cases h:b=c
  ·subst h
   have hix:index (b::l) [b]=((0:Nat):Int):=by rw [index];simp [List.isPrefixOf]
   rw [count_cons_eq,Nat.add_comm,splitK,hix,cutL,if_pos rfl]
   simp only [List.length_singleton]
   rw [if_neg (by decide)]
   simp only [Int.toNat_natCast,Nat.add_zero,List.take_zero,Nat.zero_add,List.drop_succ_cons,List.drop_zero,ih]
  ·have hp:([c]:List UInt8).isPrefixOf (b::l)=false:=by simp [List.isPrefixOf,Ne.symm h]
   have hix:index (b::l) [c]=if index l [c] == -1 then -1 else index l [c]+1:=by rw [index,hp];simp
   rw [count_cons_ne b c l h,cutL,if_neg h]
   by_cases hm:index l [c]=-1
   ·rw [count_miss hm] at ih ⊢
    rw [<- ih];rfl
   ·have hge:=index_ge l [c]
    obtain⟨j,hj⟩:∃ j:Nat,index l [c]=j:=⟨(index l [c]).toNat,by omega⟩
    have hne:(index l [c] == -1)=false:=by simp [hm]
    rw [count_hit (by simp) hj,Nat.add_comm] at ih ⊢
    rw [splitK,hne,hj] at ih
    rw [splitK,hix,hne,hj]
    simp only [Bool.false_eq_true,if_false,Int.toNat_natCast,Nat.add_zero,List.length_singleton] at ih ⊢
    rw [<- ih]
    rw [show (((j:Int)+1) == -1)=false by simp;omega]
    simp only [Bool.false_eq_true,if_false,show ((j:Int)+1).toNat=j+1 by omega,List.take_succ_cons,List.drop_succ_cons]
def cutBA (c:UInt8)(s:ByteArray):List ByteArray:=(cutL c s.data.toList).map fun l=>⟨l.toArray⟩
theorem split_cut (c:UInt8)(s:ByteArray):splitB ⟨#[c]⟩ 0 (countB s ⟨#[c]⟩) s=cutBA c s:=by
 have h:=splitB_data ⟨#[c]⟩ 0 (countB s ⟨#[c]⟩) s
 have e:splitK ([c]:List UInt8) 0 (countB s ⟨#[c]⟩) s.data.toList=cutL c s.data.toList:=splitK_cut c s.data.toList
 rw [show (⟨#[c]⟩:ByteArray).data.toList=[c] from rfl,e] at h
 unfold cutBA
 rw [<- h,List.map_map]
 exact (List.map_id _).symm.trans (List.map_congr_left fun x _=>rfl)
theorem cutL_append (c:UInt8):∀ (a b:List UInt8),(∀ x ∈ a,x ≠ c)->cutL c (a++c::b)=a::cutL c b
 | [],b,_=>by simp [cutL]
 | x::a,b,h=>by
  rw [List.cons_append,cutL,if_neg (h x (by simp)),cutL_append c a b fun y hy=>h y (by simp [hy])]
theorem cutL_none (c:UInt8):∀ (a:List UInt8),(∀ x ∈ a,x ≠ c)->cutL c a=[a]
 | [],_=>rfl
 | x::a,h=>by
  rw [cutL,if_neg (h x (by simp)),cutL_none c a fun y hy=>h y (by simp [hy])]
theorem cutL_step (c:UInt8)(p:List UInt8)(hp:∀ x ∈ p,x ≠ c)(b:UInt8)(r:List UInt8) :
  cutL c (p++b::r)=if b=c then p::cutL c r else cutL c ((p++[b])++r):=by
 by_cases h:b=c
 ·subst h;rw [if_pos rfl,cutL_append b p r hp]
 ·rw [if_neg h];simp
theorem itoa_noc (n:Int)(c:UInt8)(h1:c ≠ 45)(h2:isDig c=false):∀ x ∈ itoa n,x ≠ c:=by
 intro x hx e
 subst e
 unfold itoa at hx
 have hd:∀ u,x ∉ decDigits u:=fun u h=>by
  have:=List.all_eq_true.1 (decDigits_all u) x h
  rw [h2] at this;cases this
 split at hx
 ·rcases List.mem_cons.1 hx with h | h
  ·exact h1 h
  ·exact hd _ h
 ·exact hd _ hx
end Go.LT
