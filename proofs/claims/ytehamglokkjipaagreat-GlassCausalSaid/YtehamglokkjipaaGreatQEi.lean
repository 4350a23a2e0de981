/- The numbers of a kernel at times below 0, as the program's iterator hands them over. -/
import Derived.RangeFuncKeeps
import Derived.RangeFuncLeaves
import Derived.Shelf.Abstract
import Derived.WalkKit
import Derived.OwnWalkIn
import Derived.TacticsInMore
import Derived.LoopNIn
import Derived.LoopIn
import Derived.Test.YtehamglokkjipaaGreatAMb
import Derived.Test.YtehamglokkjipaaGreatProg
namespace Go.Proofs
open Go.RowKit Go.Shelf Go.AM
attribute [local go_sem] Oper.semAt_some
theorem Tryz.early_it:Go.AM.LvOk Tryz.prog 84 121:=fun a l c w=>by
 go_enter Tryz.func84,Tryz.ntmps84
 go_wp2
 go_ret
 exact⟨25,rfl,(Below.refl _ w).alloc (Nat.le_refl _) _,heap_alloc_new w _⟩
set_option maxRecDepth 100000 in
set_option maxHeartbeats 1000000 in
theorem Tryz.early_run:LiveOk Tryz.prog 121 2:=by
 intro a L cap b t w N hN hL hNb hblk l J Jx n hJ hJx hR hY h0
 have hL:L<=9223372036854775807:=hL
 refine callsIn_wide (n:=n+1).1 (callsIn_of_wp Tryz.func121 rfl trivial ?_)
 simp only [Tryz.ntmps121,List.size_toArray,List.length_cons,List.length_nil,Nat.reduceAdd,Nat.reduceSub,Array.replicate_succ,Array.replicate_zero,List.push_toArray,List.append_toArray,List.nil_append,List.cons_append]
 have hblt:=(Array.getElem?_eq_some_iff.1 hblk).1
 have hc0:w.cell? ⟨b,0,none⟩=some (.slice a L cap):=by rw [Lib.cell_of_heap hblk];rfl
 gi_wp2
 gi_loopw [3] (fun vi wr=>∃ (i:Nat),vi=.int .i64 ((L / 2+1+i:Nat):Int)/\wr.heap[b]?=some (.cells #[.slice a L cap] t (0,0))/\i<=L - (L / 2+1)/\w.heap.size<=wr.heap.size/\J i wr) (fun vi _=>L+1 - (intOf vi).toNat)
 case atStart=>exact⟨0,by congr 1,hblk,Nat.zero_le _,Nat.le_refl _,h0⟩
 case round=>
  obtain⟨i,rfl,hb,hi,hsz,hJi⟩:=hrel
  have hc:wr.cell? ⟨b,0,none⟩=some (.slice a L cap):=by rw [Lib.cell_of_heap hb];rfl
  clear hblk h0 hc0
  by_cases hlt:i < L - (L / 2+1)
  ·have ht:L / 2+1+i < L:=by omega
   have hcond:((L / 2+1+i:Nat):Int) < (L:Int):=by omega
   obtain⟨x,hx⟩:=hR i wr hlt hJi
   obtain⟨bk,o,cells,tk,fz,rfl,hk,hk2,rfl⟩:=id hx
   obtain⟨c0,hc0⟩:∃ c,cells[o+(L / 2+1+i)*2]?=some c:=⟨_,Array.getElem?_eq_getElem (by omega)⟩
   obtain⟨c1,hc1⟩:∃ c,cells[o+(L / 2+1+i)*2+1]?=some c:=⟨_,Array.getElem?_eq_getElem (by omega)⟩
   have hk0:wr.cell? ⟨bk,o+(L / 2+1+i)*2,none⟩=some c0:=by rw [Lib.cell_of_heap hk];exact hc0
   have hk1:wr.cell? ⟨bk,o+(L / 2+1+i)*2+1,none⟩=some c1:=by rw [Lib.cell_of_heap hk];exact hc1
   have hex:cells.extract (o+(L / 2+1+i)*2) (o+(L / 2+1+i)*2+2)=#[c0,c1]:=by
    apply Array.ext
    ·simp only [Array.size_extract,List.size_toArray,List.length_cons,List.length_nil];omega
    ·intro j h1 h2
     simp only [List.size_toArray,List.length_cons,List.length_nil] at h2
     match j,h2 with
     | 0,_=>simpa using (Array.getElem?_eq_some_iff.1 hc0).2
     | 1,_=>simpa using (Array.getElem?_eq_some_iff.1 hc1).2
   obtain⟨fn,tmps,assign,body,hy,hRd⟩:=hY i _ wr hlt hx hJi
   rw [hex] at hy
   have hw1:IntKind.i64.wrap (((L / 2+1+i:Nat):Int)+1)=((L / 2+1+i:Nat):Int)+1:=by rw [IntKind.wrap_i64];omega
   generalize hT:L / 2+1+i=T at *
   clear hR hex hx hc0 hc1
   gi_wp2
   refine hRd.mono ?_
   rintro e W3 ⟨hkept,⟨rfl,hJ3⟩ | ⟨rfl,hJx3⟩⟩
   ·have hb3:W3.heap[b]?=some (.cells #[.slice (some ⟨bk,o,none⟩) L cap] t (0,0)):=by rw [hkept.2 b hblt hNb];exact hb
    have hsz3:w.heap.size<=W3.heap.size:=Nat.le_trans hsz hkept.1
    gi_wp2
    refine⟨⟨i+1,by rw [<- hT];congr 1,hb3,by omega,hsz3,hJ3⟩,?_⟩
    simp only [Array.getD,List.size_toArray,List.length_cons,intOf]
    simp
    omega
   ·gi_wp2
    refine bodyPost_ret (results_none rfl _ _ _) rfl ?_
    exact⟨⟨_,rfl⟩,.inr hJx3⟩
  ·have hcond:¬ ((L / 2+1+i:Nat):Int) < (L:Int):=by omega
   gi_wp2
   go_end0
   have:i=L - (L / 2+1):=by omega
   subst this
   exact⟨⟨_,rfl⟩,.inl hJi⟩
end Go.Proofs
