/- slices.Clip, and the numbers of a slice from the last one on, as the program's library hands them over. -/
import Derived.RangeFuncKeeps
import Derived.RangeFuncLeaves
import Derived.Shelf.Abstract
import Derived.WalkKit
import Derived.OwnWalkIn
import Derived.TacticsInMore
import Derived.LoopNIn
import Derived.LoopIn
import Derived.Test.YtamjfkiklngagaaGreatAMc
import Derived.Test.YtamjfkiklngagaaGreatProg
namespace Go.Proofs
open Go.RowKit Go.Shelf Go.AM
attribute [local go_sem] Oper.semAt_some
theorem Tryz.clip_it (a:Option Addr)(l c:Nat)(hc:l<=c)(w:World):Calls Tryz.prog 42 #[.slice a l c] w fun e w'=>e=.returned (.slice a l l)/\Below w.heap.size w w':=by
 go_enter Tryz.func42,Tryz.ntmps42
 go_wp2
 go_ret
 exact⟨rfl,Below.refl _ w⟩
theorem Tryz.clip_contract (rows:List (List DC)):Contract Tryz.prog 42 [(false,[.sl rows])] [(false,[.d (.csl rows)])]:=by
 intro w vs N bs is hN hnd ha hl hg
 obtain⟨l,rfl⟩:∃ l:List Value,vs=l.toArray:=⟨vs.toList,by simp⟩
 match l,ha with
 | [v],ha=>
  simp only [ArgsM,mrefOf] at ha
  obtain⟨⟨x,hx,hd⟩,rfl,rfl⟩:=ha
  simp only [List.cons.injEq,and_true] at hx
  subst hx
  obtain⟨a,c,rfl,hc,hd'⟩:∃ a c,v=.slice a rows.length c/\rows.length<=c/\DRel w N (.sl rows) (.slice a rows.length rows.length):=by
   cases hd with
   | nil=>exact⟨_,_,rfl,Nat.zero_le _,.nil⟩
   | sl f hne hN hb hsz hl hcap hc hd=>exact⟨_,_,rfl,hcap,.sl f hne hN hb hsz hl (Nat.le_refl _) hc hd⟩
  refine (Tryz.clip_it a rows.length c hc w).mono ?_
  rintro e w' ⟨rfl,hb⟩
  refine⟨_,[],rfl,⟨hb.os,hb.tape,hb.output,hb.size,fun k hk _=>hb.block k hk⟩,rfl,#[.slice a rows.length rows.length],fun _ _=>none,rfl,rfl,fun i x u hx hu=>?_,⟨fun i j b h=>by simp at h,fun i j i' j' b h=>by simp at h⟩⟩
  match i with
  | 0=>
   simp at hx hu
   subst hx;subst hu
   exact⟨_,rfl,DRel.csl (hd'.mono hb.size (fun b hb' _=>hb.block b hb') (fun b hb' h=>by simpa [blks] using h))⟩
  | i+1=>simp at hx
set_option maxRecDepth 100000 in
set_option maxHeartbeats 1000000 in
theorem Tryz.back_run:IterOk0 Tryz.prog 74 [.cref [.sl [[.v (.int .i64 2),.v (.int .i64 1)]]] 0] [[.int .i64 0,.agg #[.int .i64 2,.int .i64 1]]]:=by
 refine⟨fun x hx v hv=>by simp at hx;subst hx;simp at hv;rcases hv with rfl | rfl <;> rfl,fun w N lb hN hL hg hlen hrel=>?_⟩
 obtain⟨v,rfl⟩:∃ v,lb=#[v]:=by
  match lb,hlen with
  | ⟨[v]⟩,_=>exact⟨v,rfl⟩
 have h:=hrel 0 _ v rfl rfl
 clear hrel hlen
 cases h with
 | @cref cs b o off f hNb hb hc hd=>
 have hcl:=hc 0 (by simp)
 have hsl:=hd 0 _ rfl
 clear hc hd
 generalize f 0=sv at hcl hsl
 cases hsl with
 | @sl rows bk ok cap sz fv hne hNk hbk hsz hl hcap hck hdk=>
 have hsz2:sz=2:=(hl _ (List.mem_singleton.2 rfl)).symm
 subst hsz2
 have d0:=hdk 0 0 _ _ rfl rfl
 have d1:=hdk 0 1 _ _ rfl rfl
 have c0:=hck 0 0 (by simp) (by omega)
 have c1:=hck 0 1 (by simp) (by omega)
 generalize fv 0 0=x0 at d0 c0
 generalize fv 0 1=x1 at d1 c1
 cases d0
 cases d1
 simp only [Nat.zero_mul,Nat.add_zero] at c0 c1 hcl
 clear hck hdk fv
 intro l J Jx n hJ hJx hY h0
 refine callsIn_wide (n:=n+1).1 (callsIn_of_wp Tryz.func74 rfl trivial ?_)
 simp only [Tryz.ntmps74,List.size_toArray,List.length_cons,List.length_nil,Nat.reduceAdd,Nat.reduceSub,Array.replicate_succ,Array.replicate_zero,List.push_toArray,List.append_toArray,List.nil_append,List.cons_append,Nat.add_zero]
 have hcl:w.cell? ⟨b,o,none⟩=some (.slice (some ⟨bk,ok,none⟩) 1 cap):=hcl
 gi_wp2
 gi_loopw [3] (fun vi wr=>wr.cell? ⟨b,o,none⟩=some (.slice (some ⟨bk,ok,none⟩) 1 cap)/\wr.cell? ⟨bk,ok,none⟩=some (.int .i64 2)/\wr.cell? ⟨bk,ok+1,none⟩=some (.int .i64 1)/\w.heap.size<=wr.heap.size/\((vi=.int .i64 0/\J 0 wr)\/(vi=.int .i64 (-1)/\J 1 wr))) (fun vi _=>(intOf vi+1).toNat)
 case atStart=>exact⟨hcl,c0,c1,Nat.le_refl _,.inl ⟨rfl,h0⟩⟩
 case round=>
  obtain⟨k0,k1,k2,ksz,⟨rfl,hJ0⟩ | ⟨rfl,hJ1⟩⟩:=hrel
  ·clear hcl c0 c1
   obtain⟨fn,tmps,assign,body,hy,hRd⟩:=hY 0 _ wr rfl hJ0
   gi_wp2
   refine hRd.mono ?_
   rintro e W3 ⟨hkept,⟨rfl,hJ3⟩ | ⟨rfl,hJx3⟩⟩
   ·have kb:=hkept.2 b hb hNb
    have kk:=hkept.2 bk hbk hNk
    have m0:W3.cell? ⟨b,o,none⟩=some (.slice (some ⟨bk,ok,none⟩) 1 cap):=by rw [cell_of_heap kb];exact k0
    have m1:W3.cell? ⟨bk,ok,none⟩=some (.int .i64 2):=by rw [cell_of_heap kk];exact k1
    have m2:W3.cell? ⟨bk,ok+1,none⟩=some (.int .i64 1):=by rw [cell_of_heap kk];exact k2
    have hsz3:w.heap.size<=W3.heap.size:=Nat.le_trans ksz hkept.1
    gi_wp2
    refine⟨⟨m0,m1,m2,hsz3,.inr ⟨rfl,hJ3⟩⟩,?_⟩
    simp [intOf]
   ·gi_wp2
    refine bodyPost_ret (results_none rfl _ _ _) rfl ?_
    exact⟨⟨_,rfl⟩,.inr hJx3⟩
  ·gi_wp2
   go_end0
   exact⟨⟨_,rfl⟩,.inl hJ1⟩
end Go.Proofs
