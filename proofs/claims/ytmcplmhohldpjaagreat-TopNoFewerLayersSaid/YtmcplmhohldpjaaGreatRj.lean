/- Texts of one kind, put together. -/
import Derived.Test.YtmcplmhohldpjaaGreatRi
import Derived.Lib.SliceRun
import Derived.BigRegionIn
namespace Go.Proofs
open Go.RowKit Go.Shelf Go.AM Go.Lib
attribute [local go_sem] Oper.semAt_some
theorem Tryz.u56:Tryz.prog.underlying 56=some (.slice 3):=by kernel_rfl
theorem Tryz.i3:∃ i,Tryz.prog.info? 3=some i/\i.zero=some (.int .i64 0)/\i.size=1/\i.bytes=8:=⟨(Tryz.prog.info? 3).get (by kernel_rfl),(Option.some_get _).symm,by kernel_rfl,by kernel_rfl,by kernel_rfl⟩
set_option maxHeartbeats 2000000 in
set_option maxRecDepth 100000 in
theorem Tryz.clone_it (b off n c:Nat)(zs:List Int)(w:World)(hz:n<=zs.length)(hbig:n*8<=140737488355328)(hc:∀ j,j < zs.length->w.cell? ⟨b,off+j,none⟩=some (.int .i64 (zs.getD j 0))) :
  Calls Tryz.prog 96 #[.slice (some ⟨b,off,none⟩) n c] w fun e w'=>∃ v',e=.returned v'/\w'.ownsRow w.heap.size 3 1 v' n ((zs.take n).map (Value.int .i64))/\v' ≠ .slice none 0 0/\Below w.heap.size w w':=by
 obtain⟨i0,hi,hz0,hz1,hz2⟩:=Tryz.i3
 have A:nC (∀ j,j < zs.length->w.cell? ⟨b,off+j,none⟩=some (.int .i64 (zs.getD j 0))):=⟨hc⟩
 clear hc
 have q22:∀ (w:World) (a:Option Addr) (n c n' c':Nat),(binOp .eql 56 (.slice a n c) (.slice none n' c')).run Tryz.prog w=.ok (.bool a.isNone) w:=fun w a n c n' c'=>Lib.run_eql_slice_nil w _ _ a n c n' c' Tryz.u56
 have u22:∀ w,Sem.run Tryz.prog (underlying 56) w=.ok (TypeDesc.slice 3) w:=run_underlying Tryz.u56
 go_enter Tryz.func96,Tryz.ntmps96
 go_wp2_with (at_builtin;refine wpList_append_own _ rfl _ _ 56 rfl w.heap.size 3 i0 (.int .i64 0) 1 8 Tryz.u56 hi hz0 hz1 hz2 rfl (by decide) _ _ _ rfl (World.ownsRow_made w #[] 0 (Nat.le_refl _) (Nat.zero_le _) rfl) ⟨b,off,none⟩ n c ((zs.take n).map (Value.int .i64)) rfl ?qc1 ?qc2 ?qc3 ?qc4 ?qc5 ?qc6 ?_)
 case qc1=>simp;omega
 case qc2=>
  intro j u hj
  have hjn:j < n/\j < zs.length:=by
   have:=(List.getElem?_eq_some_iff.1 hj).1
   simp at this
   omega
  rw [Addr.add_lit]
  refine Lib.cell?_alloc_some _ ?_
  rw [A.out j hjn.2]
  have e:((zs.take n).map (Value.int .i64))[j]?=some (Value.int .i64 (zs.getD j 0)):=by simp [List.getD,hjn.1,List.getElem?_eq_getElem hjn.2]
  rw [e] at hj
  exact hj
 case qc3=>intro u hu;obtain⟨x,_,rfl⟩:=List.mem_map.1 hu;rfl
 case qc4=>unfold maxLen;omega
 case qc5=>omega
 case qc6=>simp
 intro v' w1 hown hgrow hnil
 go_wp2
 go_ret
 refine⟨v',rfl,by simpa using hown,?_,?_⟩
 ·exact hnil
 ·exact ((Below.refl _ w).alloc (Nat.le_refl _) _).grown hgrow (by simp) (by intro k hk;simp [Value.ownBlock] at hk;omega)
end Go.Proofs

namespace Go.AM
def ig:Nat->Nat->List (List Int)
 | 0,_=>[[]]
 | 1,1=>[[0]]
 | 1,2=>[[0],[1]]
 | 2,1=>[[0,0]]
 | 2,2=>[[0,0],[0,1],[1,0],[1,1]]
 | _,_=>[]
def Ck (n c:Nat):List (List Value):=(ig n c).map fun l=>[.tuple (l.map (Value.int .i64)).toArray]
def vo (o:Option Obj):Nat:=match o with
 | some (.cells cs _ _)=>match cs.toList with
  | [.int _ a]=>a.toNat
  | [.int _ a,.int _ b]=>2*a.toNat+b.toNat
  | _=>0
 | _=>0
theorem aW.rf {b:Nat}{w:World}:aW (some b) w w:=⟨rfl,rfl,rfl,Nat.le_refl _,fun _ _ _=>rfl⟩
theorem aW.setC {b i:Nat}{v:Value}{w w':World}(h:aW (some b) w w'):aW (some b) w (w'.setCell ⟨b,i,none⟩ v):=
 ⟨h.os,h.tape,h.output,by simpa using h.size,fun k hk hne=>(Go.RowKit.Below.heap_setCell _ _ _ _ fun e=>hne (by rw [e])).trans (h.block k hk hne)⟩
theorem aW.drw {b:Nat}{w w':World}(h:aW (some b) w w'):aW (some b) w w'.drew:=⟨h.os,h.tape,h.output,h.size,h.block⟩
theorem cp {w:World}{g i:Nat}{cs:Array Value}{t:TypeId}{fr:Nat × Nat}(h:w.heap[g]?=some (.cells cs t fr))(v:Value):(w.setCell ⟨g,i,none⟩ v).heap[g]?=some (.cells (cs.setIfInBounds i v) t fr):=by
 have hlt:=(Array.getElem?_eq_some_iff.1 h).1
 have h2:=(Array.getElem?_eq_some_iff.1 h).2
 unfold World.setCell
 simp [Array.getElem?_modify,h]
end Go.AM
namespace Go.Proofs
open Go.RowKit Go.Shelf Go.AM
attribute [local go_sem] Oper.semAt_some
theorem frz {w:World}{b:Nat}{cs:Array Value}{T:TypeId}(hb:w.heap[b]?=some (.cells cs T (0,0)))(j:Nat):w.frozen? ⟨b,j,none⟩=false:=by
 simp [World.frozen?,hb]
set_option maxRecDepth 100000 in
set_option maxHeartbeats 4000000 in
theorem Tryz.lists_run (n c:Nat)(hn:n<=2)(hc:c=1\/c=2):sG Tryz.prog 95 [.cref [.v (.int .i64 (n:Int))] 0,.cref [.v (.int .i64 (c:Int))] 0] (Ck n c):=by
 intro w N lb hN hL hg hlen hrel
 obtain⟨v1,v2,rfl⟩:∃ v1 v2,lb=#[v1,v2]:=by
  match lb,hlen with
  | ⟨[v1,v2]⟩,_=>exact⟨v1,v2,rfl⟩
 have h1:=hrel 0 _ v1 rfl rfl
 have h2:=hrel 1 _ v2 rfl rfl
 clear hrel hlen
 cases h1 with
 | @cref cs b1 o1 off1 f1 hNb1 hb1 hc1 hd1=>
 cases h2 with
 | @cref cs2 b2 o2 off2 f2 hNb2 hb2 hc2 hd2=>
 have hcl1:=hc1 0 (by simp)
 have hcl2:=hc2 0 (by simp)
 have hv1:=hd1 0 _ rfl
 have hv2:=hd2 0 _ rfl
 clear hc1 hc2 hd1 hd2
 generalize f1 0=x1 at hcl1 hv1
 generalize f2 0=x2 at hcl2 hv2
 cases hv1
 cases hv2
 clear f1 f2
 simp only [Nat.add_zero] at hcl1 hcl2
 intro l J Jx m hJ hJx hY h0
 refine callsIn_wide (n:=m+1).1 (callsIn_of_wp Tryz.func95 rfl trivial ?_)
 simp only [Tryz.ntmps95,List.size_toArray,List.length_cons,List.length_nil,Nat.reduceAdd,Nat.reduceSub,Array.replicate_succ,Array.replicate_zero,List.push_toArray,List.append_toArray,List.nil_append,List.cons_append,Nat.add_zero]
 have hfn:Fence.wide.fn 96:=trivial
 have hmk:∀ w:World,Sem.run Tryz.prog (Instr.makeSlice 56 (.int .i64 (n:Int)) (.int .i64 (n:Int))) w=.ok (.slice (some ⟨w.heap.size,0,none⟩) n n) (w.alloc (.cells (Array.replicate n (.int .i64 0)) 3)):=fun w=>by
  obtain⟨i0,hi,hz0,hz1,hz2⟩:=Tryz.i3
  have h:=run_make (P:=Tryz.prog) w 56 3 i0 (.int .i64 0) Tryz.u56 hi hz0 .i64 .i64 (n:Int) (n:Int) (by omega) (by omega) (by rw [hz2];omega) (by omega)
  rw [h,hz1]
  simp only [Int.toNat_natCast,Nat.mul_one]
  congr 3
  apply Array.ext
  ·simp [madeCells]
  ·intro j h1 h2;simp [madeCells,Value.cells,Nat.mod_one]
 have hdl:∀ (k:Nat) (zs:List Int),(ig n c)[k]?=some zs->zs.length=n:=fun k zs h=>by
  obtain rfl | rfl | rfl:n=0\/n=1\/n=2:=by omega
  all_goals rcases hc with rfl | rfl <;> revert h <;> (try (rcases k with _ | _ | _ | _ | k)) <;> intro h <;> simp [ig] at h <;> (try subst h) <;> rfl
 have hxl:∀ (k:Nat) (zs:List Int),(ig n c)[k]?=some zs->(Ck n c)[k]?=some [.tuple (zs.map (Value.int .i64)).toArray]:=fun k zs h=>by
  unfold Ck;rw [List.getElem?_map,h];rfl
 have hst:∃ zs:List Int,(ig n c)[0]?=some zs/\(Array.replicate n (Value.int .i64 0))=(zs.map (Value.int .i64)).toArray:=by
  obtain rfl | rfl | rfl:n=0\/n=1\/n=2:=by omega
  all_goals rcases hc with rfl | rfl <;> exact⟨_,rfl,rfl⟩
 have hb1':∀ x,(w.alloc x).cell? ⟨b1,o1,none⟩=some (.int .i64 (n:Int)):=fun x=>Lib.cell?_alloc_some _ hcl1
 have hb2':∀ x,(w.alloc x).cell? ⟨b2,o2,none⟩=some (.int .i64 (c:Int)):=fun x=>Lib.cell?_alloc_some _ hcl2
 gi_wp2
 gi_loopw [] (fun wr=>∃ (k:Nat) (zs:List Int),(ig n c)[k]?=some zs/\wr.heap[w.heap.size]?=some (.cells (zs.map (Value.int .i64)).toArray 3 (0,0))/\wr.cell? ⟨b1,o1,none⟩=some (.int .i64 (n:Int))/\wr.cell? ⟨b2,o2,none⟩=some (.int .i64 (c:Int))/\w.heap.size < wr.heap.size/\J k wr) (fun wr=>5 - vo (wr.heap[w.heap.size]?))
 case atStart=>
  obtain⟨zs,hz,hzr⟩:=hst
  exact⟨0,zs,hz,by rw [<- hzr];exact heap_alloc_new w _,hb1' _,hb2' _,by simp,hJ 0 _ _ h0 (.of ((Below.refl _ w).alloc (Nat.le_refl _) _))⟩
 case round=>
  obtain⟨k,zs,hz,hblk,k1,k2,ksz,hJk⟩:=hrel
  clear hcl1 hcl2 hb1' hb2' hst hmk h0
  have hzl:=hdl k zs hz
  have hcc:∀ j,j < zs.length->wr.cell? ⟨w.heap.size,0+j,none⟩=some (.int .i64 (zs.getD j 0)):=fun j hj=>by
   rw [Lib.cell_of_heap hblk]
   simp [List.getD,hj]
  have hcl:∀ (w2:World) (v':Value),w2.ownsRow wr.heap.size 3 1 v' n ((zs.take n).map (Value.int .i64))->Below wr.heap.size wr w2->YieldAt (Fw none) m Tryz.prog l #[v'] w2 fun e W'=>F2 w.heap.size N w2 W'/\(W'.heap[w.heap.size]?=w2.heap[w.heap.size]?/\w2.heap.size<=W'.heap.size)/\((e=Ending.returned (Value.bool true)/\J (k+1) W')\/(e=Ending.returned (Value.bool false)/\Jx W')):=fun w2 v' hown hbel=>by
   refine hY k _ [v'] wr w2 (hxl k zs hz) hJk ksz (.of hbel) rfl fun j a b ha hb=>?_
   match j with
   | 0=>
    simp only [List.getElem?_cons_zero,Option.some.injEq] at ha hb
    subst ha;subst hb
    show aH w2 _ (.sl _) v'
    rw [List.take_of_length_le (by omega)] at hown
    obtain⟨_,⟨rfl,h0⟩ | ⟨g,cap,cur,rfl,h1,h2,h3,h4,h5,h6⟩⟩:=hown
    ·have:zs=[]:=List.eq_nil_of_length_eq_zero (by omega)
     subst this
     exact .nil
    ·by_cases h7:n=0
     ·have:zs=[]:=List.eq_nil_of_length_eq_zero (by omega)
      subst this
      subst h7
      exact .nil
     ·have e:n=(((zs.map (Value.int .i64)).toArray.toList.map fun c=>[DC.v c]):List (List DC)).length:=by simp;omega
      rw [e]
      refine aH.sl (sz:=1) (fun i _=>.int .i64 (zs.getD i 0)) (by simp;omega) (by omega) (Array.getElem?_eq_some_iff.1 h2).1 (by omega) (fun r hr=>?_) (by simp;omega) (fun i j hi hj=>?_) (fun i j r d hr hd=>?_)
      ·simp at hr;obtain⟨_,_,rfl⟩:=hr;rfl
      ·simp at hi
       have:j=0:=by omega
       subst this
       rw [Lib.cell_of_heap h2]
       have:(cur.toList.take (n*1))[i]?=some (.int .i64 (zs.getD i 0)):=by rw [h6];simp [List.getD,hi]
       rw [List.getElem?_take] at this
       split at this
       ·simpa using this
       ·cases this
      ·simp only [List.map_map,List.getElem?_map] at hr
       cases hq:zs[i]? with
       | none=>rw [hq] at hr;cases hr
       | some z=>
        rw [hq] at hr
        simp only [Option.map_some,Option.some.injEq] at hr
        subst hr
        match j with
        | 0=>simp at hd;subst hd;rw [show zs.getD i 0=z by simp [List.getD,hq]];exact .v rfl
        | j+1=>simp at hd
   | j+1=>simp at ha
  have Hcc:nC _:=⟨hcc⟩
  have Hcl:nC _:=⟨hcl⟩
  have Hdl:nC _:=⟨hdl⟩
  have Hb:nC _:=⟨hblk⟩
  have HJ:nC _:=⟨And.intro hJ hJx⟩
  clear hY hdl hxl hcc hcl hblk hJ hJx
  gi_wp2_with (gi_at_call 96;refine callsIn_wide.2 ((Tryz.clone_it w.heap.size 0 n n zs wr (by omega) (by omega) Hcc.out).mono ?_);rintro e w2 ⟨v',rfl,hown,hne,hbel⟩;obtain⟨fn,tmps,assign,body,hy,hRd⟩:=Hcl.out w2 v' hown hbel)
  refine hRd.mono ?_
  rintro e W3 ⟨hkept,⟨hsame,hsz3⟩,⟨rfl,hJ3⟩ | ⟨rfl,hJx3⟩⟩
  ·have hsz4:w.heap.size < W3.heap.size:=Nat.lt_of_lt_of_le ksz (Nat.le_trans hbel.size hsz3)
   have hb3:W3.heap[w.heap.size]?=some (.cells (zs.map (Value.int .i64)).toArray 3 (0,0)):=by rw [hsame,hbel.block _ ksz];exact Hb.out
   have m1:W3.cell? ⟨b1,o1,none⟩=some (.int .i64 (n:Int)):=by rw [cell_of_heap ((hkept.2 b1 hb1 hNb1).trans (hbel.block b1 (Nat.lt_trans hb1 ksz)))];exact k1
   have m2:W3.cell? ⟨b2,o2,none⟩=some (.int .i64 (c:Int)):=by rw [cell_of_heap ((hkept.2 b2 hb2 hNb2).trans (hbel.block b2 (Nat.lt_trans hb2 ksz)))];exact k2
   have e1:b1 ≠ w.heap.size:=by omega
   have e2:b2 ≠ w.heap.size:=by omega
   clear k1 k2 hy hRd hkept hsame hsz3 hown hne hbel ksz hJk Hcc Hcl
   have hcases:(n=0/\k=0/\zs=[])\/(n=1/\c=1/\k=0/\zs=[0])\/(n=1/\c=2/\((k=0/\zs=[0])\/(k=1/\zs=[1])))\/(n=2/\c=1/\k=0/\zs=[0,0]) \/
     (n=2/\c=2/\((k=0/\zs=[0,0])\/(k=1/\zs=[0,1])\/(k=2/\zs=[1,0])\/(k=3/\zs=[1,1]))):=by
    obtain rfl | rfl | rfl:n=0\/n=1\/n=2:=by omega
    all_goals rcases hc with rfl | rfl <;> revert hz <;> (rcases k with _ | _ | _ | _ | k) <;> intro hz <;> simp [ig] at hz <;> simp [hz]
   have hfin:∀ W' zs',aW (some w.heap.size) W3 W'->(ig n c)[k+1]?=some zs'->W'.heap[w.heap.size]?=some (.cells (zs'.map (Value.int .i64)).toArray 3 (0,0)) ->
     ∃ (k:Nat) (zs:List Int),(ig n c)[k]?=some zs/\W'.heap[w.heap.size]?=some (.cells (zs.map (Value.int .i64)).toArray 3 (0,0))/\W'.cell? ⟨b1,o1,none⟩=some (.int .i64 (n:Int))/\W'.cell? ⟨b2,o2,none⟩=some (.int .i64 (c:Int))/\w.heap.size < W'.heap.size/\J k W':=fun W' zs' hB hd hh=>
    ⟨k+1,zs',hd,hh,by rw [cell_of_heap (hB.block b1 (by omega) fun e=>e1 (Option.some.inj e).symm)];exact m1,by rw [cell_of_heap (hB.block b2 (by omega) fun e=>e2 (Option.some.inj e).symm)];exact m2,Nat.lt_of_lt_of_le hsz4 hB.size,HJ.out.1 _ _ _ hJ3 hB⟩
   have hend:∀ W',aW (some w.heap.size) W3 W'->J (k+1) W':=fun W' hB=>HJ.out.1 _ _ _ hJ3 hB
   have Hfin:nC _:=⟨hfin⟩
   have Hend:nC _:=⟨hend⟩
   have hc0:∀ z zs',zs=z::zs'->W3.cell? ⟨w.heap.size,0,none⟩=some (.int .i64 z):=fun z zs' e=>by rw [Lib.cell_of_heap hb3,e];rfl
   have hc1:∀ y z zs',zs=y::z::zs'->W3.cell? ⟨w.heap.size,1,none⟩=some (.int .i64 z):=fun y z zs' e=>by rw [Lib.cell_of_heap hb3,e];rfl
   have f0:W3.frozen? ⟨w.heap.size,0,none⟩=false:=frz hb3 0
   have f1:W3.frozen? ⟨w.heap.size,1,none⟩=false:=frz hb3 1
   have Hb3:nC _:=⟨hb3⟩
   clear hfin hend hb3 hJ3 HJ e1 e2 hz
   obtain⟨rfl,rfl,rfl⟩ | ⟨rfl,rfl,rfl,rfl⟩ | ⟨rfl,rfl,⟨rfl,rfl⟩ | ⟨rfl,rfl⟩⟩ | ⟨rfl,rfl,rfl,rfl⟩ | ⟨rfl,rfl,⟨rfl,rfl⟩ | ⟨rfl,rfl⟩ | ⟨rfl,rfl⟩ | ⟨rfl,rfl⟩⟩:=hcases
   ·clear hc0 hc1
    gi_wp2
    refine wpIn_loop_rounds 3 ?_
    repeat (rw [roundsIn_succ];gi_wp2;gi_region;gi_wp2)
    all_goals refine bodyPost_ret (results_none rfl _ _ _) rfl ?_
    all_goals exact⟨⟨_,rfl⟩,.inl (Hend.out _ (by repeat (first | exact aW.rf | apply aW.setC | apply aW.drw)))⟩
   ·have c0:=hc0 _ _ rfl
    clear hc0 hc1
    gi_wp2
    refine wpIn_loop_rounds 3 ?_
    repeat (rw [roundsIn_succ];gi_wp2;gi_region;gi_wp2)
    all_goals refine bodyPost_ret (results_none rfl _ _ _) rfl ?_
    all_goals exact⟨⟨_,rfl⟩,.inl (Hend.out _ (by repeat (first | exact aW.rf | apply aW.setC | apply aW.drw)))⟩
   ·have c0:=hc0 _ _ rfl
    clear hc0 hc1
    gi_wp2
    refine wpIn_loop_rounds 3 ?_
    repeat (rw [roundsIn_succ];gi_wp2;gi_region;gi_wp2)
    refine⟨?_,?_⟩
    ·(repeat apply Exists.intro)
     refine⟨Hfin.out _ _ (by repeat (first | exact aW.rf | apply aW.setC | apply aW.drw)) rfl ?_,rfl⟩
     first | exact cp Hb3.out _ | exact cp (cp Hb3.out _) _
    ·refine (fun W' (h:W'.heap[w.heap.size]?=some (.cells (([1]:List Int).map (Value.int .i64)).toArray 3 (0,0)))=>show 5 - vo (World.heap W')[w.heap.size]? < 5 - vo (wr.heap[w.heap.size]?) by rw [h,Hb.out];simp [vo]) _ ?_
     first | exact cp Hb3.out _ | exact cp (cp Hb3.out _) _
   ·have c0:=hc0 _ _ rfl
    clear hc0 hc1
    gi_wp2
    refine wpIn_loop_rounds 3 ?_
    repeat (rw [roundsIn_succ];gi_wp2;gi_region;gi_wp2)
    all_goals refine bodyPost_ret (results_none rfl _ _ _) rfl ?_
    all_goals exact⟨⟨_,rfl⟩,.inl (Hend.out _ (by repeat (first | exact aW.rf | apply aW.setC | apply aW.drw)))⟩
   ·have c0:=hc0 _ _ rfl
    have c1:=hc1 _ _ _ rfl
    clear hc0 hc1
    gi_wp2
    refine wpIn_loop_rounds 3 ?_
    repeat (rw [roundsIn_succ];gi_wp2;gi_region;gi_wp2)
    all_goals refine bodyPost_ret (results_none rfl _ _ _) rfl ?_
    all_goals exact⟨⟨_,rfl⟩,.inl (Hend.out _ (by repeat (first | exact aW.rf | apply aW.setC | apply aW.drw)))⟩
   ·have c0:=hc0 _ _ rfl
    have c1:=hc1 _ _ _ rfl
    clear hc0 hc1
    gi_wp2
    refine wpIn_loop_rounds 3 ?_
    repeat (rw [roundsIn_succ];gi_wp2;gi_region;gi_wp2)
    refine⟨?_,?_⟩
    ·(repeat apply Exists.intro)
     refine⟨Hfin.out _ _ (by repeat (first | exact aW.rf | apply aW.setC | apply aW.drw)) rfl ?_,rfl⟩
     first | exact cp Hb3.out _ | exact cp (cp Hb3.out _) _
    ·refine (fun W' (h:W'.heap[w.heap.size]?=some (.cells (([0,1]:List Int).map (Value.int .i64)).toArray 3 (0,0)))=>show 5 - vo (World.heap W')[w.heap.size]? < 5 - vo (wr.heap[w.heap.size]?) by rw [h,Hb.out];simp [vo]) _ ?_
     first | exact cp Hb3.out _ | exact cp (cp Hb3.out _) _
   ·have c0:=hc0 _ _ rfl
    have c1:=hc1 _ _ _ rfl
    clear hc0 hc1
    gi_wp2
    refine wpIn_loop_rounds 3 ?_
    repeat (rw [roundsIn_succ];gi_wp2;gi_region;gi_wp2)
    refine⟨?_,?_⟩
    ·(repeat apply Exists.intro)
     refine⟨Hfin.out _ _ (by repeat (first | exact aW.rf | apply aW.setC | apply aW.drw)) rfl ?_,rfl⟩
     first | exact cp Hb3.out _ | exact cp (cp Hb3.out _) _
    ·refine (fun W' (h:W'.heap[w.heap.size]?=some (.cells (([1,0]:List Int).map (Value.int .i64)).toArray 3 (0,0)))=>show 5 - vo (World.heap W')[w.heap.size]? < 5 - vo (wr.heap[w.heap.size]?) by rw [h,Hb.out];simp [vo]) _ ?_
     first | exact cp Hb3.out _ | exact cp (cp Hb3.out _) _
   ·have c0:=hc0 _ _ rfl
    have c1:=hc1 _ _ _ rfl
    clear hc0 hc1
    gi_wp2
    refine wpIn_loop_rounds 3 ?_
    repeat (rw [roundsIn_succ];gi_wp2;gi_region;gi_wp2)
    refine⟨?_,?_⟩
    ·(repeat apply Exists.intro)
     refine⟨Hfin.out _ _ (by repeat (first | exact aW.rf | apply aW.setC | apply aW.drw)) rfl ?_,rfl⟩
     first | exact cp Hb3.out _ | exact cp (cp Hb3.out _) _
    ·refine (fun W' (h:W'.heap[w.heap.size]?=some (.cells (([1,1]:List Int).map (Value.int .i64)).toArray 3 (0,0)))=>show 5 - vo (World.heap W')[w.heap.size]? < 5 - vo (wr.heap[w.heap.size]?) by rw [h,Hb.out];simp [vo]) _ ?_
     first | exact cp Hb3.out _ | exact cp (cp Hb3.out _) _
   ·have c0:=hc0 _ _ rfl
    have c1:=hc1 _ _ _ rfl
    clear hc0 hc1
    gi_wp2
    refine wpIn_loop_rounds 3 ?_
    repeat (rw [roundsIn_succ];gi_wp2;gi_region;gi_wp2)
    all_goals refine bodyPost_ret (results_none rfl _ _ _) rfl ?_
    all_goals exact⟨⟨_,rfl⟩,.inl (Hend.out _ (by repeat (first | exact aW.rf | apply aW.setC | apply aW.drw)))⟩
  ·gi_wp2
   refine bodyPost_ret (results_none rfl _ _ _) rfl ?_
   exact⟨⟨_,rfl⟩,.inr hJx3⟩
end Go.Proofs
