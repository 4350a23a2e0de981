/- slices.Clip, and the pairs of a slice from the last one on, as the program's library hands them over. -/
import Derived.RangeFuncKeeps
import Derived.RangeFuncLeaves
import Derived.Shelf.Abstract
import Derived.WalkKit
import Derived.OwnWalkIn
import Derived.TacticsInMore
import Derived.LoopNIn
import Derived.LoopIn
import Derived.Test.YtmcplmhohldpjaaGreatAMc
import Derived.Test.YtmcplmhohldpjaaGreatProg
namespace Go.AM
structure nC (p:Prop):Prop where
 out:p
abbrev rP2 (p:Int × Int):List DC:=[.v (.int .i64 p.1),.v (.int .i64 p.2)]
def zx (l:List (Int × Int)):List (List Value):=l.zipIdx.reverse.map fun p=>[.int .i64 (p.2:Nat),.agg #[.int .i64 p.1.1,.int .i64 p.1.2]]
theorem QO (l:List (Int × Int)):(zx l).length=l.length:=by simp [zx]
theorem QX {l:List (Int × Int)}{i:Nat}(h:i < l.length):∃ p,l[l.length - 1 - i]?=some p/\(zx l)[i]?=some [.int .i64 ((l.length - 1 - i:Nat):Int),.agg #[.int .i64 p.1,.int .i64 p.2]]:=by
 have h1:l.length - 1 - i < l.length:=by omega
 refine⟨l[l.length - 1 - i]'h1,List.getElem?_eq_getElem h1,?_⟩
 unfold zx
 rw [List.getElem?_map,List.getElem?_reverse (by simpa using h),List.length_zipIdx,List.getElem?_zipIdx,List.getElem?_eq_getElem h1]
 simp
end Go.AM
namespace Go.Proofs
open Go.RowKit Go.Shelf Go.AM
attribute [local go_sem] Oper.semAt_some
theorem Tryz.clip_it (a:Option Addr)(l c:Nat)(hc:l<=c)(w:World):Calls Tryz.prog 61 #[.slice a l c] w fun e w'=>e=.returned (.slice a l l)/\Below w.heap.size w w':=by
 go_enter Tryz.func61,Tryz.ntmps61
 go_wp2
 go_ret
 exact⟨rfl,Below.refl _ w⟩
theorem Tryz.clip_contract (rows:List (List DC)):dc Tryz.prog 61 [(false,[.sl rows])] [(false,[.d (.csl rows)])]:=by
 intro w vs N bs is hN hnd ha hl hg
 obtain⟨l,rfl⟩:∃ l:List Value,vs=l.toArray:=⟨vs.toList,by simp⟩
 match l,ha with
 | [v],ha=>
  simp only [fw,bY] at ha
  obtain⟨⟨x,hx,hd⟩,rfl,rfl⟩:=ha
  simp only [List.cons.injEq,and_true] at hx
  subst hx
  obtain⟨a,c,rfl,hc,hd'⟩:∃ a c,v=.slice a rows.length c/\rows.length<=c/\aH w N (.sl rows) (.slice a rows.length rows.length):=by
   cases hd with
   | nil=>exact⟨_,_,rfl,Nat.zero_le _,.nil⟩
   | sl f hne hN hb hsz hl hcap hc hd=>exact⟨_,_,rfl,hcap,.sl f hne hN hb hsz hl (Nat.le_refl _) hc hd⟩
  refine (Tryz.clip_it a rows.length c hc w).mono ?_
  rintro e w' ⟨rfl,hb⟩
  refine⟨_,[],rfl,⟨hb.os,hb.tape,hb.output,hb.size,fun k hk _=>hb.block k hk⟩,rfl,#[.slice a rows.length rows.length],fun _ _=>none,rfl,rfl,fun i x u hx hu=>?_,⟨fun i j b h=>by simp at h,fun i j i' j' b h=>by simp at h⟩⟩
  match i with
  | 0=>
   simp at hx hu
   subst hx;subst hu
   exact⟨_,rfl,aH.csl (hd'.mono hb.size (fun b hb' _=>hb.block b hb') (fun b hb' h=>by simpa [gE] using h))⟩
  | i+1=>simp at hx
set_option maxRecDepth 100000 in
set_option maxHeartbeats 1000000 in
theorem Tryz.back_run (ps:List (Int × Int))(hps:ps.length<=1000000):xV Tryz.prog 112 [.cref [.sl (ps.map rP2)] 0] (zx ps):=by
 refine⟨fun x hx v hv=>?_,fun w N lb hN hL hg hlen hrel=>?_⟩
 ·unfold zx at hx
  obtain⟨p,_,rfl⟩:=List.mem_map.1 hx
  simp at hv
  rcases hv with rfl | rfl <;> rfl
 obtain⟨v,rfl⟩:∃ v,lb=#[v]:=by
  match lb,hlen with
  | ⟨[v]⟩,_=>exact⟨v,rfl⟩
 have h:=hrel 0 _ v rfl rfl
 clear hrel hlen
 cases h with
 | @cref cs b o off f hNb hb hc hd=>
 have hcl:=hc 0 (by simp)
 have hsl:=hd 0 _ rfl
 clear hc hd
 generalize f 0=sv at hcl hsl
 clear f
 -- where the pairs lie
 obtain⟨ad,cap,rfl,hcell⟩:∃ ad cap,sv=.slice ad ps.length cap/\∀ (i:Nat) (p:Int × Int),ps[i]?=some p->∃ bk ok,ad=some ⟨bk,ok,none⟩/\bk < w.heap.size/\¬ N bk/\w.cell? ⟨bk,ok+i*2,none⟩=some (.int .i64 p.1)/\w.cell? ⟨bk,ok+i*2+1,none⟩=some (.int .i64 p.2):=by
  generalize hrows:ps.map rP2=rows at hsl
  cases hsl with
  | @nil a cap=>
   have:ps=[]:=by
    cases ps with
    | nil=>rfl
    | cons=>simp at hrows
   subst this
   exact⟨_,_,rfl,fun i p h=>by simp at h⟩
  | @sl rows bk ok cap sz fv hne hNk hbk hsz hl hcap hck hdk=>
   subst hrows
   refine⟨_,_,by rw [List.length_map],fun i p hp=>⟨bk,ok,rfl,hbk,hNk,?_⟩⟩
   have hi:=(List.getElem?_eq_some_iff.1 hp).1
   have hrow:(ps.map rP2)[i]?=some (rP2 p):=by rw [List.getElem?_map,hp];rfl
   have hsz2:sz=2:=(hl _ (List.mem_of_getElem? hrow)).symm
   subst hsz2
   have d0:=hdk i 0 _ _ hrow rfl
   have d1:=hdk i 1 _ _ hrow rfl
   have c0:=hck i 0 (by simpa using hi) (by omega)
   have c1:=hck i 1 (by simpa using hi) (by omega)
   generalize fv i 0=x0 at d0 c0
   generalize fv i 1=x1 at d1 c1
   cases d0
   cases d1
   exact⟨c0,c1⟩
 clear hsl
 intro l J Jx n hJ hJx hY h0
 refine callsIn_wide (n:=n+1).1 (callsIn_of_wp Tryz.func112 rfl trivial ?_)
 simp only [Tryz.ntmps112,List.size_toArray,List.length_cons,List.length_nil,Nat.reduceAdd,Nat.reduceSub,Array.replicate_succ,Array.replicate_zero,List.push_toArray,List.append_toArray,List.nil_append,List.cons_append,Nat.add_zero]
 simp only [Nat.add_zero] at hcl
 have hlw:IntKind.i64.wrap ((ps.length:Int) - 1)=(ps.length:Int) - 1:=by rw [IntKind.wrap_i64];omega
 gi_wp2
 gi_loopw [3] (fun vi wr=>∃ i:Nat,vi=.int .i64 ((ps.length:Int) - 1 - (i:Int))/\i<=ps.length/\wr.cell? ⟨b,o,none⟩=some (.slice ad ps.length cap)/\(∀ (i:Nat) (p:Int × Int),ps[i]?=some p->∃ bk ok,ad=some ⟨bk,ok,none⟩/\bk < w.heap.size/\¬ N bk/\wr.cell? ⟨bk,ok+i*2,none⟩=some (.int .i64 p.1)/\wr.cell? ⟨bk,ok+i*2+1,none⟩=some (.int .i64 p.2))/\w.heap.size<=wr.heap.size/\J i wr) (fun vi _=>(intOf vi+1).toNat)
 case atStart=>exact⟨0,by rw [Int.natCast_zero,Int.sub_zero],Nat.zero_le _,hcl,hcell,Nat.le_refl _,h0⟩
 case round=>
  obtain⟨i,rfl,hi,k0,kc,ksz,hJi⟩:=hrel
  clear hcl hcell h0
  by_cases hlt:i < ps.length
  ·obtain⟨p,hp,hx⟩:=QX hlt
   obtain⟨bk,ok,rfl,hbk,hNk,c0,c1⟩:=kc _ p hp
   have hcond:(0:Int)<=(ps.length:Int) - 1 - (i:Int):=by omega
   have hidx:(ps.length:Int) - 1 - (i:Int)=((ps.length - 1 - i:Nat):Int):=by omega
   obtain⟨fn,tmps,assign,body,hy,hRd⟩:=hY i _ wr hx hJi
   have hwr:IntKind.i64.wrap ((ps.length:Int) - 1 - (i:Int) - 1)=(ps.length:Int) - 1 - ((i+1:Nat):Int):=by rw [IntKind.wrap_i64];omega
   have Hk:nC _:=⟨kc⟩
   clear kc
   rw [hidx] at *
   generalize hT:ps.length - 1 - i=T at *
   have hTl:T < ps.length:=by omega
   have hTc:((T:Nat):Int) < (ps.length:Int):=by omega
   gi_wp2
   refine hRd.mono ?_
   rintro e W3 ⟨hkept,⟨rfl,hJ3⟩ | ⟨rfl,hJx3⟩⟩
   ·have kb:=hkept.2 b hb hNb
    have m0:W3.cell? ⟨b,o,none⟩=some (.slice (some ⟨bk,ok,none⟩) ps.length cap):=by rw [cell_of_heap kb];exact k0
    have mc:nC (∀ (i:Nat) (p:Int × Int),ps[i]?=some p->∃ bk' ok',some (⟨bk,ok,none⟩:Addr)=some ⟨bk',ok',none⟩/\bk' < w.heap.size/\¬ N bk'/\W3.cell? ⟨bk',ok'+i*2,none⟩=some (.int .i64 p.1)/\W3.cell? ⟨bk',ok'+i*2+1,none⟩=some (.int .i64 p.2)):=⟨fun i' p' h'=>by
     obtain⟨bk',ok',e',h1,h2,h3,h4⟩:=Hk.out i' p' h'
     have kk:=hkept.2 bk' h1 h2
     exact⟨bk',ok',e',h1,h2,by rw [cell_of_heap kk];exact h3,by rw [cell_of_heap kk];exact h4⟩⟩
    have hsz3:w.heap.size<=W3.heap.size:=Nat.le_trans ksz hkept.1
    gi_wp2
    refine⟨⟨i+1,rfl,by omega,m0,mc.out,hsz3,hJ3⟩,?_⟩
    simp only [intOf]
    simp
    omega
   ·gi_wp2
    refine bodyPost_ret (results_none rfl _ _ _) rfl ?_
    exact⟨⟨_,rfl⟩,.inr hJx3⟩
  ·have hcond:¬ (0:Int)<=(ps.length:Int) - 1 - (i:Int):=by omega
   clear kc
   gi_wp2
   go_end0
   have hi':i=ps.length:=by omega
   subst hi'
   exact⟨⟨_,rfl⟩,.inl (by rw [QO];exact hJi)⟩
end Go.Proofs
