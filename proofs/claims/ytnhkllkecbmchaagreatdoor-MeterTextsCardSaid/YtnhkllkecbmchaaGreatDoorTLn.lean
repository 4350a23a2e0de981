/- Lines of a text, as the library hands them over. -/
import Derived.RangeFuncKeeps
import Derived.RangeFuncLeaves
import Derived.Shelf.Abstract
import Derived.WalkKit
import Derived.OwnWalkIn
import Derived.TacticsInMore
import Derived.LoopNIn
import Derived.LoopIn
import Derived.Lib.Bytealg
import Derived.Shelf.Strings.Search1
import Derived.Test.YtnhkllkecbmchaaGreatDoorAMb
import Derived.Test.YtnhkllkecbmchaaGreatDoorLT4
import Derived.Test.YtnhkllkecbmchaaGreatDoorProg
namespace Go.Proofs
open Go.RowKit Go.Shelf
attribute [local go_sem] Oper.semAt_some
set_option maxRecDepth 100000 in
theorem Tryz.lib_indexByte (s:ByteArray)(c:Int)(w:World) :
  Calls Tryz.prog 247 #[.string s,.int .u8 c] w fun e w'=>e=.returned (.int .i64 (Lib.indexByte s.data.toList c.toNat.toUInt8))/\w'=w:=by
 go_enter Tryz.func247,Tryz.ntmps247
 go_wp2
 rw [run_callFunc_extern Tryz.func302 (by kernel_rfl) (by kernel_rfl) (by kernel_rfl) (e:=Extern.BytealgIndexByte.indexByte) (by kernel_rfl),Lib.run_indexByteString]
 simp only [Result.andThen]
 rw [Oper.upon_value]
 go_wp2
 go_ret
 exact⟨rfl,rfl⟩
set_option maxRecDepth 100000 in
theorem Tryz.indexByte (s:ByteArray)(c:Int)(w:World) :
  Calls Tryz.prog 177 #[.string s,.int .u8 c] w fun e w'=>e=.returned (.int .i64 (Lib.indexByte s.data.toList c.toNat.toUInt8))/\w'=w:=by
 go_enter Tryz.func177,Tryz.ntmps177
 go_wp2_with (go_at_call 247;refine (Tryz.lib_indexByte _ _ _).mono ?_;rintro e w' ⟨rfl,rfl⟩)
 go_ret
 exact⟨rfl,rfl⟩
theorem Tryz.lines_it:Go.AM.ItOk Tryz.prog 87 176:=fun s w=>by
 go_enter Tryz.func87,Tryz.ntmps87
 go_wp2
 go_ret
 exact⟨9,rfl,(Below.refl _ w).alloc (Nat.le_refl _) _,heap_alloc_new w _⟩
end Go.Proofs
namespace Go.Proofs
open Go.RowKit Go.Shelf Go.AM Go.LT
attribute [local go_sem] Oper.semAt_some
def leftS (b:Nat)(w:World):Nat:=match w.cell? ⟨b,0,none⟩ with
 | some (Value.string s)=>s.size
 | _=>0
theorem below_set (w:World)(b:Nat)(v:Value):BelowO (some b) w (w.setCell ⟨b,0,none⟩ v):=
 ⟨rfl,rfl,rfl,by simp [World.setCell],fun k _ hk=>Below.heap_setCell w _ _ k fun e=>hk (by rw [e])⟩
theorem below_set_drew (w:World)(b:Nat)(v:Value):BelowO (some b) w (w.setCell ⟨b,0,none⟩ v).drew:=
 ⟨rfl,rfl,rfl,by simp [World.setCell,World.drew],fun k _ hk=>Below.heap_setCell w _ _ k fun e=>hk (by rw [e])⟩
def lineVs (l:List UInt8):List (List Value):=(linesL l).map fun x=>[.string ⟨x.toArray⟩]
theorem bytes_ext {s t:ByteArray}(h:s.data.toList=t.data.toList):s=t:=by
 cases s;cases t
 simp only at h
 congr
 exact Array.ext' h
set_option maxRecDepth 100000 in
set_option maxHeartbeats 1000000 in
theorem Tryz.lines_run (s:ByteArray)(hs:s.size<=9223372036854775806)(w:World)(N:Nat->Prop)(b:Nat)(t:TypeId)(hNb:¬ N b)(hblk:w.heap[b]?=some (.cells #[.string s] t (0,0))) :
  IterRun Tryz.prog 176 #[.pointer (some ⟨b,0,none⟩)] (some b) (lineVs s.data.toList) w N:=by
 intro l J Jx n hJ hJx hY h0
 refine callsIn_wide (n:=n+1).1 (callsIn_of_wp Tryz.func176 rfl trivial ?_)
 simp only [Tryz.ntmps176,List.size_toArray,List.length_cons,List.length_nil,Nat.reduceAdd,Nat.reduceSub,Array.replicate_succ,Array.replicate_zero,List.push_toArray,List.append_toArray,List.nil_append,List.cons_append]
 have hblt:=(Array.getElem?_eq_some_iff.1 hblk).1
 gi_wp2
 gi_loopw [] (fun wr=>∃ (i:Nat) (s':ByteArray),wr.heap[b]?=some (.cells #[.string s'] t (0,0))/\s'.size<=9223372036854775806/\(lineVs s.data.toList).drop i=lineVs s'.data.toList/\i+(lineVs s'.data.toList).length=(lineVs s.data.toList).length/\w.heap.size<=wr.heap.size/\J i wr) (fun wr=>leftS b wr)
 case atStart=>exact⟨0,s,hblk,hs,rfl,by simp,Nat.le_refl _,h0⟩
 case round=>
  obtain⟨i,s',hb,hss,hdrop,hlen,hsz,hJi⟩:=hrel
  have hc:wr.cell? ⟨b,0,none⟩=some (.string s'):=by rw [Lib.cell_of_heap hb];rfl
  have hf:wr.frozen? ⟨b,0,none⟩=false:=Lib.frozen_of_heap hb 0
  clear hblk h0
  by_cases h0:s'.size=0
  ·gi_wp2
   go_end0
   have he:s'.data.toList=[]:=List.eq_nil_of_length_eq_zero (by simpa using h0)
   rw [he] at hlen
   simp only [lineVs,linesL_nil,List.map_nil,List.length_nil,Nat.add_zero] at hlen
   subst hlen
   exact⟨⟨_,rfl⟩,.inl (by simpa [lineVs] using hJi)⟩
  ·have hpos:0 < s'.size:=by omega
   have hleft:leftS b wr=s'.size:=by simp [leftS,hc]
   have hsl:s'.data.toList.length=s'.size:=by simp
   rcases idx_cases s'.data.toList 10 with hk | ⟨k,hk⟩
   ·have hI:∀ W,Calls Tryz.prog 177 #[.string s',.int .u8 10] W fun e w'=>e=.returned (.int .i64 (-1))/\W=w':=fun W=>by
     have:=Tryz.indexByte s' 10 W
     rw [show Lib.indexByte s'.data.toList (10:Int).toNat.toUInt8=-1 from hk] at this
     exact this.mono fun _ _ h=>⟨h.1,h.2.symm⟩
    have hll:s'.data.toList ≠ []:=by intro e;rw [e] at hsl;simp at hsl;omega
    have hln:lineVs s'.data.toList=[[.string s']]:=by
     rw [lineVs,linesL_none hk hll];simp
    have hx:(lineVs s.data.toList)[i]?=some [.string s']:=by
     have:=congrArg (fun q=>q[0]?) hdrop
     simpa [hln] using this
    have hb2:=one_setCell (u:=.string ⟨#[]⟩) hb
    have hJ2:J i (wr.setCell ⟨b,0,none⟩ (.string ⟨#[]⟩)):=hJ _ _ _ hJi (below_set wr b _)
    obtain⟨fn,tmps,assign,body,hy,hR⟩:=hY i _ _ hx hJ2
    gi_wp2_with (refine⟨trivial,?_⟩;gi_at_call 177;refine (callsIn_wide.2 (hI _)).mono ?_;rintro e w' ⟨rfl,rfl⟩)
    refine hR.mono ?_
    rintro e W3 ⟨hkept,⟨rfl,hJ3⟩ | ⟨rfl,hJx3⟩⟩
    ·have hb3:W3.heap[b]?=some (.cells #[.string ⟨#[]⟩] t (0,0)):=by rw [hkept.2 b hblt hNb];exact hb2
     have hsz3:w.heap.size<=W3.heap.size:=Nat.le_trans hsz (Nat.le_trans (by simp [World.setCell]) hkept.1)
     gi_wp2
     refine⟨⟨i+1,⟨#[]⟩,hb3,by decide,?_,?_,hsz3,hJ3⟩,?_⟩
     ·have:=congrArg (List.drop 1) hdrop
      rw [List.drop_drop,hln] at this
      simpa [lineVs,linesL_nil] using this
     ·rw [hln] at hlen
      simpa [lineVs,linesL_nil] using hlen
     ·rw [hleft]
      simp only [leftS,Lib.cell_of_heap hb3]
      exact hpos
    ·gi_wp2
     refine bodyPost_ret (results_none rfl _ _ _) rfl ?_
     exact⟨⟨_,rfl⟩,.inr hJx3⟩
   ·have hI:∀ W,Calls Tryz.prog 177 #[.string s',.int .u8 10] W fun e w'=>e=.returned (.int .i64 k)/\W=w':=fun W=>by
     have:=Tryz.indexByte s' 10 W
     rw [show Lib.indexByte s'.data.toList (10:Int).toNat.toUInt8=k from hk] at this
     exact this.mono fun _ _ h=>⟨h.1,h.2.symm⟩
    obtain⟨hkl,hlk⟩:=linesL_at hk
    rw [hsl] at hkl
    have hk0:¬ ((k:Int) < 0):=by omega
    have hkw:IntKind.i64.wrap ((k:Int)+1)=(k:Int)+1:=by rw [IntKind.wrap_i64];omega
    have hkn:((k:Int)+1).toNat=k+1:=by omega
    have hk1:(0:Int)<=(k:Int)+1:=by omega
    have hk2:(k:Int)+1<=(s'.size:Int):=by omega
    have hk3:k+1<=s'.size:=by omega
    gi_wp2_with (refine⟨trivial,?_⟩;gi_at_call 177;refine (callsIn_wide.2 (hI _)).mono ?_;rintro e w' ⟨rfl,rfl⟩)
    gi_region
    have hb2:(wr.setCell ⟨b,0,none⟩ (.string (s'.extract (k+1) s'.size))).drew.heap[b]?=some (.cells #[.string (s'.extract (k+1) s'.size)] t (0,0)):=one_setCell (u:=.string (s'.extract (k+1) s'.size)) hb
    have hJ2:J i (wr.setCell ⟨b,0,none⟩ (.string (s'.extract (k+1) s'.size))).drew:=hJ _ _ _ hJi (below_set_drew wr b _)
    have hlv:lineVs s'.data.toList=[.string (s'.extract 0 (k+1))]::lineVs (s'.extract (k+1) s'.size).data.toList:=by
     have e1:s'.extract 0 (k+1)=⟨(s'.data.toList.take (k+1)).toArray⟩:=bytes_ext (by rw [Lib.extract_data];simp)
     have e2:(s'.extract (k+1) s'.size).data.toList=s'.data.toList.drop (k+1):=by
      rw [Lib.extract_data,List.take_of_length_le]
      rw [List.length_drop,hsl]
      exact Nat.le_refl _
     rw [e1,e2]
     unfold lineVs
     rw [hlk]
     rfl
    have hx:(lineVs s.data.toList)[i]?=some [.string (s'.extract 0 (k+1))]:=by
     have:=congrArg (fun q=>q[0]?) hdrop
     rw [hlv] at this
     simpa using this
    obtain⟨fn,tmps,assign,body,hy,hR⟩:=hY i _ _ hx hJ2
    gi_wp2
    refine hR.mono ?_
    rintro e W3 ⟨hkept,⟨rfl,hJ3⟩ | ⟨rfl,hJx3⟩⟩
    ·have hb3:W3.heap[b]?=some (.cells #[.string (s'.extract (k+1) s'.size)] t (0,0)):=by rw [hkept.2 b hblt hNb];exact hb2
     have hsz3:w.heap.size<=W3.heap.size:=Nat.le_trans hsz (Nat.le_trans (by simp [World.setCell,World.drew]) hkept.1)
     have hxs:(s'.extract (k+1) s'.size).size=s'.size - (k+1):=by
      rw [Lib.size_eq,Lib.extract_data,List.length_take,List.length_drop,hsl]
      omega
     gi_wp2
     refine⟨⟨i+1,_,hb3,by rw [hxs];omega,?_,?_,hsz3,hJ3⟩,?_⟩
     ·have:=congrArg (List.drop 1) hdrop
      rw [List.drop_drop,hlv] at this
      simpa using this
     ·rw [hlv] at hlen
      simp only [List.length_cons] at hlen
      omega
     ·rw [hleft]
      simp only [leftS,Lib.cell_of_heap hb3]
      show (s'.extract (k+1) s'.size).size < s'.size
      rw [hxs];omega
    ·gi_wp2
     refine bodyPost_ret (results_none rfl _ _ _) rfl ?_
     exact⟨⟨_,rfl⟩,.inr hJx3⟩
def qLines (s:ByteArray):Option (List (List Value)):=if s.size<=9223372036854775806 then some (lineVs s.data.toList) else none
theorem Tryz.lines_iter {s:ByteArray}{xs:List (List Value)}(h:qLines s=some xs):IterOk Tryz.prog 176 [.mref [.v (.string s)] 0] xs:=by
 unfold qLines at h
 split at h
 ·rename_i hs
  simp only [Option.some.injEq] at h
  subst h
  refine⟨fun vs e=>?_,fun hno=>(hno _ _ rfl).elim⟩
  have hv:vs=[.string s]:=by
   simp only [List.cons.injEq,DC.mref.injEq,and_true] at e
   cases vs with
   | nil=>simp at e
   | cons v r=>
    simp only [List.map_cons,List.cons.injEq,DC.v.injEq] at e
    obtain⟨rfl,e2⟩:=e
    cases r with
    | nil=>rfl
    | cons _ _=>simp at e2
  subst hv
  refine⟨fun x hx v hv=>?_,fun w N b t hN hl hg hNb hgb hblk=>Tryz.lines_run s hs w N b t hNb hblk⟩
  unfold lineVs at hx
  obtain⟨y,_,rfl⟩:=List.mem_map.1 hx
  simp only [List.mem_singleton] at hv
  subst hv
  rfl
 ·cases h
end Go.Proofs
