/- Texts of one kind, put together. -/
import Derived.RangeFuncKeeps
import Derived.RangeFuncLeaves
import Derived.Shelf.Abstract
import Derived.WalkKit
import Derived.OwnWalkIn
import Derived.TacticsInMore
import Derived.LoopNIn
import Derived.LoopIn
import Derived.Lib.SliceRun
import Derived.Test.YtffcelhcekillaaGreatAMc
import Derived.Test.YtffcelhcekillaaGreatProg
import Derived.Test.YtffcelhcekillaaGreatKMa
namespace Go.Proofs
open Go.RowKit Go.Shelf Go.AM Go.Lib
attribute [local go_sem] Oper.semAt_some
structure aGu (p:Prop):Prop where
 out:p
theorem Tryz.u22:Tryz.prog.underlying 22=some (.slice 52):=by kernel_rfl
theorem Tryz.i52:∃ i,Tryz.prog.info? 52=some i/\i.zero=some (.agg #[.int .i64 0,.int .i64 0,.int .i64 0])/\i.size=3/\i.bytes=24:=⟨(Tryz.prog.info? 52).get (by kernel_rfl),(Option.some_get _).symm,by kernel_rfl,by kernel_rfl,by kernel_rfl⟩
theorem Tryz.clone_nil (n c:Nat)(w:World):Calls Tryz.prog 44 #[.slice none n c] w fun e w'=>e=.returned (.slice none 0 0)/\Below w.heap.size w w':=by
 have q22:∀ (w:World) (a:Option Addr) (n c n' c':Nat),(binOp .eql 22 (.slice a n c) (.slice none n' c')).run Tryz.prog w=.ok (.bool a.isNone) w:=fun w a n c n' c'=>Lib.run_eql_slice_nil w _ _ a n c n' c' Tryz.u22
 go_enter Tryz.func44,Tryz.ntmps44
 go_wp2
 go_ret
 exact⟨rfl,Below.refl _ w⟩
set_option maxHeartbeats 2000000 in
set_option maxRecDepth 100000 in
theorem Tryz.clone_it (ad:Addr)(n c:Nat)(zs:List Int)(w:World)(hz:zs.length=n*3)(hbig:n*24<=140737488355328)(hc:∀ j,j < zs.length->w.cell? (ad.add j)=some (.int .i64 (zs.getD j 0))) :
  Calls Tryz.prog 44 #[.slice (some ad) n c] w fun e w'=>∃ v',e=.returned v'/\w'.ownsRow w.heap.size 52 3 v' n (zs.map (Value.int .i64))/\Below w.heap.size w w':=by
 obtain⟨i0,hi,hz0,hz1,hz2⟩:=Tryz.i52;have A:aGu (∀ j,j < zs.length->w.cell? (ad.add j)=some (.int .i64 (zs.getD j 0))):=⟨hc⟩
 clear hc;have q22:∀ (w:World) (a:Option Addr) (n c n' c':Nat),(binOp .eql 22 (.slice a n c) (.slice none n' c')).run Tryz.prog w=.ok (.bool a.isNone) w:=fun w a n c n' c'=>Lib.run_eql_slice_nil w _ _ a n c n' c' Tryz.u22;have u22:∀ w,Sem.run Tryz.prog (underlying 22) w=.ok (TypeDesc.slice 52) w:=run_underlying Tryz.u22
 go_enter Tryz.func44,Tryz.ntmps44
 go_wp2_with (at_builtin;refine wpList_append_own _ rfl _ _ 22 rfl w.heap.size 52 i0 (.agg #[.int .i64 0,.int .i64 0,.int .i64 0]) 3 24 Tryz.u22 hi hz0 hz1 hz2 rfl (by decide) _ _ _ rfl (World.ownsRow_made w #[] 0 (Nat.le_refl _) (Nat.zero_le _) rfl) ad n c (zs.map (Value.int .i64)) rfl ?qc1 ?qc2 ?qc3 ?qc4 ?qc5 ?qc6 ?_)
 case qc1=>simp;omega
 case qc2=>
  intro j u hj;have hjn:j < zs.length:=by
   have:=(List.getElem?_eq_some_iff.1 hj).1;simpa using this
  refine Lib.cell?_alloc_some _ ?_;rw [A.out j hjn];have e:(zs.map (Value.int .i64))[j]?=some (Value.int .i64 (zs.getD j 0)):=by simp [List.getD,List.getElem?_eq_getElem hjn]
  rw [e] at hj;exact hj
 case qc3=>intro u hu;obtain⟨x,_,rfl⟩:=List.mem_map.1 hu;rfl
 case qc4=>unfold maxLen;omega
 case qc5=>omega
 case qc6=>simp
 intro v' w1 hown hgrow hnil
 go_wp2
 go_ret
 refine⟨v',rfl,by simpa using hown,?_⟩;exact ((Below.refl _ w).alloc (Nat.le_refl _) _).grown hgrow (by simp) (by intro k hk;simp [Value.ownBlock] at hk;omega)
end Go.Proofs
namespace Go.AM
open Go.Proofs
def E9:List DC->Bool
 | [.v (.int .i64 _),.v (.int .i64 _),.v (.int .i64 _)]=>true
 | _=>false
def X5:List DC->List Int
 | [.v (.int .i64 a),.v (.int .i64 b),.v (.int .i64 c)]=>[a,b,c]
 | _=>[]
theorem pZ {r:List DC}(h:E9 r=true):r.length=3/\(X5 r).length=3:=by
 unfold E9 at h;split at h
 ·exact⟨rfl,rfl⟩
 ·cases h
theorem aeZ {r:List DC}(h:E9 r=true){j:Nat}{d:DC}(hj:r[j]?=some d):∃ z,d=.v (.int .i64 z)/\(X5 r)[j]?=some z:=by
 unfold E9 at h;split at h
 ·rename_i a b c
  match j with
  | 0=>simp only [List.getElem?_cons_zero,zaI] at hj;exact⟨a,hj.symm,rfl⟩
  | 1=>simp only [List.getElem?_cons_succ,List.getElem?_cons_zero,zaI] at hj;exact⟨b,hj.symm,rfl⟩
  | 2=>simp only [List.getElem?_cons_succ,List.getElem?_cons_zero,zaI] at hj;exact⟨c,hj.symm,rfl⟩
  | j+3=>simp at hj
 ·cases h
def kV:List (List DC)->List Int
 | []=>[]
 | r::rs=>X5 r++kV rs
theorem Ct:∀ {rows:List (List DC)},rows.all E9=true->(kV rows).length=rows.length*3
 | [],_=>rfl
 | r::rs,h=>by
  simp only [List.all_cons,Bool.and_eq_true] at h;rw [kV,List.length_append,(pZ h.1).2,Ct h.2,List.length_cons];omega
theorem C5:∀ {rows:List (List DC)},rows.all E9=true->∀ {i j:Nat} {r:List DC} {d:DC},rows[i]?=some r->r[j]?=some d->∃ z,d=.v (.int .i64 z)/\(kV rows)[i*3+j]?=some z
 | [],_,i,j,r,d,hi,_=>by simp at hi
 | q::rs,h,i,j,r,d,hi,hj=>by
  simp only [List.all_cons,Bool.and_eq_true] at h;have hl:=(pZ h.1).2;cases i with
  | zero=>
   simp only [List.getElem?_cons_zero,zaI] at hi;subst hi;obtain⟨z,h1,h2⟩:=aeZ h.1 hj;have hj3:j < (X5 q).length:=(List.getElem?_eq_some_iff.1 h2).1;refine⟨z,h1,?_⟩;rw [kV,List.getElem?_append_left (by omega),Nat.zero_mul,Nat.zero_add];exact h2
  | succ i=>
   simp only [List.getElem?_cons_succ] at hi;obtain⟨z,h1,h2⟩:=C5 h.2 hi hj;refine⟨z,h1,?_⟩;rw [kV,List.getElem?_append_right (by omega),hl,show (i+1)*3+j - 3=i*3+j by omega];exact h2
theorem ahw:∀ {rows:List (List DC)},rows.all E9=true->∀ {k:Nat} {z:Int},(kV rows)[k]?=some z->∃ r,rows[k / 3]?=some r/\r[k % 3]?=some (.v (.int .i64 z)):=by
 intro rows h k z hk;have hl:=Ct h;have hk':=(List.getElem?_eq_some_iff.1 hk).1;have hi:k / 3 < rows.length:=by omega
 have hr:E9 (rows[k / 3]'hi)=true:=List.all_eq_true.1 h _ (List.getElem_mem hi);have h3:=(pZ hr).1;have hm:k % 3 < (rows[k / 3]'hi).length:=by omega
 obtain⟨z',e1,e2⟩:=C5 h (i:=k / 3) (j:=k % 3) (List.getElem?_eq_getElem hi) (List.getElem?_eq_getElem hm);rw [show k / 3*3+k % 3=k by omega,hk,zaI] at e2;subst e2;exact⟨_,List.getElem?_eq_getElem hi,by rw [List.getElem?_eq_getElem hm,e1]⟩
end Go.AM
namespace Go.Proofs
open Go.RowKit Go.Shelf Go.AM Go.Lib
theorem Tryz.clone_contract (rows:List (List DC))(ht:rows.all E9=true)(hbig:rows.length*24<=140737488355328):eu Tryz.prog 44 [(false,[.sl rows])] [(false,[.own 3 rows])]:=by
 intro w vs N bs is hN hnd ha;obtain⟨l,rfl⟩:∃ l:List Value,vs=l.toArray:=⟨vs.toList,by simp⟩
 match l,ha with
 | [v],ha=>
  simp only [iv,ci] at ha;obtain⟨⟨x,hx,hd⟩,rfl,rfl⟩:=ha;simp only [List.cons.injEq,and_true] at hx;subst hx;have hlen:=Ct ht;have key:Calls Tryz.prog 44 #[v] w fun e w'=>∃ v',e=.returned v'/\w'.ownsRow w.heap.size 52 3 v' rows.length ((kV rows).map (Value.int .i64))/\Below w.heap.size w w':=by
   cases hd with
   | @nil a cap=>
    cases a with
    | none=>
     refine (Tryz.clone_nil 0 cap w).mono ?_
     rintro e w' ⟨rfl,hb⟩
     exact⟨_,rfl,⟨rfl,Or.inl ⟨rfl,rfl⟩⟩,hb⟩
    | some ad=>exact Tryz.clone_it ad 0 cap [] w rfl (by omega) (fun j hj=>by simp at hj)
   | @sl _ b off cap sz f hne hNb hb hsz hl2 hcap hc hd2=>
    have hs3:sz=3:=by
     have h0:rows[0]?=some (rows[0]'hne):=List.getElem?_eq_getElem hne;have h1:=hl2 _ (List.getElem_mem hne);have h2:=(pZ (List.all_eq_true.1 ht _ (List.getElem_mem hne))).1;omega
    subst hs3;refine Tryz.clone_it ⟨b,off,none⟩ rows.length cap (kV rows) w hlen hbig fun j hj=>?_;obtain⟨z,hz⟩:∃ z,(kV rows)[j]?=some z:=⟨_,List.getElem?_eq_getElem hj⟩
    obtain⟨r,h1,h2⟩:=ahw ht hz;have hi:=(List.getElem?_eq_some_iff.1 h1).1;have hcell:=hc (j / 3) (j % 3) hi (by omega);have hdd:=hd2 (j / 3) (j % 3) r _ h1 h2;rw [show (⟨b,off,none⟩:Addr).add j=⟨b,off+j / 3*3+j % 3,none⟩ by rw [Addr.add_lit];congr 1;omega,hcell];generalize f (j / 3) (j % 3)=u at *;cases hdd with
    | v _=>rw [List.getD_eq_getElem?_getD,hz];rfl
  refine key.mono ?_
  rintro e w' ⟨v',rfl,⟨ho1,ho2⟩,hb⟩
  have hbm:rU (j3 [] []) w w':=⟨hb.os,hb.tape,hb.output,hb.size,fun k hk _=>hb.block k hk⟩
  rcases ho2 with ⟨rfl,hn⟩ | ⟨g,cap,cur,rfl,hge,hh,hcap,hmax,hsz,htk⟩
  ·refine⟨_,[],rfl,hbm,rfl,#[.slice none 0 0],fun _ _=>none,rfl,rfl,fun i x u hx hu=>?_,⟨fun i j b h=>by simp at h,fun i j i' j' b h=>by simp at h⟩⟩
   match i with
   | 0=>
    simp at hx hu;subst hx;subst hu;exact⟨_,rfl,Or.inl ⟨rfl,List.eq_nil_of_length_eq_zero hn,rfl⟩⟩
   | i+1=>simp at hx
  ·have hgs:g < w'.heap.size:=(Array.getElem?_eq_some_iff.1 hh).1
   refine⟨_,[],rfl,hbm,rfl,#[.slice (some ⟨g,0,none⟩) rows.length cap],fun i j=>if i=0/\j=0 then some g else none,rfl,rfl,fun i x u hx hu=>?_,⟨fun i j b h=>?_,fun i j i' j' b h h'=>?_⟩⟩
   ·match i with
    | 0=>
     simp at hx hu;subst hx;subst hu;refine⟨_,rfl,Or.inr ⟨g,0,cap,cur,52,(0,0),rfl,rfl,hh,hcap,hmax,by omega,fun j _ _=>by simp,fun r hr=>(pZ (List.all_eq_true.1 ht r hr)).1,by decide,fun i j r d hi hj=>?_⟩⟩;obtain⟨z,e1,e2⟩:=C5 ht hi hj;have hil:=(List.getElem?_eq_some_iff.1 hi).1;have hz:=(List.getElem?_eq_some_iff.1 e2).1;have hc:(cur.toList.take (rows.length*3))[i*3+j]?=some (Value.int .i64 z):=by rw [htk,List.getElem?_map,e2];rfl
     rw [List.getElem?_take] at hc;refine⟨.int .i64 z,?_,e1 ▸ aX.v rfl⟩;split at hc
     ·rw [Nat.zero_add,<- Array.getElem?_toList];exact hc
     ·cases hc
    | i+1=>simp at hx
   ·by_cases c:i=0/\j=0
    ·simp only [if_pos c,zaI] at h
     subst h;exact⟨Or.inl hge,hgs⟩
    ·simp only [if_neg c] at h;cases h
   ·by_cases c:i=0/\j=0
    ·by_cases c':i'=0/\j'=0
     ·omega
     ·simp only [if_neg c'] at h';cases h'
    ·simp only [if_neg c] at h;cases h
end Go.Proofs

namespace Go.AM.K
open Go.Proofs PT
abbrev aBb:Nat:=8
abbrev ahP:Type 1:=(α:Type)->ae->(ae->Option α)->Option α
def JE (x:ae):Bool:=x.all E9 && decide (x.length*24<=140737488355328)
def Su:ahP:=fun _ x k=>gK (JE x) (k x)
def PO:PT (List DV):=pA [pV false [dL]]
def Py (v:ahP)(α:Type)(k:List RV->Option α):ae->Option α:=fun x=>v α x (fun y=>k [(false,[.own 3 y])])
def r44:List DV->Option (List RV)
 | [(false,[.sl rows])]=>if JE rows=true then some [(false,[.own 3 rows])] else none
 | _=>none
theorem azI:ak Tryz.prog 44 aBb ⟨PO,Py Su⟩:=
 Xj (r:=r44) (fun α k=>by
  unfold Py Su PO;funext x;show gK (JE x) (k [(false,[.own 3 x])])=Option.bind (if JE x=true then some [(false,[.own 3 x])] else none) k;cases JE x <;> rfl) (fun ds res h=>by
  unfold r44 at h;split at h
  ·split at h
   ·rename_i hk
    simp only [zaI] at h;subst h;unfold JE at hk;rw [Bool.and_eq_true] at hk;exact⟨Tryz.clone_contract _ hk.1 (of_decide_eq_true hk.2),Tryz.f44,Tryz.func44,by kernel_rfl,by kernel_rfl⟩
   ·cases h
  ·cases h)
end Go.AM.K
