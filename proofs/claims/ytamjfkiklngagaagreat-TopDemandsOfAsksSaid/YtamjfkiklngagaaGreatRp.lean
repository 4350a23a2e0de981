/- choice and parts: what they come to; parts hands its piece on. -/
import Derived.RangeFuncKeeps
import Derived.RangeFuncLeaves
import Derived.Shelf.Abstract
import Derived.WalkKit
import Derived.OwnWalkIn
import Derived.TacticsInMore
import Derived.LoopNIn
import Derived.LoopIn
import Derived.Test.YtamjfkiklngagaaGreatRa
import Derived.Test.YtamjfkiklngagaaGreatKNa
namespace Go.AM.K
open Go.Proofs Go.RowKit PT
set_option maxRecDepth 100000
set_option linter.unusedVariables false
abbrev nt50:Nat:=36
def sh50:List (Nat × List Sh):=[(6,[.int .i64,.int .i64]),(9,[.int .i64,.int .i64]),(19,[.int .i64]),(22,[.int .i64]),(26,[.int .i64]),(29,[.int .i64])]
def tr50:List (Nat × Tidy):=[(0,⟨[1],true,[],[]⟩),(1,⟨[1,3,4],true,[],[]⟩),(2,⟨[4,11],true,[],[]⟩),(3,⟨[2],true,[],[]⟩),(4,⟨[34],true,[],[]⟩),(5,⟨[2],true,[],[]⟩),(6,⟨[2],true,[],[]⟩)]
def tl50:List (Nat × Tidy):=[]
noncomputable def ac50:ACode:=codeF Tryz.prog Tryz.f50 tr50 tl50
noncomputable def rs50:List AResV:=resF Tryz.prog Tryz.f50
def p50_0_0:PT St:=pS [sl 1 (aV false [(cPtr 1 0)]),sl 3 (aV false [(cD dB)]),sl 4 (aV false [(cD dB)])] [eBox 1 [(cD (dI .i64)),(cD (dI .i64)),(cD (dI .i64)),(cD (dI .i64))]]
def u50_0_0 {β:Type}(g:St->β):Bool->Bool->Int->Int->Int->Int->β:=p50_0_0.unc g
def p50_0_1:PT St:=pS [sl 4 (aV false [(cD dB)]),sl 11 (aV false [(cD dB)])] []
def u50_0_1 {β:Type}(g:St->β):Bool->Bool->β:=p50_0_1.unc g
def pr50_0_0:PT (List RV):=pRs [pR false [rD (dI .i64)]]
def ur50_0_0 {β:Type}(g:List RV->β):Int->β:=pr50_0_0.unc g
def E50_0g (vf76_0:Tf76_0):EnvK:=EnvK.of [⟨76,nt76,[⟨pa76_0,Fn76_0 vf76_0⟩]⟩] noSeq
noncomputable def E50_0:EnvK:=E50_0g f76_0
theorem eo50_0:E50_0.Ok Tryz.prog:=EnvK.of_ok noSeq_ok ⟨⟨io76_0,trivial⟩,trivial⟩
noncomputable def c50_0_7g :MCode:=MCode.sub [1,1,0,0,0] (emb ac50)
noncomputable def c50_0_7:MCode:=c50_0_7g
--CODE 7 0
abbrev TJ50_0_0:Type 1:=(α:Type)->Bool->Bool->Int->Int->Int->Int->(Bool->Option α)->Option α
def J50_0_0g  (α:Type) (x7:Bool) (x8:Bool) (x9:Int) (x10:Int) (x11:Int) (x12:Int) (k1:Bool->Option α):Option α:=
 cK x7
  (cK (!x8)
   (k1 true)
   (k1 (decide ((w64 (x12 - x11))<=(w64 (x10 - x9))))))
  (k1 false)
noncomputable def J50_0_0 (α:Type)(x7:Bool)(x8:Bool)(x9:Int)(x10:Int)(x11:Int)(x12:Int)(k1:Bool->Option α):Option α:=J50_0_0g  α x7 x8 x9 x10 x11 x12 k1
def F50_0_0 (v:TJ50_0_0)(α:Type)(K:Exit->St->Option α):Bool->Bool->Int->Int->Int->Int->Option α:=fun x7 x8 x9 x10 x11 x12=>v α x7 x8 x9 x10 x11 x12 (fun (y1:Bool)=>u50_0_1 (K .normal) x8 y1)
theorem m50_0_0g (vf76_0:Tf76_0)  (α:Type) (K:Exit->St->Option α):F50_0_0 (J50_0_0g ) α K=p50_0_0.unc fun σ=>runM Tryz.prog (E50_0g vf76_0) sh50 (c50_0_7g ) K σ:=by kernel_rfl
theorem m50_0_0:∀ (α:Type) (K:Exit->St->Option α),F50_0_0 J50_0_0 α K=p50_0_0.unc fun σ=>runM Tryz.prog E50_0 sh50 c50_0_7 K σ:=m50_0_0g f76_0
abbrev Tf50_0:Type 1:=(α:Type)->Int->Int->Int->Int->(Int->Option α)->Option α
def f50_0g (vJ50_0_0:TJ50_0_0)(vf76_0:Tf76_0)(α:Type)(x1:Int)(x2:Int)(x3:Int)(x4:Int)(k1:Int->Option α):Option α:=
 vf76_0 α x1 x2
  (fun (x5:Bool)=>vf76_0 α x3 x4
   (fun (x6:Bool)=>vJ50_0_0 α x5 x6 x1 x2 x3 x4
    (fun (x14:Bool)=>cK x14
     (k1 1)
     (cK x6
      (k1 2)
      (k1 0)))))
noncomputable def f50_0 (α:Type)(x1:Int)(x2:Int)(x3:Int)(x4:Int)(k1:Int->Option α):Option α:=f50_0g J50_0_0 f76_0 α x1 x2 x3 x4 k1
def pa50_0:PT (List DV):=pA [pV true [(dI .i64),(dI .i64),(dI .i64),(dI .i64)]]
def Fn50_0 (v:Tf50_0)(α:Type)(k:List RV->Option α):Int->Int->Int->Int->Option α:=fun x1 x2 x3 x4=>v α x1 x2 x3 x4 (fun (y1:Int)=>ur50_0_0 k y1)
noncomputable def cm50_0g (vJ50_0_0:TJ50_0_0):MCode:=(MCode.put (.m [⟨p50_0_0,F50_0_0 vJ50_0_0⟩]) [1,1,0,0] (emb ac50))
noncomputable def cm50_0:MCode:=cm50_0g J50_0_0
theorem gm50_0:cm50_0.Good Tryz.prog E50_0 sh50:=(put_seq (by kernel_rfl) (emb_good ac50) ⟨m50_0_0,trivial⟩)
theorem em50_0:cm50_0.erase=ac50:=((put_erase _ _).trans (emb_erase _))
theorem fm50_0g (vf76_0:Tf76_0)(vJ50_0_0:TJ50_0_0)(α:Type)(k:List RV->Option α):Fn50_0 (f50_0g vJ50_0_0 vf76_0) α k=pa50_0.unc fun ds=>fnM Tryz.prog (E50_0g vf76_0) sh50 (cm50_0g vJ50_0_0) rs50 k ds:=by kernel_rfl
theorem fm50_0:∀ (α:Type) (k:List RV->Option α),Fn50_0 f50_0 α k=pa50_0.unc fun ds=>fnM Tryz.prog E50_0 sh50 cm50_0 rs50 k ds:=fm50_0g f76_0 J50_0_0
theorem is50:FnIs Tryz.prog 50 nt50 tr50 tl50 ac50 rs50:=codeF_is Tryz.func50 (by kernel_rfl)
theorem io50_0:InstOk Tryz.prog 50 nt50 ⟨pa50_0,Fn50_0 f50_0⟩:=inst_ok eo50_0 followsTry is50 ⟨⟨sh50,cm50_0,em50_0,gm50_0,fm50_0⟩⟩
theorem inst_split' {f nt:Nat}{x:Inst}(h:InstOk Tryz.prog f nt x){ds:List DV}(hn:ds.length<=nt){β:Type}{K:List RV->Option β}{r:β}(hd:x.1.dec ds (x.2 β K)=some (some r)) :
  ∃ res,Contract Tryz.prog f ds res/\Bodied Tryz.prog f/\K res=some r:=by
 rcases h.nat (List RV) β some K ds with ⟨o,h1,h2⟩ | ⟨_,h2⟩
 ·have h3:x.1.dec ds (x.2 β K)=some (o.bind K):=h2
  rw [hd] at h3
  have h4:o.bind K=some r:=(Option.some.inj h3).symm
  obtain⟨res,rfl,h5⟩:=Option.bind_eq_some_iff.1 h4
  obtain⟨h6,h7⟩:=h.ok ds res hn h1
  exact⟨res,h6,h7,h5⟩
 ·have h3:x.1.dec ds (x.2 β K)=none:=h2
  rw [hd] at h3;cases h3
theorem calls_of {f:Nat}{ds:List DV}{vs:Array Value}{x:Value}(hC:Contract Tryz.prog f ds [(false,[.d (.v x)])])(ha:∀ w,ArgsRel w (fun _=>False) ds vs)(w:World)(hl:Laid Tryz.prog w) :
  Calls Tryz.prog f vs w fun e w'=>e=.returned x/\Below w.heap.size w w':=by
 refine (hC.plain (N:=fun _=>False) (fun _ h=>h.elim) (ha w) hl fun _ _ h=>h).mono ?_
 rintro e w' ⟨v,rfl,hb,us,ob,e1,e2,e3,_⟩
 have h1:us.size=1:=by simpa using e2.symm
 rw [dif_pos h1] at e1
 obtain⟨c,hc,hr⟩:=e3 0 _ (us[0]'(by omega)) rfl (by simp [h1])
 simp only [List.cons.injEq,and_true] at hc
 subst hc
 have hr:DRel w' _ (.v x) (us[0]'(by omega)):=hr
 generalize us[0]'(by omega)=u at hr e1
 cases hr
 rw [e1]
 exact⟨rfl,hb⟩
theorem args_agg {w:World}{l:List Value}(h:∀ x ∈ l,plain x=true):ArgsRel w (fun _=>False) [(true,l.map .v)] #[.agg l.toArray]:=by
 refine⟨rfl,fun i d v hd hv=>?_⟩
 match i with
 | 0=>
  simp at hd hv;subst hd;subst hv
  refine⟨l.toArray,rfl,by simp,fun j c x hc hx=>?_⟩
  rw [List.getElem?_map] at hc
  have hx':l[j]?=some x:=by simpa using hx
  rw [hx'] at hc
  simp only [Option.map_some,Option.some.injEq] at hc
  subst hc
  exact .v (h x (List.mem_of_getElem? hx'))
 | i+1=>simp at hd
theorem args_vals {w:World}{l:List Value}(h:∀ x ∈ l,plain x=true):ArgsRel w (fun _=>False) (l.map fun x=>(false,[DC.v x])) l.toArray:=by
 refine⟨by simp,fun i d v hd hv=>?_⟩
 rw [List.getElem?_map] at hd
 have hv':l[i]?=some v:=by simpa using hv
 rw [hv'] at hd
 simp only [Option.map_some,Option.some.injEq] at hd
 subst hd
 exact⟨_,rfl,.v (h v (List.mem_of_getElem? hv'))⟩
theorem f50_some {a b c d:Int}:∃ n:Int,∀ {α:Type} (k:Int->Option α),f50_0 α a b c d k=k n:=by
 simp only [f50_0,f50_0g,J50_0_0,J50_0_0g,f76_0,f76_0g,cK_dec,cK_ndec,cK_true,cK_false]
 by_cases h1:2<=w64 (b - a) <;> by_cases h2:2<=w64 (d - c) <;> by_cases h3:w64 (d - c)<=w64 (b - a) <;> simp only [h1,h2,h3,if_true,if_false] <;> exact⟨_,fun k=>rfl⟩
theorem choice_calls (a b c d:Int)(w:World):Calls Tryz.prog 50 #[.agg #[.int .i64 a,.int .i64 b,.int .i64 c,.int .i64 d]] w fun e w'=>(∃ n:Int,e=.returned (.int .i64 n))/\Below w.heap.size w w':=by
 obtain⟨n,hn⟩:=f50_some (a:=a) (b:=b) (c:=c) (d:=d)
 have h:=inst_split' io50_0 (ds:=[(true,[Value.int .i64 a,.int .i64 b,.int .i64 c,.int .i64 d].map .v)]) (show (1:Nat)<=nt50 by decide) (β:=Int)
  (K:=fun res=>match res with
   | [(false,[.d (.v (.int .i64 m))])]=>some m
   | _=>none) (r:=n) (congrArg some (hn _))
 obtain⟨res,hC,_,hk⟩:=h
 split at hk
 ·rename_i m
  have:=calls_of hC (fun _=>args_agg fun x hx=>by
   simp only [List.mem_cons,List.not_mem_nil,or_false] at hx
   rcases hx with rfl | rfl | rfl | rfl <;> rfl) w (Laid.none (by kernel_rfl))
  exact this.mono fun e w' ⟨h1,h2⟩=>⟨⟨m,h1⟩,h2⟩
 ·cases hk
end Go.AM.K
namespace Go.Proofs
open Go.RowKit Go.Shelf Go.AM
attribute [local go_sem] Oper.semAt_some
set_option maxRecDepth 100000 in
theorem Tryz.parts_fwd:FwdOk Tryz.prog 21 23:=by
 intro a b c d cs w Q hR hQ
 go_enter Tryz.func21,Tryz.ntmps21
 go_wp2_with fail
 obtain⟨W0,hW0⟩:∃ W0,w.alloc (.cells #[.int .i64 a,.int .i64 b,.int .i64 c,.int .i64 d] 70)=W0:=⟨_,rfl⟩
 have hb0:Below w.heap.size w W0:=by rw [<- hW0];exact (Below.refl _ _).alloc (Nat.le_refl _) _
 have hk0:W0.heap[w.heap.size]?=some (.cells #[.int .i64 a,.int .i64 b,.int .i64 c,.int .i64 d] 70 (0,0)):=by rw [<- hW0];exact heap_alloc_new w _
 have hlt0:=(Array.getElem?_eq_some_iff.1 hk0).1
 rw [hW0]
 clear hW0
 refine (Go.AM.K.choice_calls a b c d _).mono ?_
 rintro e W1 ⟨⟨n,rfl⟩,hb1⟩
 have hk1:W1.heap[w.heap.size]?=some (.cells #[.int .i64 a,.int .i64 b,.int .i64 c,.int .i64 d] 70 (0,0)):=by rw [hb1.block _ hlt0];exact hk0
 have hd:∀ j x,#[Value.int .i64 a,.int .i64 b,.int .i64 c,.int .i64 d][j]?=some x->W1.cell? ⟨w.heap.size,j,none⟩=some x:=fun j x hx=>by rw [Lib.cell_of_heap hk1];exact hx
 have d0:=hd 0 _ rfl
 have d1:=hd 1 _ rfl
 have d2:=hd 2 _ rfl
 have d3:=hd 3 _ rfl
 have hw1:Below w.heap.size w W1:=hb0.trans (hb1.mono hb0.size)
 have hQ1:=hQ W1 hw1
 have HQ:=hR
 clear hd hk0 hk1 hQ hb0 hb1
 go_wp2_with fail
 refine hQ1.mono ?_
 intro e W2 hq
 obtain⟨v,rfl⟩:=HQ e W2 hq
 go_wp2_with fail
 exact hq
end Go.Proofs
namespace Go.AM.K
open Go.Proofs in
theorem ptr21:PtrsOk Tryz.prog 21 [1000000,23,0]:=Go.Proofs.Tryz.parts_fwd
end Go.AM.K
