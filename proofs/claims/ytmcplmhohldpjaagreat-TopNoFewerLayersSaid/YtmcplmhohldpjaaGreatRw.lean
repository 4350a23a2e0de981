/- The example that the statements of chapter 4 begin with, run; its contract. -/
import Derived.Test.YtmcplmhohldpjaaGreatRM
import Derived.Test.YtmcplmhohldpjaaGreatRe
import Derived.Test.YtmcplmhohldpjaaGreatYWn
namespace Go.AM
open Go.Proofs
set_option maxRecDepth 100000
theorem SD:Tryz.prog.follows .mixedOrders=true:=by kernel_rfl
noncomputable def EFB (P:Program)(aN:Nat)(tbl:List (Nat × FnT))(base:Nat->List DV->Option (List RV))(sq:Nat->List DC->Option (List (List Value))):Nat->Env
 | 0=>Env.nil
 | k+1=>⟨fun f ds=>match base f ds with
   | some r=>some r
   | none=>match aj tbl f with
    | some t=>SL P (EFB P aN tbl base sq k) aN t ds
    | none=>none,sq,fun f=>if f=73 then [0] else [],fun _=>none⟩
theorem UG {P:Program}(hm:P.follows .mixedOrders=true){aN:Nat}{tbl:List (Nat × FnT)}{base:Nat->List DV->Option (List RV)}{sq:Nat->List DC->Option (List (List Value))}(hT:B8 P tbl)
  (hb:∀ f ds res,base f ds=some res->dc P f ds res/\de P f) (hs:∀ f caps xs,sq f caps=some xs->fB P f caps xs/\de P f):∀ k,eZ P (EFB P aN tbl base sq k)
 | 0=>eZ.nil
 | k+1=>by
  refine⟨fun f ds res h=>?_,fun f caps xs h=>hs f caps xs h,fun f offs h=>by simp [EFB] at h⟩
  simp only [EFB] at h
  split at h
  ·rename_i r hr;simp only [Option.some.injEq] at h;subst h;exact hb f ds r hr
  ·split at h
   ·rename_i t ht;exact UF hm (UG hm hT hb hs k) (hT.get ht) h
   ·cases h
theorem as6 {β:Type}{k:Int->Int->Int->Int->Int->Int->Int->Option β}:K.zS β 10000 0 0 0 4000 4000 [[.v (.int .i64 20000),.v (.int .i64 20000),.v (.int .i64 500),.v (.int .i64 500),.v (.int .i64 0)]] 40000 0 k=k 0 0 1048576 1048576 0 0 0:=by
 have:=K.TO K.A0 (k:=k)
 rw [K.Rg] at this
 exact this
def IK (f:Nat)(ds:List DV):Option (List RV):=
 if f=12 then match ds with
  | [(true,[.v (.int .i64 a1),.v (.int .i64 a2),.v (.int .i64 a3),.v (.int .i64 a4),.v (.int .i64 a5),.v (.int .i64 a6),.sl [[.v (.int .i64 b1),.v (.int .i64 b2),.v (.int .i64 b3),.v (.int .i64 b4),.v (.int .i64 b5)]],.v (.int .i64 a7),.v (.int .i64 a8)])]=>
   if a1=10000/\a2=0/\a3=0/\a4=0/\a5=4000/\a6=4000/\b1=20000/\b2=20000/\b3=500/\b4=500/\b5=0/\a7=40000/\a8=0 then
    some [(true,[.d (.v (.int .i64 0)),.d (.v (.int .i64 0)),.d (.v (.int .i64 1048576)),.d (.v (.int .i64 1048576)),.d (.v (.int .i64 0)),.d (.v (.int .i64 0))]),(false,[.d (.v (.int .i64 0))])] else none
  | _=>none
 else if f=61 then match ds with
  | [(false,[.sl rows])]=>some [(false,[.d (.csl rows)])]
  | _=>none
 else none
theorem aa6 (f:Nat)(ds:List DV)(res:List RV)(h:IK f ds=some res):dc Tryz.prog f ds res/\de Tryz.prog f:=by
 unfold IK at h
 split at h
 ·rename_i hf
  subst hf
  split at h
  ·rename_i a1 a2 a3 a4 a5 a6 b1 b2 b3 b4 b5 a7 a8
   split at h
   ·rename_i hc
    obtain⟨rfl,rfl,rfl,rfl,rfl,rfl,rfl,rfl,rfl,rfl,rfl,rfl,rfl⟩:=hc
    simp only [Option.some.injEq] at h
    subst h
    refine K.Yt.ok _ _ (by decide) ?_
    show some (K.zS _ 10000 0 0 0 4000 4000 [[.v (.int .i64 20000),.v (.int .i64 20000),.v (.int .i64 500),.v (.int .i64 500),.v (.int .i64 0)]] 40000 0 _)=_
    rw [as6];rfl
   ·cases h
  ·cases h
 ·split at h
  ·rename_i hf
   subst hf
   split at h
   ·simp only [Option.some.injEq] at h
    subst h
    exact⟨Tryz.clip_contract _,Tryz.f61,Tryz.func61,by kernel_rfl,by kernel_rfl⟩
   ·cases h
  ·cases h
def WV (f:Nat)(caps:List DC):Option (List (List Value)):=if f=112 then K.qL caps else none
theorem aex (f:Nat)(caps:List DC)(xs:List (List Value))(h:WV f caps=some xs):fB Tryz.prog f caps xs/\de Tryz.prog f:=by
 unfold WV at h
 split at h
 ·rename_i hf
  subst hf
  exact⟨K.anl caps xs h,Tryz.f112,Tryz.func112,by kernel_rfl,by kernel_rfl⟩
 ·cases h
theorem EE:(EFB Tryz.prog 500 acq IK WV 14).call 6 []=some [(false,[.d (.v (.bool true))])]:=by kernel_rfl
namespace K
abbrev nt6:Nat:=36
abbrev aoR:Type 1:=(α:Type)->Option α->Option α
def akF (α:Type)(k1:Option α):Option α:=k1
def ahP:PT (List DV):=pA []
def ag1 (v:aoR)(α:Type)(k:List RV->Option α):Option α:=v α (k [rB true])
theorem apO:al Tryz.prog 6 nt6 ⟨ahP,ag1 akF⟩:=
 ack (r:=fun ds=>(EFB Tryz.prog 500 acq IK WV 14).call 6 ds) (fun α k=>by
  show k [rB true]=((EFB Tryz.prog 500 acq IK WV 14).call 6 []).bind k
  rw [EE];rfl) (fun ds res h=>(UG SD aiu aa6 aex 14).call 6 ds res h)
end K
end Go.AM
