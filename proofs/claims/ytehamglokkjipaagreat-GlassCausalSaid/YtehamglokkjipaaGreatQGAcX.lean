/- The example that the statements of chapter 2 begin with, run; its contract. -/
import Derived.Test.YtehamglokkjipaaGreatQGAcM
import Derived.Test.YtehamglokkjipaaGreatQGB0
namespace Go.AM
open Go.Proofs
set_option maxRecDepth 100000
theorem follows2:Tryz.prog.follows .mixedOrders=true:=by kernel_rfl
noncomputable def EFB (P:Program)(fuel:Nat)(tbl:List (Nat × FnT))(base:Nat->List DV->Option (List RV)):Nat->Env
 | 0=>Env.nil
 | k+1=>⟨fun f ds=>match base f ds with
   | some r=>some r
   | none=>match aget tbl f with
    | some t=>callF P (EFB P fuel tbl base k) fuel t ds
    | none=>none,fun _ _=>none,fun f=>if f=104 then [0] else [],fun _=>none⟩
theorem EFB_ok {P:Program}(hm:P.follows .mixedOrders=true){fuel:Nat}{tbl:List (Nat × FnT)}{base:Nat->List DV->Option (List RV)}(hT:TblOk P tbl)
  (hb:∀ f ds res,base f ds=some res->Contract P f ds res/\Bodied P f):∀ k,EnvOk P (EFB P fuel tbl base k)
 | 0=>EnvOk.nil
 | k+1=>by
  refine⟨fun f ds res h=>?_,fun f caps xs h=>by simp [EFB] at h,fun f offs h=>by simp [EFB] at h⟩
  simp only [EFB] at h
  split at h
  ·rename_i r hr;simp only [Option.some.injEq] at h;subst h;exact hb f ds r hr
  ·split at h
   ·rename_i t ht;exact callF_ok hm (EFB_ok hm hT hb k) (hT.get ht) h
   ·cases h
def base97 (f:Nat)(ds:List DV):Option (List RV):=
 if f=160 then match ds with
  | [(false,[.v (.int .i64 n)])]=>if n=2251799813685248 then some [(false,[.d (.v (.int .i64 47453132))])] else none
  | _=>none
 else none
theorem isq_half:isq 2251799813685248=47453132:=by decide +kernel
theorem run97 {β:Type}{k:Int->Option β}:K.f160_0 β 2251799813685248 k=k 47453132:=by
 have:=K.f160_eq (α:=β) (n:=2251799813685248) (by decide) (k:=k)
 rw [isq_half] at this
 exact this
theorem base97_ok (f:Nat)(ds:List DV)(res:List RV)(h:base97 f ds=some res):Contract Tryz.prog f ds res/\Bodied Tryz.prog f:=by
 unfold base97 at h
 split at h
 ·rename_i hf
  subst hf
  split at h
  ·rename_i n
   split at h
   ·rename_i hc
    subst hc
    simp only [Option.some.injEq] at h
    subst h
    refine K.io160_0.ok _ _ (by decide) ?_
    show some (K.f160_0 _ 2251799813685248 _)=_
    rw [run97];rfl
   ·cases h
  ·cases h
 ·cases h
theorem awake_closed:(EFB Tryz.prog 500 tblM base97 14).call 9 []=some [(false,[.d (.v (.bool true))])]:=by kernel_rfl
namespace K
abbrev nt9:Nat:=66
abbrev Tf9_0:Type 1:=(α:Type)->Option α->Option α
def f9_0 (α:Type)(k1:Option α):Option α:=k1
def pa9_0:PT (List DV):=pA []
def Fn9_0 (v:Tf9_0)(α:Type)(k:List RV->Option α):Option α:=v α (k [rB true])
theorem io9_0:InstOk Tryz.prog 9 nt9 ⟨pa9_0,Fn9_0 f9_0⟩:=
 inst_of (r:=fun ds=>(EFB Tryz.prog 500 tblM base97 14).call 9 ds) (fun α k=>by
  show k [rB true]=((EFB Tryz.prog 500 tblM base97 14).call 9 []).bind k
  rw [awake_closed];rfl) (fun ds res h=>(EFB_ok follows2 tblMOk base97_ok 14).call 9 ds res h)
end K
end Go.AM
