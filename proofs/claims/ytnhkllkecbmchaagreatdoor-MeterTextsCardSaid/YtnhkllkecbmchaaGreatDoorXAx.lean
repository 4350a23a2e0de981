/- The example that the statements of chapter 6 begin with, run; its contract. -/
import Derived.Test.YtnhkllkecbmchaaGreatDoorXAm
import Derived.Test.YtnhkllkecbmchaaGreatDoorXP3
namespace Go.AM
open Go.Proofs
set_option maxRecDepth 100000
theorem follows6:Tryz.prog.follows .mixedOrders=true:=by kernel_rfl
def EFB (P:Program)(fuel:Nat)(tbl:List (Nat × FnT))(base:Nat->List DV->Option (List RV)):Nat->Env
 | 0=>Env.nil
 | k+1=>⟨fun f ds=>match base f ds with
   | some r=>some r
   | none=>match aget tbl f with
    | some t=>callF P (EFB P fuel tbl base k) fuel t ds
    | none=>none,fun _ _=>none,fun _=>[],fun _=>none⟩
theorem EFB_ok {P:Program}(hm:P.follows .mixedOrders=true){fuel:Nat}{tbl:List (Nat × FnT)}{base:Nat->List DV->Option (List RV)}(hT:TblOk P tbl)
  (hb:∀ f ds res,base f ds=some res->Contract P f ds res/\Bodied P f):∀ k,EnvOk P (EFB P fuel tbl base k)
 | 0=>EnvOk.nil
 | k+1=>by
  refine⟨fun f ds res h=>?_,fun f caps xs h=>by simp [EFB] at h,fun f offs h=>by simp [EFB] at h⟩
  simp only [EFB] at h
  split at h
  ·rename_i r hr;simp only [Option.some.injEq] at h;subst h;exact hb f ds r hr
  ·split at h
   ·rename_i t ht;exact callF_ok hm (EFB_ok hm hT hb k) (hT.get ht) h
   ·cases h
def base75 (f:Nat)(ds:List DV):Option (List RV):=
 if f=75 then match ds with
  | [(true,[.v (.string s),.v (.int .i64 w),.v (.int .i64 i),.v (.int .i64 n),.v (.int .i64 a),.v (.int .i64 b),.v (.int .i64 c),.v (.int .i64 d),.v (.int .i64 e),.v (.int .i64 g)])]=>
   if s.data.toList=[112]/\w=6328/\i=10000/\n=7071/\a=-524288/\b=-524288/\c=0/\d=0/\e=0/\g=0 then some [(true,[.d (.v (.int .i64 682)),.d (.v (.int .i64 683))]),(false,[.d (.v (.int .i64 0))])] else none
  | _=>none
 else none
theorem run75 {β:Type}{k:Int->Int->Int->Option β}:K.f75_0 β ⟨#[112]⟩ 6328 10000 7071 (-524288) (-524288) 0 0 0 0 k=k 682 683 0:=by
 rw [K.f75_eq (by decide),show K.rdE ⟨#[112]⟩ 6328 10000 7071 (-524288) (-524288) 0 0 0 0=0 by decide,if_neg (by decide),K.psi_awake.1,K.psi_awake.2]
theorem base75_ok (f:Nat)(ds:List DV)(res:List RV)(h:base75 f ds=some res):Contract Tryz.prog f ds res/\Bodied Tryz.prog f:=by
 unfold base75 at h
 split at h
 ·rename_i hf
  subst hf
  split at h
  ·rename_i s w i n a b c d e g
   split at h
   ·rename_i hc
    obtain⟨h0,rfl,rfl,rfl,rfl,rfl,rfl,rfl,rfl,rfl⟩:=hc
    have hs:s=⟨#[112]⟩:=by
     obtain⟨⟨l⟩⟩:=s
     simp only at h0
     rw [h0]
    subst hs
    simp only [Option.some.injEq] at h
    subst h
    refine K.io75_0.ok _ _ (by decide) ?_
    show some (K.f75_0 _ ⟨#[112]⟩ 6328 10000 7071 (-524288) (-524288) 0 0 0 0 _)=_
    rw [run75];rfl
   ·cases h
  ·cases h
 ·cases h
theorem awake_closed:(EFB Tryz.prog 500 tblM base75 12).call 15 []=some [(false,[.d (.v (.bool true))])]:=by kernel_rfl
namespace K
abbrev nt15:Nat:=95
abbrev Tf15_0:Type 1:=(α:Type)->Option α->Option α
def f15_0 (α:Type)(k1:Option α):Option α:=k1
def pa15_0:PT (List DV):=pA []
def Fn15_0 (v:Tf15_0)(α:Type)(k:List RV->Option α):Option α:=v α (k [rB true])
theorem io15_0:InstOk Tryz.prog 15 nt15 ⟨pa15_0,Fn15_0 f15_0⟩:=
 inst_of (r:=fun ds=>(EFB Tryz.prog 500 tblM base75 12).call 15 ds) (fun α k=>by
  show k [rB true]=((EFB Tryz.prog 500 tblM base75 12).call 15 []).bind k
  rw [awake_closed];rfl) (fun ds res h=>(EFB_ok follows6 tblMOk base75_ok 12).call 15 ds res h)
end K
end Go.AM
