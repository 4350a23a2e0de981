/- Chapter 2: the kernel of a spectrum: what the program and the document say agrees. -/
import Derived.Test.YtehamglokkjipaaGreatQL13
namespace Go.AM.K
open Ieee
set_option linter.unusedVariables false
set_option linter.unusedSimpArgs false
set_option linter.unusedSectionVars false
variable {α:Type}
def clm (x:Int):Int:=if (if x < 1099511627776 then x else 1099511627776) > (-1099511627776) then (if x < 1099511627776 then x else 1099511627776) else (-1099511627776)
theorem clm_bd (x:Int):(clm x).natAbs < 9007199254740992:=by unfold clm;split <;> split <;> omega
def ballAt (p:List Int)(i:Nat):B3:=(clm (p.getD (3*i) 0),clm (p.getD (3*i+1) 0),p.getD (3*i+2) 0)
def balls (p:List Int):List B3:=mkL (p.length / 3) (ballAt p)
theorem balls_wide {p:List Int}:∀ b ∈ balls p,wide b:=fun b hb=>by
 obtain⟨i,_,rfl⟩:=mkL_mem hb
 exact⟨clm_bd _,clm_bd _⟩
theorem mkL_snoc {n:Nat}{f:Nat->B3}:mkL n f++[f n]=mkL (n+1) f:=by
 unfold mkL;rw [List.range_succ,List.map_append];rfl
theorem f33_eq {p:List Int}(hp:p.length<=1000){k:Rows->Option α}:f33_0 α (p.map rI1) k=k (eB (balls p)):=by
 have hfu:=fuel_ge
 have key:∀ (m i n:Nat),i+m=p.length / 3->m < n->R33_0_0 α (p.map rI1) (fun x11 x12 x13=>k x13) n ((3*i:Nat):Int) (eB (mkL i (ballAt p)))=k (eB (balls p)):=by
  intro m
  induction m with
  | zero=>
   intro i n h1 h2
   obtain⟨n,rfl⟩:∃ k,n=k+1:=⟨n - 1,by omega⟩
   simp only [R33_0_0,S33_0_0,S33_0_0g,List.length_map]
   rw [w64_in (n:=((3*i:Nat):Int)+2) (by omega) (by omega),decide_eq_false (by omega),cK_false,show i=p.length / 3 by omega]
   rfl
  | succ m ih=>
   intro i n h1 h2
   obtain⟨n,rfl⟩:∃ k,n=k+1:=⟨n - 1,by omega⟩
   have q0:3*i < p.length:=by omega
   have q1:3*i+1 < p.length:=by omega
   have q2:3*i+2 < p.length:=by omega
   simp only [R33_0_0,S33_0_0,S33_0_0g,List.length_map]
   rw [w64_in (n:=((3*i:Nat):Int)+2) (by omega) (by omega),decide_eq_true (by omega),cK_true,w64_in (n:=((3*i:Nat):Int)+1) (by omega) (by omega),w64_in (n:=((3*i:Nat):Int)+3) (by omega) (by omega),
    show ((3*i:Nat):Int)+1=((3*i+1:Nat):Int) by omega,show ((3*i:Nat):Int)+2=((3*i+2:Nat):Int) by omega,show ((3*i:Nat):Int)+3=((3*(i+1):Nat):Int) by omega,rowK_I q0,rowK_I q1,rowK_I q2,<- gD (d:=0) q0,<- gD (d:=0) q1,<- gD (d:=0) q2]
   simp only [f49_0,f49_0g,f45_0,f45_0g]
   have e:=fun x:Option α=>eB_gK (acc:=mkL i (ballAt p)) (u:=ballAt p i) (by rw [mkL_len];omega) (x:=x)
   refine (e _).trans ?_
   have e2:=eB_app (acc:=mkL i (ballAt p)) (u:=ballAt p i)
   rw [mkL_snoc] at e2
   refine (congrArg _ e2).trans ?_
   exact ih (i+1) n (by omega) (by omega)
 have:=key (p.length / 3) 0 fuel (by omega) (by omega)
 simp only [f33_0,f33_0g,L33_0_0]
 exact this
theorem fl_nil {x:Option α}:flatK [([]:Rows)] x=x:=rfl
theorem krn_le {n:Nat}(h:krn n=true):n<=34:=by
 unfold krn at h
 simp only [Bool.or_eq_true,Bool.and_eq_true,decide_eq_true_eq] at h
 omega
theorem f15_B {r:List B3}(h:r.length<=1000){k:Bool->Option α}:f15_0 α (eB r) (eB r) k=k true:=f15_self (by simpa using h)
theorem f15_nil {k:Bool->Option α}:f15_0 α [] [] k=k true:=f15_self (s:=[]) (by simp)
theorem f40_nil {k:Rows->Option α}:f40_0 α [] k=k []:=f40_eq (l:=[]) (by simp)
theorem J7_ok {r:List B3}(hl:r.length<=34)(h2:2<=r.length)(hs:∀ b ∈ r,okS b=true){x y:Int}(hx:x=max (fstA r) 0)(hy:y=if fstA r=-1 then 17 else 0){k:Bool->Option α} :
  J7_0_1 α 0 (cau r) 0 x y (fstA r) (eB r) (eT r) k=k false:=by
 have hfst:=fstN_ge (r:=r) (hn r) (hf r)
 change fstA r=-1\/((hf r:Nat):Int)<=fstA r at hfst
 simp only [J7_0_1,J7_0_1g,bne_self_eq_false,cK_false,f40_eq hl,fl_B,f15_B (show r.length<=1000 by omega),Bool.not_true,f41_eq hl hs h2]
 by_cases hA:fstA r=-1
 ·rw [if_pos hA] at hy
  have e1:x=0:=by omega
  rw [hA,e1,hy]
  rfl
 ·rw [if_neg hA] at hy
  have hA2:0<=fstA r:=by rcases hfst with h | h <;> omega
  have e1:x=fstA r:=by omega
  have e2:(x != (if (0:Int) > fstA r then 0 else fstA r))=false:=by rw [if_neg (by omega),e1];simp
  have e3:(!((y == 0) == (decide ((0:Int)<=fstA r))))=false:=by rw [decide_eq_true hA2,hy];rfl
  rw [e2,e3,decide_eq_false (show ¬ fstA r < 0 by omega),cK_false,cK_false,cK_false]
theorem law7 {p:List Int}{k:Bool->Option α}:f7_0 α (p.map rI1) k=k true:=by
 simp only [f7_0,f7_0g,f9_0,List.length_map,cK_dec]
 by_cases hp:(110:Int) < (p.length:Int)
 ·rw [if_pos hp]
 ·rw [if_neg hp]
  have hp1:p.length<=1000:=by omega
  have e3:w64 (Int.tdiv ((p.length:Nat):Int) 3)=((p.length / 3:Nat):Int):=by
   have e:Int.tdiv ((p.length:Nat):Int) 3=((p.length / 3:Nat):Int):=rfl
   rw [e];exact w64_in (by omega) (by omega)
  rw [e3,f10_eq]
  cases hk:krn (p.length / 3) with
  | false=>rfl
  | true=>
   have h34:=krn_le hk
   have hlen:(balls p).length=p.length / 3:=mkL_len
   have hl:(balls p).length<=34:=by omega
   have hw:∀ b ∈ balls p,wide b:=balls_wide
   have hb:∀ k:Rows->Option α,f33_0 α (p.map rI1) k=k (eB (balls p)):=fun k=>f33_eq hp1
   have n8:((8:Int) != 0)=true:=by decide
   have l0:(((List.length ([]:Rows):Nat):Int) == 0)=true:=rfl
   rw [Bool.not_true,cK_false]
   generalize balls p=s at hl hw hlen hb
   by_cases h0:spF s=0
   ·have hLB:lenB s.length=true:=by
     unfold spF at h0
     cases h:lenB s.length with
     | true=>rfl
     | false=>rw [h] at h0;simp at h0
    have h2:=(len_pos hLB).1
    cases hk:kerL s with
    | none=>
     have e32:∀ k:Rows->Int->Option α,f32_0 α (eB s) k=k [] 8:=fun k=>by rw [f32_eq hl hw,if_pos h0,hk]
     have e34:∀ k:Int->Int->Option α,f34_0 α (eB s) k=k 0 8:=fun k=>by rw [f34_eq hl hw,if_pos h0,hk]
     have e35:∀ k:Int->Int->Option α,f35_0 α (eB s) k=k 0 8:=fun k=>by rw [f35_eq hl hw,if_pos h0,hk]
     have e36:∀ k:Rows->Int->Option α,f36_0 α (eB s) k=k [] 8:=fun k=>by rw [f36_eq hl hw,if_pos h0,hk];rfl
     have e37:∀ k:Int->Option α,f37_0 α (eB s) k=k 0:=fun k=>by rw [f37_eq hl hw,h0]
     have e38:∀ k:Rows->Int->Option α,f38_0 α (eB s) k=k [] 8:=fun k=>by rw [f38_eq hl h0,hk]
     rw [hb,e32,fl_nil,hb,e34,hb,e35,hb,e36,fl_nil,hb,e37]
     simp only [J7_0_0,J7_0_0g]
     rw [beq_self_eq_true,cK_true,hb,e38,fl_nil]
     simp only [n8,cK_true,beq_self_eq_true,l0]
    | some r=>
     obtain⟨h1,hr⟩:=kerL_ok h2 hk
     have hlr:r.length<=34:=by omega
     have hLr:lenB r.length=true:=by rw [h1];exact hLB
     have hfst:=fstN_ge (r:=r) (hn r) (hf r)
     change fstA r=-1\/((hf r:Nat):Int)<=fstA r at hfst
     obtain⟨x,hx⟩:∃ x,x=max (fstA r) 0:=⟨_,rfl⟩
     obtain⟨y,hy⟩:∃ y:Int,y=if fstA r=-1 then 17 else 0:=⟨_,rfl⟩
     have e32:∀ k:Rows->Int->Option α,f32_0 α (eB s) k=k (eB r) 0:=fun k=>by rw [f32_eq hl hw,if_pos h0,hk]
     have e34:∀ k:Int->Int->Option α,f34_0 α (eB s) k=k (cau r) 0:=fun k=>by rw [f34_eq hl hw,if_pos h0,hk]
     have e35:∀ k:Int->Int->Option α,f35_0 α (eB s) k=k x y:=fun k=>by
      rw [f35_eq hl hw,if_pos h0,hk,hx,hy]
      by_cases hA:fstA r=-1
      ·simp only [if_pos hA,hA];rfl
      ·simp only [if_neg hA];rw [show max (fstA r) 0=fstA r by rcases hfst with h | h <;> omega]
     have e37:∀ k:Int->Option α,f37_0 α (eB s) k=k 0:=fun k=>by rw [f37_eq hl hw,h0]
     have e38:∀ k:Rows->Int->Option α,f38_0 α (eB s) k=k (eT r) 0:=fun k=>by rw [f38_eq hl h0,hk]
     cases hc:cauZ r with
     | none=>
      have e36:∀ k:Rows->Int->Option α,f36_0 α (eB s) k=k [] 8:=fun k=>by rw [f36_eq hl hw,if_pos h0,hk];simp only [Option.bind,hc]
      have e42:∀ k:Rows->Int->Option α,f42_0 α (eT r) k=k [] 8:=fun k=>by rw [f42_eq hLr hr,hc]
      rw [hb,e32,fl_B,hb,e34,hb,e35,hb,e36,fl_nil,hb,e37]
      simp only [J7_0_0,J7_0_0g]
      rw [beq_self_eq_true,cK_true,hb,e38,fl_T,bne_self_eq_false,cK_false,f39_eq hlr hr (by omega),J7_ok hlr (by omega) hr hx hy,cK_false,e42,fl_nil,beq_self_eq_true,cK_true,f40_nil,fl_nil,f15_nil]
     | some c=>
      have hcl:=cauZ_len hc
      have e36:∀ k:Rows->Int->Option α,f36_0 α (eB s) k=k (eB c) 0:=fun k=>by rw [f36_eq hl hw,if_pos h0,hk];simp only [Option.bind,hc]
      have e42:∀ k:Rows->Int->Option α,f42_0 α (eT r) k=k (eT c) 0:=fun k=>by rw [f42_eq hLr hr,hc]
      rw [hb,e32,fl_B,hb,e34,hb,e35,hb,e36,fl_B,hb,e37]
      simp only [J7_0_0,J7_0_0g]
      rw [beq_self_eq_true,cK_true,hb,e38,fl_T,bne_self_eq_false,cK_false,f39_eq hlr hr (by omega),J7_ok hlr (by omega) hr hx hy,cK_false,e42,fl_T,beq_self_eq_true,cK_true,f40_eq (by omega),fl_B,f15_B (by omega)]
   ·have hb0:(spF s == 0)=false:=by simpa using h0
    have hn0:(spF s != 0)=true:=bne_iff_ne.2 h0
    have e32:∀ k:Rows->Int->Option α,f32_0 α (eB s) k=k [] (spF s):=fun k=>by rw [f32_eq hl hw,if_neg h0]
    have e34:∀ k:Int->Int->Option α,f34_0 α (eB s) k=k 0 (spF s):=fun k=>by rw [f34_eq hl hw,if_neg h0]
    have e35:∀ k:Int->Int->Option α,f35_0 α (eB s) k=k 0 (spF s):=fun k=>by rw [f35_eq hl hw,if_neg h0]
    have e36:∀ k:Rows->Int->Option α,f36_0 α (eB s) k=k [] (spF s):=fun k=>by rw [f36_eq hl hw,if_neg h0]
    rw [hb,e32,fl_nil,hb,e34,hb,e35,hb,e36,fl_nil,hb,f37_eq hl hw]
    simp only [J7_0_0,J7_0_0g]
    rw [hb0,cK_false]
    simp only [hn0,cK_true,beq_self_eq_true,l0]
end Go.AM.K
