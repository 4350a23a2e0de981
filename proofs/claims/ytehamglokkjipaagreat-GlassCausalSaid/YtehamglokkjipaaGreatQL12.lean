/- Chapter 2: whether a spectrum is causal, and the first time below 0, in the program and in the document. -/
import Derived.Test.YtehamglokkjipaaGreatQL11
namespace Go.AM.K
open Ieee
set_option linter.unusedVariables false
set_option linter.unusedSimpArgs false
set_option linter.unusedSectionVars false
variable {α:Type}
theorem feq0 {n:Int}(h:n.natAbs < 9007199254740992):Op.floatEq .f64 (FloatKind.nearest .f64 n) 0=decide (n=0):=by
 obtain⟨s,m,i,h1,h2,h3,h4,h5⟩:=whole_small h
 obtain⟨s0,m0,i0,g1,g2,g3,g4,g5⟩:=whole_small (n:=0) (by decide)
 rw [nea0] at g1
 show ((FloatKind.format .f64).order (FloatKind.nearest .f64 n) 0 == some Ordering.eq)=_
 rw [ord_eq h1 g1 h2 g2,h5,g5]
 refine decide_eq_decide.2 ⟨fun q=>?_,fun q=>by rw [q]⟩
 have hU:(0:Int) < (UU:Int):=by decide +kernel
 rcases Int.lt_trichotomy n 0 with w | w | w
 ·have:=mulU_lt (a:=n) (b:=0) |>.2 w;omega
 ·exact w
 ·have:=mulU_lt (a:=0) (b:=n) |>.2 w;omega
def isZ (b:B3):Bool:=decide (b=z3)
theorem isZ_prog {b:B3}(hb:okS b=true):((Op.floatEq .f64 (nB b).1 0 && Op.floatEq .f64 (nB b).2.1 0) && (((nB b).2.2 == 0) && true))=isZ b:=by
 have g:=okS_iff.1 hb
 simp only [nB]
 rw [feq0 (by omega),feq0 (by omega)]
 obtain⟨x,y,r⟩:=b
 unfold isZ
 apply Bool.eq_iff_iff.2
 simp [Prod.ext_iff,and_assoc]
def fstN (r:List B3):Nat->Nat->Int
 | 0,_=>-1
 | m+1,a=>if hz (r.getD a z3)=true then fstN r m (a+1) else (a:Int)
def allZ (r:List B3):Nat->Nat->Bool
 | 0,_=>true
 | m+1,a=>isZ (r.getD a z3) && allZ r m (a+1)
theorem fstN_ge {r:List B3}:∀ (m a:Nat),fstN r m a=-1\/(a:Int)<=fstN r m a
 | 0,a=>.inl rfl
 | m+1,a=>by
  simp only [fstN]
  split
  ·rcases fstN_ge (r:=r) m (a+1) with h | h
   ·exact .inl h
   ·exact .inr (by omega)
  ·exact .inr (Int.le_refl _)
def hf (r:List B3):Nat:=r.length / 2+1
def hn (r:List B3):Nat:=r.length - (r.length / 2+1)
def fstA (r:List B3):Int:=fstN r (hn r) (hf r)
def cau (r:List B3):Int:=if 0<=fstA r then 0 else if allZ r (hn r) (hf r)=true then 2 else 1
theorem qK_idx {L:Nat}{f:List Int->Option α}:qK (some (idxL L)) xN f=f ((List.range' (L / 2+1) (L - (L / 2+1))).map fun (i:Nat)=>(i:Int)):=by
 have key:∀ (m a:Nat),decL xN ((List.range' a m).map fun (i:Nat)=>[Value.int .i64 (i:Int)])=some ((List.range' a m).map fun (i:Nat)=>(i:Int)):=by
  intro m
  induction m with
  | zero=>intro a;rfl
  | succ m ih=>
   intro a
   rw [List.range'_succ]
   simp only [List.map_cons,decL,ih (a+1)]
   rfl
 show xK xN (idxL L) f=_
 unfold xK idxL
 rw [key]
section
variable {r:List B3}(hl:r.length<=34)(hs:∀ b ∈ r,okS b=true)
include hl hs
theorem r_at {t:Nat}(ht:t < r.length):okS (r.getD t z3)=true:=by rw [gD ht];exact hs _ (List.getElem_mem ht)
theorem V34_eq {k1 k2:Int->Option α}:∀ (m a:Nat) (x:Int),a+m=r.length->V34_0_0 α (eB r) k1 k2 ((List.range' a m).map fun (i:Nat)=>(i:Int)) x=if fstN r m a=-1 then k1 (if allZ r m a=true then x else 1) else V34_0_0 α (eB r) k1 k2 ((List.range' a m).map fun (i:Nat)=>(i:Int)) x
 | 0,a,x,h=>by simp [V34_0_0,fstN,allZ]
 | m+1,a,x,h=>by
  rw [List.range'_succ]
  simp only [List.map_cons,V34_0_0,S34_0_0,S34_0_0g]
  rw [Int.toNat_natCast,ldK_Bq (by omega),f85_eq (r_at hl hs (by omega)),isZ_prog (r_at hl hs (by omega))]
  cases hh:hz (r.getD a z3) with
  | false=>rw [if_neg (by simp only [fstN,hh];simp)]
  | true=>
   have e:fstN r (m+1) a=fstN r m (a+1):=by simp only [fstN,hh,if_true]
   rw [e]
   simp only [Bool.not_true,cK_false]
   cases hzz:isZ (r.getD a z3) with
   | false=>
    have e2:allZ r (m+1) a=false:=by simp only [allZ,hzz,Bool.false_and]
    simp only [Bool.not_false,cK_true,e2]
    rw [V34_eq m (a+1) 1 (by omega)]
    split <;> simp
   | true=>
    have e2:allZ r (m+1) a=allZ r m (a+1):=by simp only [allZ,hzz,Bool.true_and]
    simp only [Bool.not_true,cK_false,e2]
    exact V34_eq m (a+1) x (by omega)
theorem V34_no {k1:Int->Option α}{k2:Int->Option α}{Z:Option α}(hZ:∀ x,k2 x=Z):∀ (m a:Nat) (x:Int),a+m=r.length->fstN r m a ≠ -1->V34_0_0 α (eB r) k1 k2 ((List.range' a m).map fun (i:Nat)=>(i:Int)) x=Z
 | 0,a,x,h,q=>by simp [fstN] at q
 | m+1,a,x,h,q=>by
  rw [List.range'_succ]
  simp only [List.map_cons,V34_0_0,S34_0_0,S34_0_0g]
  rw [Int.toNat_natCast,ldK_Bq (by omega),f85_eq (r_at hl hs (by omega))]
  simp only [fstN] at q
  cases hh:hz (r.getD a z3) with
  | false=>simp only [Bool.not_false,cK_true,hZ]
  | true=>
   rw [hh,if_pos rfl] at q
   simp only [Bool.not_true,cK_false]
   rw [V34_no hZ m (a+1) 1 (by omega) q,V34_no hZ m (a+1) x (by omega) q]
   cases (!((Op.floatEq .f64 (nB (r.getD a z3)).1 0 && Op.floatEq .f64 (nB (r.getD a z3)).2.1 0) && (((nB (r.getD a z3)).2.2 == 0) && true))) <;> rfl
theorem V35_eq {k1:Option α}{k2:Int->Option α}:∀ (m a:Nat),a+m=r.length->V35_0_0 α (eB r) k1 k2 ((List.range' a m).map fun (i:Nat)=>(i:Int))=if fstN r m a=-1 then k1 else k2 (fstN r m a)
 | 0,a,h=>by simp [V35_0_0,fstN]
 | m+1,a,h=>by
  rw [List.range'_succ]
  simp only [List.map_cons,V35_0_0,S35_0_0,S35_0_0g]
  rw [Int.toNat_natCast,ldK_Bq (by omega),f85_eq (r_at hl hs (by omega))]
  cases hh:hz (r.getD a z3) with
  | false=>
   have e:fstN r (m+1) a=(a:Int):=by simp only [fstN,hh,Bool.false_eq_true,if_false]
   rw [e,Bool.not_false,cK_true,if_neg (by omega)]
  | true=>
   have e:fstN r (m+1) a=fstN r m (a+1):=by simp only [fstN,hh,if_true]
   rw [e,Bool.not_true,cK_false];exact V35_eq m (a+1) (by omega)
end
theorem f34_eq {s:List B3}(hl:s.length<=34)(hw:∀ b ∈ s,wide b){k:Int->Int->Option α}:f34_0 α (eB s) k=if spF s=0 then (match kerL s with
  | some r=>k (cau r) 0
  | none=>k 0 8) else k 0 (spF s):=by
 simp only [f34_0,f34_0g,f32_eq hl hw]
 by_cases h0:spF s=0
 ·rw [if_pos h0,if_pos h0]
  have hL:2<=s.length:=by
   unfold spF at h0
   cases h:lenB s.length with
   | true=>exact (len_pos h).1
   | false=>rw [h] at h0;simp at h0
  cases hk:kerL s with
  | none=>rfl
  | some r=>
   obtain⟨h1,h2⟩:=kerL_ok hL hk
   simp only [bne_self_eq_false,cK_false,eB_len]
   refine (qK_idx (L:=r.length) (f:=_)).trans ?_
   by_cases hA:fstN r (hn r) (hf r)=-1
   ·rw [show r.length / 2+1=hf r from rfl,show r.length - hf r=hn r from rfl,V34_eq (by omega) h2 (hn r) (hf r) 2 (by unfold hn hf;omega),if_pos hA]
    unfold cau fstA
    rw [hA,if_neg (show ¬ (0:Int)<=-1 by decide)]
   ·rw [show r.length / 2+1=hf r from rfl,show r.length - hf r=hn r from rfl,V34_no (by omega) h2 (Z:=k 0 0) (fun _=>rfl) (hn r) (hf r) 2 (by unfold hn hf;omega) hA]
    unfold cau fstA
    rw [if_pos (by rcases fstN_ge (r:=r) (hn r) (hf r) with h | h <;> omega)]
 ·rw [if_neg h0,if_neg h0,show (spF s != 0)=true from bne_iff_ne.2 h0,cK_true]
theorem f35_eq {s:List B3}(hl:s.length<=34)(hw:∀ b ∈ s,wide b){k:Int->Int->Option α}:f35_0 α (eB s) k=if spF s=0 then (match kerL s with
  | some r=>if fstA r=-1 then k 0 17 else k (fstA r) 0
  | none=>k 0 8) else k 0 (spF s):=by
 simp only [f35_0,f35_0g,f32_eq hl hw]
 by_cases h0:spF s=0
 ·rw [if_pos h0,if_pos h0]
  have hL:2<=s.length:=by
   unfold spF at h0
   cases h:lenB s.length with
   | true=>exact (len_pos h).1
   | false=>rw [h] at h0;simp at h0
  cases hk:kerL s with
  | none=>rfl
  | some r=>
   obtain⟨h1,h2⟩:=kerL_ok hL hk
   simp only [bne_self_eq_false,cK_false,eB_len]
   refine (qK_idx (L:=r.length) (f:=_)).trans ?_
   rw [show r.length / 2+1=hf r from rfl,show r.length - hf r=hn r from rfl,V35_eq (by omega) h2 (hn r) (hf r) (by unfold hn hf;omega)]
   rfl
 ·rw [if_neg h0,if_neg h0,show (spF s != 0)=true from bne_iff_ne.2 h0,cK_true]
end Go.AM.K
