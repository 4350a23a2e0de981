/- Chapter 2: rows of balls; sums of products, one for each place, in the program and in the document. -/
import Derived.Test.YtehamglokkjipaaGreatQL9
namespace Go.AM.K
open Ieee
set_option linter.unusedVariables false
set_option linter.unusedSimpArgs false
set_option linter.unusedSectionVars false
variable {α:Type}
abbrev z3:B3:=(0,0,0)
theorem eB_len (l:List B3):(eB l).length=l.length:=by simp [eB]
theorem rowK_B {s:List B3}{i:Nat}(hi:i < s.length){f:Nat->Nat->Int->Option α}:rowK (eB s) (i:Int) [.cpx .f64,.int .i64] f=f (nB (s.getD i z3)).1 (nB (s.getD i z3)).2.1 (nB (s.getD i z3)).2.2:=by
 rw [gD hi]
 exact (rowK_get (r:=rBl (nB (s[i]'hi))) (by simp [eB,hi])).trans rfl
theorem ixK_Bq {s:List B3}{i:Nat}(hi:i < s.length){x:Option α}:ixK (eB s) (i:Int) 2 x=x:=ixK_m (enc:=rBl) (fun _=>rfl) (by omega) (by simpa using hi)
theorem rowAt_B {s:List B3}{i:Nat}(hi:i < s.length):rowAt (eB s) i=rBl (nB (s.getD i z3)):=by
 rw [gD hi];simp [rowAt,eB,List.getD_eq_getElem?_getD,hi]
theorem ldK_Bq {s:List B3}{i:Nat}(hi:i < s.length){f:Nat->Nat->Int->Option α}:ldK (eB s) i 0 [.cpx .f64,.int .i64] f=f (nB (s.getD i z3)).1 (nB (s.getD i z3)).2.1 (nB (s.getD i z3)).2.2:=by
 unfold ldK
 rw [decide_eq_true (by rw [eB_len];exact hi),rowAt_B hi]
 rfl
theorem stK_Bq {s:List B3}{i:Nat}(hi:i < s.length){x:Option α}:stK (eB s) i 0 2 x=x:=by
 unfold stK
 rw [decide_eq_true ⟨by rw [eB_len];exact hi,by rw [rowAt_B hi];exact Nat.le_refl _⟩]
theorem set_Bq {s:List B3}{i:Nat}(hi:i < s.length)(u:B3):List.set (eB s) i (splice (rowAt (eB s) i) 0 [DC.v (.complex .f64 (nB u).1 (nB u).2.1),DC.v (.int .i64 (nB u).2.2)])=eB (s.set i u):=by
 rw [rowAt_B hi]
 show List.set (eB s) i (rBl (nB u))=_
 simp [eB,List.map_set]
theorem fl_B {s:List B3}{x:Option α}:flatK [eB s] x=x:=flatK_map (enc:=rBl) (fun _=>rfl)
def uB (n d:Int):B3:=(Mb.uX n d,Mb.uY n d,Mb.uR n d)
theorem uB_ok {n d:Int}(hd:1<=d):okS (uB n d)=true:=by
 have:=Mb.u_bd (n:=n) hd
 exact okS_iff.2 ⟨by simp only [uB];omega,by simp only [uB];omega,by simp only [uB];omega⟩
theorem f55_eq {n d:Int}(h1:-1000000000<=n)(h2:n<=1000000000)(hd:1<=d)(hd2:d<=1000000000){k:Nat->Nat->Int->Option α}:f55_0 α n d k=k (nB (uB n d)).1 (nB (uB n d)).2.1 (nB (uB n d)).2.2:=by
 simp only [f55_0,f55_0g]
 rw [Mb.unit_prog h1 h2 hd hd2];rfl
def tS (s:List B3)(sg:Int)(a t:Nat):Option B3:=tms (s.getD t z3) (uB (sg*((a*t:Nat):Int)) (s.length:Int))
section
variable {s:List B3}(h1:1<=s.length)(h2:s.length<=34)(hs:∀ b ∈ s,okS b=true)
include h1 h2 hs
theorem s_at {t:Nat}(ht:t < s.length):okS (s.getD t z3)=true:=by rw [gD ht];exact hs _ (List.getElem_mem ht)
theorem at_bd {a t:Nat}(ha:a < s.length)(ht:t < s.length):a*t<=1156:=by
 have:=Nat.mul_le_mul (show a<=34 by omega) (show t<=34 by omega);omega
theorem f81_eq {a t:Nat}(ha:a < s.length)(ht:t < s.length){k:Nat->Nat->Int->Int->Option α}:f81_0 α (a:Int) (t:Int) (eB s) (s.length:Int) k=match tS s (-1) a t with
  | some u=>k (nB u).1 (nB u).2.1 (nB u).2.2 0
  | none=>k 0 0 0 8:=by
 have hb:=at_bd h1 h2 hs ha ht
 have e:w64 (w64 (0 - (t:Int))*(a:Int))=-1*((a*t:Nat):Int):=by
  rw [w64_in (n:=0 - (t:Int)) (by omega) (by omega)]
  have e2:(0 - (t:Int))*(a:Int)=-1*((a*t:Nat):Int):=by
   rw [Int.natCast_mul,Int.zero_sub,Int.neg_mul,Int.mul_comm (t:Int),Int.neg_mul,Int.one_mul]
  rw [e2];exact w64_in (by omega) (by omega)
 simp only [f81_0,f81_0g]
 rw [rowK_B ht,e,f55_eq (by omega) (by omega) (by omega) (by omega)]
 have q:=f82_eq (α:=α) (a:=s.getD t z3) (b:=uB (-1*((a*t:Nat):Int)) (s.length:Int)) (s_at h1 h2 hs ht) (uB_ok (by omega)) (k:=k)
 have hX:tS s (-1) a t=tms (s.getD t z3) (uB (-1*((a*t:Nat):Int)) (s.length:Int)):=by unfold tS;exact Eq.refl _
 rw [hX]
 generalize tms (s.getD t z3) (uB (-1*((a*t:Nat):Int)) (s.length:Int))=T at q ⊢
 cases T <;> exact q
theorem f87_eq {a t:Nat}(ha:a < s.length)(ht:t < s.length){k:Nat->Nat->Int->Int->Option α}:f87_0 α (a:Int) (t:Int) (s.length:Int) (eB s) k=match tS s 1 a t with
  | some u=>k (nB u).1 (nB u).2.1 (nB u).2.2 0
  | none=>k 0 0 0 8:=by
 have hb:=at_bd h1 h2 hs ha ht
 have e:w64 ((a:Int)*(t:Int))=1*((a*t:Nat):Int):=by
  rw [<- Int.natCast_mul,Int.one_mul];exact w64_in (by omega) (by omega)
 simp only [f87_0,f87_0g]
 rw [e,f55_eq (by omega) (by omega) (by omega) (by omega),rowK_B ht]
 have hX:tS s 1 a t=tms (uB (1*((a*t:Nat):Int)) (s.length:Int)) (s.getD t z3):=by unfold tS;exact tms_comm _ _
 rw [hX]
 have q:=f82_eq (α:=α) (a:=uB (1*((a*t:Nat):Int)) (s.length:Int)) (b:=s.getD t z3) (uB_ok (by omega)) (s_at h1 h2 hs ht) (k:=k)
 generalize tms (uB (1*((a*t:Nat):Int)) (s.length:Int)) (s.getD t z3)=T at q ⊢
 cases T <;> exact q
theorem R52_1_sum {a:Nat}(ha:a < s.length){k1:Int->Bool->Nat->Nat->Int->Bool->Option α}{Y:Nat->Nat->Int->Option α}{Z:Option α}
  (hY:∀ i c x y z,k1 i c x y z false=Y x y z) (hZ:∀ i c x y z,k1 i c x y z true=Z) :
  R52_1_0 α (eB s) (s.length:Int) (a:Int) (s.length:Int) k1 fuel 0 0 0 0 false=match sumB (tS s (-1) a) s.length 0 (0,0,0) with
   | some u=>Y (nB u).1 (nB u).2.1 (nB u).2.2
   | none=>Z:=by
 have hfu:=fuel_ge
 have key:=sum_prog (α:=α) (R:=fun n t x y z w=>R52_1_0 α (eB s) (s.length:Int) (a:Int) (s.length:Int) k1 n t x y z w) (T:=tS s (-1) a) (N:=s.length) (Y:=Y) (Z:=Z)
  (fun n t q ht hq=>by
   simp only [R52_1_0,S52_1_0,S52_1_0g]
   rw [decide_eq_true (by omega),cK_true,f81_eq h1 h2 hs ha ht,w64_nat ht (by omega)]
   cases hT:tS s (-1) a t with
   | none=>exact⟨(nB q).1,(nB q).2.1,(nB q).2.2,by simp only [Option.bind];rw [f104_err (by decide)]⟩
   | some x=>
    have g:=okS_iff.1 (tms_ok hT)
    exact⟨0,0,0,by simp only [Option.bind];rw [f104_sum hq (by omega) (by omega) g.2.2]⟩)
  (fun n t x y z ht=>by
   simp only [R52_1_0,S52_1_0,S52_1_0g]
   rw [decide_eq_true (by omega),cK_true,f81_eq h1 h2 hs ha ht,w64_nat ht (by omega)]
   cases tS s (-1) a t <;> simp only [f104_wr])
  (fun n x y z=>by
   simp only [R52_1_0,S52_1_0,S52_1_0g]
   rw [decide_eq_false (by omega),cK_false,hZ])
  (fun n x y z=>by
   simp only [R52_1_0,S52_1_0,S52_1_0g]
   rw [decide_eq_false (by omega),cK_false,hY]) s.length 0 fuel (0,0,0) (by omega) (by omega) (by decide)
 rw [nB0] at key
 exact key
theorem R52_2_sum {a:Nat}(ha:a < s.length){k1:Int->Bool->Nat->Nat->Int->Bool->Option α}{Y:Nat->Nat->Int->Option α}{Z:Option α}
  (hY:∀ i c x y z,k1 i c x y z false=Y x y z) (hZ:∀ i c x y z,k1 i c x y z true=Z) :
  R52_2_0 α (s.length:Int) (eB s) (a:Int) (s.length:Int) k1 fuel 0 0 0 0 false=match sumB (tS s 1 a) s.length 0 (0,0,0) with
   | some u=>Y (nB u).1 (nB u).2.1 (nB u).2.2
   | none=>Z:=by
 have hfu:=fuel_ge
 have key:=sum_prog (α:=α) (R:=fun n t x y z w=>R52_2_0 α (s.length:Int) (eB s) (a:Int) (s.length:Int) k1 n t x y z w) (T:=tS s 1 a) (N:=s.length) (Y:=Y) (Z:=Z)
  (fun n t q ht hq=>by
   simp only [R52_2_0,S52_2_0,S52_2_0g]
   rw [decide_eq_true (by omega),cK_true,f87_eq h1 h2 hs ha ht,w64_nat ht (by omega)]
   cases hT:tS s 1 a t with
   | none=>exact⟨(nB q).1,(nB q).2.1,(nB q).2.2,by simp only [Option.bind];rw [f104_err (by decide)]⟩
   | some x=>
    have g:=okS_iff.1 (tms_ok hT)
    exact⟨0,0,0,by simp only [Option.bind];rw [f104_sum hq (by omega) (by omega) g.2.2]⟩)
  (fun n t x y z ht=>by
   simp only [R52_2_0,S52_2_0,S52_2_0g]
   rw [decide_eq_true (by omega),cK_true,f87_eq h1 h2 hs ha ht,w64_nat ht (by omega)]
   cases tS s 1 a t <;> simp only [f104_wr])
  (fun n x y z=>by
   simp only [R52_2_0,S52_2_0,S52_2_0g]
   rw [decide_eq_false (by omega),cK_false,hZ])
  (fun n x y z=>by
   simp only [R52_2_0,S52_2_0,S52_2_0g]
   rw [decide_eq_false (by omega),cK_false,hY]) s.length 0 fuel (0,0,0) (by omega) (by omega) (by decide)
 rw [nB0] at key
 exact key
theorem f52_1_eq {k:Rows->Bool->Option α}:f52_1 α (s.length:Int) (eB s) (s.length:Int) k=match allB (tS s (-1)) s.length s.length 0 [] with
  | some r=>k (eB r) true
  | none=>k [] false:=by
 have hfu:=fuel_ge
 simp only [f52_1,f52_1g,L52_1_1]
 refine all_loop (α:=α) (enc:=eB) (R:=fun n i x=>R52_1_1 α (s.length:Int) (eB s) (s.length:Int) (s.length:Int) (k [] false) (fun x40 x41 x42=>k x42 true) n i x) (T:=tS s (-1)) (M:=s.length) (Y:=fun r=>k r true)
  (fun n a acc ha hac=>?_) (fun n acc=>?_) s.length 0 fuel [] (by omega) (by omega) rfl
 ·simp only [R52_1_1,S52_1_1,S52_1_1g,L52_1_0]
  rw [decide_eq_true (by omega),cK_true]
  refine (R52_1_sum h1 h2 hs ha (Y:=_) (Z:=_) (fun _ _ _ _ _=>rfl) (fun _ _ _ _ _=>rfl)).trans ?_
  cases sumB (tS s (-1) a) s.length 0 (0,0,0) with
  | none=>rfl
  | some u=>simp only [cK_false];rw [eB_gK (by omega),eB_app,w64_nat ha (by omega)]
 ·simp only [R52_1_1,S52_1_1,S52_1_1g]
  rw [decide_eq_false (by omega),cK_false]
theorem f52_2_eq {k:Rows->Bool->Option α}:f52_2 α (s.length:Int) (s.length:Int) (eB s) k=match allB (tS s 1) s.length s.length 0 [] with
  | some r=>k (eB r) true
  | none=>k [] false:=by
 have hfu:=fuel_ge
 simp only [f52_2,f52_2g,L52_2_1]
 refine all_loop (α:=α) (enc:=eB) (R:=fun n i x=>R52_2_1 α (s.length:Int) (s.length:Int) (eB s) (s.length:Int) (k [] false) (fun x40 x41 x42=>k x42 true) n i x) (T:=tS s 1) (M:=s.length) (Y:=fun r=>k r true)
  (fun n a acc ha hac=>?_) (fun n acc=>?_) s.length 0 fuel [] (by omega) (by omega) rfl
 ·simp only [R52_2_1,S52_2_1,S52_2_1g,L52_2_0]
  rw [decide_eq_true (by omega),cK_true]
  refine (R52_2_sum h1 h2 hs ha (Y:=_) (Z:=_) (fun _ _ _ _ _=>rfl) (fun _ _ _ _ _=>rfl)).trans ?_
  cases sumB (tS s 1 a) s.length 0 (0,0,0) with
  | none=>rfl
  | some u=>simp only [cK_false];rw [eB_gK (by omega),eB_app,w64_nat ha (by omega)]
 ·simp only [R52_2_1,S52_2_1,S52_2_1g]
  rw [decide_eq_false (by omega),cK_false]
end
end Go.AM.K
