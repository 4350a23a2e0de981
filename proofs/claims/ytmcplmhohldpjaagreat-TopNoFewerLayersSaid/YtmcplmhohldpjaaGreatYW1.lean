/- The root of chapter 1: its two loops mend any first guess. -/
import Derived.Test.YtmcplmhohldpjaaGreatRe
namespace Go.AM.K
set_option linter.unusedSectionVars false
set_option linter.unusedVariables false
set_option linter.unusedSimpArgs false
variable {α:Type}
theorem mo {x:Int}(h1:-9223372036854775808<=x)(h2:x < 9223372036854775808):w64 x=x:=IntWalk.i64_in _ (by omega)
section
variable {n s:Int}(hs0:0<=s)(hs:s < 2147483648)(h1:s*s<=n)(h2:n < (s+1)*(s+1))
include hs0 hs h1 h2
theorem Y2 {k:Int->Bool->Option α}:∀ (j m:Nat),j < m->s+(j:Int) < 2147483648->ff α n k m (s+(j:Int))=k s false:=by
 intro j
 induction j with
 | zero=>
  intro m hm hb
  obtain⟨m,rfl⟩:∃ z,m=z+1:=⟨m - 1,by omega⟩
  have e:s*s<=2147483647*2147483647:=Int.mul_le_mul (by omega) (by omega) hs0 (by omega)
  have e0:0<=s*s:=Int.mul_nonneg hs0 hs0
  rw [show s+((0:Nat):Int)=s by omega]
  simp only [ff,kX]
  rw [mo (x:=s*s) (by omega) (by omega),decide_eq_false (show ¬ n < s*s by omega)]
  rfl
 | succ j ih=>
  intro m hm hb
  obtain⟨m,rfl⟩:∃ z,m=z+1:=⟨m - 1,by omega⟩
  have hr:s+((j+1:Nat):Int)=(s+1)+(j:Int):=by omega
  have g1:(s+1)*(s+1)<=(s+((j+1:Nat):Int))*(s+((j+1:Nat):Int)):=Int.mul_le_mul (by omega) (by omega) (by omega) (by omega)
  have g2:(s+((j+1:Nat):Int))*(s+((j+1:Nat):Int))<=2147483647*2147483647:=Int.mul_le_mul (by omega) (by omega) (by omega) (by omega)
  have g3:0<=(s+1)*(s+1):=Int.mul_nonneg (by omega) (by omega)
  simp only [ff,kX]
  rw [mo (x:=(s+((j+1:Nat):Int))*(s+((j+1:Nat):Int))) (by omega) (by omega),decide_eq_true (show n < (s+((j+1:Nat):Int))*(s+((j+1:Nat):Int)) by omega),mo (x:=s+((j+1:Nat):Int) - 1) (by omega) (by omega)]
  rw [show s+((j+1:Nat):Int) - 1=s+(j:Int) by omega]
  exact ih m (by omega) (by omega)
theorem Yr {k:Int->Bool->Option α}{r:Int}(hr0:0<=r)(hr:r<=s)(m:Nat):ff α n k (m+1) r=k r false:=by
 have e:s*s<=2147483647*2147483647:=Int.mul_le_mul (by omega) (by omega) hs0 (by omega)
 have e1:r*r<=s*s:=Int.mul_le_mul hr hr hr0 hs0
 have e0:0<=r*r:=Int.mul_nonneg hr0 hr0
 simp only [ff,kX]
 rw [mo (x:=r*r) (by omega) (by omega),decide_eq_false (show ¬ n < r*r by omega)]
 rfl
theorem ZY {k:Int->Bool->Option α}:∀ (j m:Nat),j < m->0<=s - (j:Int)->fG α n k m (s - (j:Int))=k s false:=by
 intro j
 induction j with
 | zero=>
  intro m hm hb
  obtain⟨m,rfl⟩:∃ z,m=z+1:=⟨m - 1,by omega⟩
  have e:(s+1)*(s+1)<=2147483648*2147483648:=Int.mul_le_mul (by omega) (by omega) (by omega) (by omega)
  have e0:0<=(s+1)*(s+1):=Int.mul_nonneg (by omega) (by omega)
  rw [show s - ((0:Nat):Int)=s by omega]
  simp only [fG,mt]
  rw [mo (x:=s+1) (by omega) (by omega),mo (x:=(s+1)*(s+1)) (by omega) (by omega),decide_eq_false (show ¬ (s+1)*(s+1)<=n by omega)]
  rfl
 | succ j ih=>
  intro m hm hb
  obtain⟨m,rfl⟩:∃ z,m=z+1:=⟨m - 1,by omega⟩
  have hx:s - ((j+1:Nat):Int)+1=s - (j:Int):=by omega
  have e:s*s<=2147483647*2147483647:=Int.mul_le_mul (by omega) (by omega) hs0 (by omega)
  have g1:(s - (j:Int))*(s - (j:Int))<=s*s:=Int.mul_le_mul (by omega) (by omega) (by omega) hs0
  have g3:0<=(s - (j:Int))*(s - (j:Int)):=Int.mul_nonneg (by omega) (by omega)
  simp only [fG,mt,hx]
  rw [mo (x:=s - (j:Int)) (by omega) (by omega),mo (x:=(s - (j:Int))*(s - (j:Int))) (by omega) (by omega),decide_eq_true (show (s - (j:Int))*(s - (j:Int))<=n by omega)]
  exact ih m (by omega) (by omega)
theorem YG {k:Int->Option α}{r:Int}(hr0:0<=r)(hr:r < 2147483648):kO α n (fun x7 _=>kJ α n (fun x13 _=>k x13) x7) r=k s:=by
 have hf:=cB
 simp only [kO,af,BW,kJ,af,Cw]
 by_cases h:r<=s
 ·obtain⟨m,hm⟩:∃ m,aN=m+1:=⟨aN - 1,by omega⟩
  rw [show ff α n (fun x7 _=>fG α n (fun x13 _=>k x13) aN x7) aN r=ff α n (fun x7 _=>fG α n (fun x13 _=>k x13) aN x7) (m+1) r from congrArg (fun z=>ff α n (fun x7 _=>fG α n (fun x13 _=>k x13) aN x7) z r) hm,Yr hs0 hs h1 h2 hr0 h m]
  have:=ZY hs0 hs h1 h2 (k:=fun x13 _=>k x13) (s - r).toNat aN (by omega) (by omega)
  rw [show s - ((s - r).toNat:Int)=r by omega] at this
  exact this
 ·have:=Y2 hs0 hs h1 h2 (k:=fun x7 _=>fG α n (fun x13 _=>k x13) aN x7) (r - s).toNat aN (by omega) (by omega)
  rw [show s+((r - s).toNat:Int)=r by omega] at this
  rw [this]
  have:=ZY hs0 hs h1 h2 (k:=fun x13 _=>k x13) 0 aN (by omega) (by omega)
  rw [show s - ((0:Nat):Int)=s by omega] at this
  exact this
end
end Go.AM.K
