/- The root of chapter 4: its two loops mend any first guess, too. -/
import Derived.Test.YtaondhhdefbfkaaGreatYW2
namespace Go.AM.K.Br
set_option linter.unusedSectionVars false
set_option linter.unusedVariables false
set_option linter.unusedSimpArgs false
variable {α:Type}
section
variable {n s:Int}(hs0:0<=s)(hs:s < 2147483648)(h1:s*s<=n)(h2:n < (s+1)*(s+1))
include hs0 hs h1 h2
theorem rootDown {k:Int->Bool->Option α}:∀ (j m:Nat),j < m->s+(j:Int) < 2147483648->R26_0_0 α n k m (s+(j:Int))=k s false:=by
 intro j
 induction j with
 | zero=>
  intro m hm hb
  obtain⟨m,rfl⟩:∃ z,m=z+1:=⟨m - 1,by omega⟩
  have e:s*s<=2147483647*2147483647:=Int.mul_le_mul (by omega) (by omega) hs0 (by omega)
  have e0:0<=s*s:=Int.mul_nonneg hs0 hs0
  rw [show s+((0:Nat):Int)=s by omega]
  simp only [R26_0_0,S26_0_0,S26_0_0g]
  rw [w64_of (x:=s*s) (by omega) (by omega),decide_eq_false (show ¬ n < s*s by omega)]
  rfl
 | succ j ih=>
  intro m hm hb
  obtain⟨m,rfl⟩:∃ z,m=z+1:=⟨m - 1,by omega⟩
  have hr:s+((j+1:Nat):Int)=(s+1)+(j:Int):=by omega
  have g1:(s+1)*(s+1)<=(s+((j+1:Nat):Int))*(s+((j+1:Nat):Int)):=Int.mul_le_mul (by omega) (by omega) (by omega) (by omega)
  have g2:(s+((j+1:Nat):Int))*(s+((j+1:Nat):Int))<=2147483647*2147483647:=Int.mul_le_mul (by omega) (by omega) (by omega) (by omega)
  have g3:0<=(s+1)*(s+1):=Int.mul_nonneg (by omega) (by omega)
  simp only [R26_0_0,S26_0_0,S26_0_0g]
  rw [w64_of (x:=(s+((j+1:Nat):Int))*(s+((j+1:Nat):Int))) (by omega) (by omega),decide_eq_true (show n < (s+((j+1:Nat):Int))*(s+((j+1:Nat):Int)) by omega),w64_of (x:=s+((j+1:Nat):Int) - 1) (by omega) (by omega)]
  rw [show s+((j+1:Nat):Int) - 1=s+(j:Int) by omega]
  exact ih m (by omega) (by omega)
theorem rootStay {k:Int->Bool->Option α}{r:Int}(hr0:0<=r)(hr:r<=s)(m:Nat):R26_0_0 α n k (m+1) r=k r false:=by
 have e:s*s<=2147483647*2147483647:=Int.mul_le_mul (by omega) (by omega) hs0 (by omega)
 have e1:r*r<=s*s:=Int.mul_le_mul hr hr hr0 hs0
 have e0:0<=r*r:=Int.mul_nonneg hr0 hr0
 simp only [R26_0_0,S26_0_0,S26_0_0g]
 rw [w64_of (x:=r*r) (by omega) (by omega),decide_eq_false (show ¬ n < r*r by omega)]
 rfl
theorem rootUp {k:Int->Bool->Option α}:∀ (j m:Nat),j < m->0<=s - (j:Int)->R26_0_1 α n k m (s - (j:Int))=k s false:=by
 intro j
 induction j with
 | zero=>
  intro m hm hb
  obtain⟨m,rfl⟩:∃ z,m=z+1:=⟨m - 1,by omega⟩
  have e:(s+1)*(s+1)<=2147483648*2147483648:=Int.mul_le_mul (by omega) (by omega) (by omega) (by omega)
  have e0:0<=(s+1)*(s+1):=Int.mul_nonneg (by omega) (by omega)
  rw [show s - ((0:Nat):Int)=s by omega]
  simp only [R26_0_1,S26_0_1,S26_0_1g]
  rw [w64_of (x:=s+1) (by omega) (by omega),w64_of (x:=(s+1)*(s+1)) (by omega) (by omega),decide_eq_false (show ¬ (s+1)*(s+1)<=n by omega)]
  rfl
 | succ j ih=>
  intro m hm hb
  obtain⟨m,rfl⟩:∃ z,m=z+1:=⟨m - 1,by omega⟩
  have hx:s - ((j+1:Nat):Int)+1=s - (j:Int):=by omega
  have e:s*s<=2147483647*2147483647:=Int.mul_le_mul (by omega) (by omega) hs0 (by omega)
  have g1:(s - (j:Int))*(s - (j:Int))<=s*s:=Int.mul_le_mul (by omega) (by omega) (by omega) hs0
  have g3:0<=(s - (j:Int))*(s - (j:Int)):=Int.mul_nonneg (by omega) (by omega)
  simp only [R26_0_1,S26_0_1,S26_0_1g,hx]
  rw [w64_of (x:=s - (j:Int)) (by omega) (by omega),w64_of (x:=(s - (j:Int))*(s - (j:Int))) (by omega) (by omega),decide_eq_true (show (s - (j:Int))*(s - (j:Int))<=n by omega)]
  exact ih m (by omega) (by omega)
theorem rootMend {k:Int->Option α}{r:Int}(hr0:0<=r)(hr:r < 2147483648):L26_0_0 α n (fun x7 _=>L26_0_1 α n (fun x13 _=>k x13) x7) r=k s:=by
 have hf:=fuel_ge
 simp only [L26_0_0,L26_0_1]
 by_cases h:r<=s
 ·obtain⟨m,hm⟩:∃ m,fuel=m+1:=⟨fuel - 1,by omega⟩
  rw [show R26_0_0 α n (fun x7 _=>R26_0_1 α n (fun x13 _=>k x13) fuel x7) fuel r=R26_0_0 α n (fun x7 _=>R26_0_1 α n (fun x13 _=>k x13) fuel x7) (m+1) r from congrArg (fun z=>R26_0_0 α n (fun x7 _=>R26_0_1 α n (fun x13 _=>k x13) fuel x7) z r) hm,rootStay hs0 hs h1 h2 hr0 h m]
  have:=rootUp hs0 hs h1 h2 (k:=fun x13 _=>k x13) (s - r).toNat fuel (by omega) (by omega)
  rw [show s - ((s - r).toNat:Int)=r by omega] at this
  exact this
 ·have:=rootDown hs0 hs h1 h2 (k:=fun x7 _=>R26_0_1 α n (fun x13 _=>k x13) fuel x7) (r - s).toNat fuel (by omega) (by omega)
  rw [show s+((r - s).toNat:Int)=r by omega] at this
  rw [this]
  have:=rootUp hs0 hs h1 h2 (k:=fun x13 _=>k x13) 0 fuel (by omega) (by omega)
  rw [show s - ((0:Nat):Int)=s by omega] at this
  exact this
end
theorem f26_eq {n:Nat}(h:n < 288230376151711744){k:Int->Bool->Option α}:f26_0 α (n:Int) k=k (isq n:Int) (w64 ((isq n:Int)*(isq n:Int)) == (n:Int)):=by
 obtain⟨y,r,h1,h2,h3,h4⟩:=sqrt_guess (n:=(n:Int)) (by omega) (by omega)
 simp only [f26_0,f26_0g,f47_0,f47_0g]
 have h1':(FloatKind.format .f64).sqrt (FloatKind.nearest .f64 (n:Int))=some y:=h1
 obtain⟨g1,g2⟩:=isq_bd h
 have g3:=isq_lt h
 rw [h1']
 show ivK (f2i .f64 y .i64) _=_
 rw [h2]
 show L26_0_0 α (n:Int) (fun x7 _=>L26_0_1 α (n:Int) (fun x13 _=>k x13 (w64 (x13*x13) == (n:Int))) x7) r=_
 exact rootMend (k:=fun x=>k x (w64 (x*x) == (n:Int))) (s:=(isq n:Int)) (by omega) (by omega) (by exact_mod_cast g1) (by exact_mod_cast g2) h3 h4
end Go.AM.K.Br
