/- Chapter 2: names; floats of a table as numbers. -/
import Derived.Test.YtehamglokkjipaaGreatQGP1
import Derived.Test.YtehamglokkjipaaGreatKNa
namespace Go.AM.K
open Ieee
set_option linter.unusedVariables false
set_option linter.unusedSimpArgs false
variable {α:Type}
section
variable {y:Nat}{s:Bool}{m:Nat}{i:Int}(hy:FloatKind.f64.decode y=.number s m i)(hi:-1074<=i)(hi2:i<=971)(hm:m < 2 ^ 53)
include hy hi hi2 hm
theorem f69_num (hbig:10000000000000000*(UU:Int) < (vl (.number s m i)).natAbs->whl (vl (.number s m i))=true){k:Bool->Option α}:f69_0 α y k=k (whl (vl (.number s m i))):=by
 obtain⟨m1,i1,a1,a2,a3⟩:=k16
 obtain⟨m2,i2,b1,b2,b3⟩:=kn16
 obtain⟨m0,i0,c1,c2,c3⟩:=k0
 have hU:=UU_pos
 have e0:((FloatKind.format .f64).order y y != some Ordering.eq)=false:=by
  show (!((FloatKind.format .f64).order y y == some Ordering.eq))=false
  rw [ord_eq hy hy hi hi];simp
 have e1:((FloatKind.format .f64).order 0 0 != some Ordering.eq)=false:=by
  show (!((FloatKind.format .f64).order 0 0 == some Ordering.eq))=false
  rw [ord_eq c1 c1 c2 c2];simp
 simp only [f69_0,f69_0g,e0,cK_false,sub_self_num hy,flN,e1]
 rw [ord_gt hy b1 hi b2,ord_eq hy b1 hi b2,ord_lt hy a1 hi a2,ord_eq hy a1 hi a2,a3,b3]
 generalize hv:vl (.number s m i)=v at *
 by_cases h1:-10000000000000000*(UU:Int)<=v
 ·have d1:(decide (-10000000000000000*(UU:Int) < v) || decide (v=-10000000000000000*(UU:Int)))=true:=by
   by_cases h:-10000000000000000*(UU:Int) < v
   ·simp [h]
   ·have:v=-10000000000000000*(UU:Int):=by omega
    simp [this]
  rw [d1,cK_true]
  by_cases h2:v<=10000000000000000*(UU:Int)
  ·have d2:(decide (v < 10000000000000000*(UU:Int)) || decide (v=10000000000000000*(UU:Int)))=true:=by
    by_cases h:v < 10000000000000000*(UU:Int)
    ·simp [h]
    ·have:v=10000000000000000*(UU:Int):=by omega
     simp [this]
   rw [d2,Bool.not_true,cK_false]
   have hq:qt m i<=10000000000000000:=by
    rw [qt_eq hi]
    have hA:m*2 ^ (i+1074).toNat<=10000000000000000*UU:=by
     have e:v.natAbs=m*2 ^ (i+1074).toNat:=by rw [<- hv,vl_abs,sgn_abs]
     rw [<- e];omega
    calc m*2 ^ (i+1074).toNat / UU<=10000000000000000*UU / UU:=Nat.div_le_div_right hA
     _=10000000000000000:=Nat.mul_div_cancel _ hU
   have hf:f2i .f64 y .i64=some (sgn s (qt m i)):=by
    unfold f2i
    rw [toInt_num hy]
    simp only
    rw [if_pos]
    have:IntKind.min .i64=-9223372036854775808:=by decide
    have:IntKind.max .i64=9223372036854775807:=by decide
    cases s <;> simp only [sgn,Bool.false_eq_true,if_false,if_true] <;> omega
   rw [hf]
   show k ((FloatKind.format .f64).order (FloatKind.nearest .f64 (sgn s (qt m i))) y == some Ordering.eq)=_
   obtain⟨t,m',i',n1,n2,n3⟩:=nearest_num (s:=s) hi hi2 hm
   rw [ord_eq n1 hy n2 hi,n3,<- hv,whl_qt hi]
  ·have d2:(decide (v < 10000000000000000*(UU:Int)) || decide (v=10000000000000000*(UU:Int)))=false:=by
    have g1:¬ v < 10000000000000000*(UU:Int):=by omega
    have g2:¬ v=10000000000000000*(UU:Int):=by omega
    simp [g1,g2]
   rw [d2,Bool.not_false,cK_true,hbig (by omega)]
 ·have d1:(decide (-10000000000000000*(UU:Int) < v) || decide (v=-10000000000000000*(UU:Int)))=false:=by
   have g1:¬ -10000000000000000*(UU:Int) < v:=by omega
   have g2:¬ v=-10000000000000000*(UU:Int):=by omega
   simp only [g1,g2,decide_false,Bool.or_self]
  rw [d1,cK_false,hbig (by omega)]
end
end Go.AM.K
