/- The causal spectrum of a kernel that contains the numbers covers their spectrum. -/
import Derived.Test.YtehamglokkjipaaGreatQM4
namespace Go.AM.K
open Ieee
set_option linter.unusedVariables false
set_option linter.unusedSimpArgs false
set_option linter.unusedSectionVars false
variable {α:Type}
def hasN (b:B3)(x:Int):Prop:=nle (b.1 - x*1048576) b.2.1 b.2.2
theorem hasN_ctn {b:B3}{x:Int}(h:hasN b x):ctn b (x*1048576) 0=true:=by
 unfold ctn
 have h2:=h.2
 have e1:(x*1048576 - b.1)*(x*1048576 - b.1)=(b.1 - x*1048576)*(b.1 - x*1048576):=by grind
 have e2:(0 - b.2.1)*(0 - b.2.1)=b.2.1*b.2.1:=by grind
 exact decide_eq_true (by rw [e1,e2];exact h2)
theorem hasN_hz {b:B3}(h:hasN b 0):hz b=true:=by
 have:=hasN_ctn h
 rw [Int.zero_mul] at this
 exact this
theorem hasN_no {b:B3}{x:Int}(h:hasN b x)(hx:x ≠ 0)(hr:b.2.2<=500000):hz b=false:=by
 cases hh:hz b with
 | false=>rfl
 | true=>
  exfalso
  unfold hz ctn at hh
  have h1:=of_decide_eq_true hh
  have e1:(0 - b.1)*(0 - b.1)=b.1*b.1:=by grind
  have e2:(0 - b.2.1)*(0 - b.2.1)=b.2.1*b.2.1:=by grind
  rw [e1,e2] at h1
  have h2:nle b.1 b.2.1 b.2.2:=⟨h.1,h1⟩
  have h3:=nle_x (nle_eq (nle_sub h2 h) (a':=x*1048576) (b':=0) (by omega) (by omega))
  omega
section
variable {l:List Int}{q:Nat}(hm:Sm l q)
include hm
theorem Sm.term {b:B3}(hb:okS b=true){x:Int}(h:hasN b x)(k:Int) :
  nle (1048576*((tmB b (uB k (l.length:Int))).1 - x*(uB k (l.length:Int)).1)) (1048576*((tmB b (uB k (l.length:Int))).2.1 - x*(uB k (l.length:Int)).2.1))
   (1048576*((tmB b (uB k (l.length:Int))).2.2 - (x.natAbs:Int)*(uB k (l.length:Int)).2.2)):=by
 have hu:=hm.r k
 have h1:=tm_cov (a:=b) (b:=uB k (l.length:Int))
 have h2:=nle_mul h (nle_up (hm.ok k))
 have h3:=nle_add h1 h2
 refine nle_mono (nle_eq h3 (by unfold tmP;grind) (by unfold tmQ;grind)) ?_
 have h4:=nle_x (nle_eq (nle_sub (nle_up hb) h) (a':=x*1048576) (b':=0) (by omega) (by omega))
 have h5:(x.natAbs:Int)*1048576<=upc b+b.2.2:=by omega
 have h6:=Int.mul_le_mul_of_nonneg_right h5 hu.1
 unfold tmW
 have e1:(upc b+b.2.2)*(uB k (l.length:Int)).2.2=upc b*(uB k (l.length:Int)).2.2+b.2.2*(uB k (l.length:Int)).2.2:=by grind
 have e2:(x.natAbs:Int)*1048576*(uB k (l.length:Int)).2.2=1048576*((x.natAbs:Int)*(uB k (l.length:Int)).2.2):=by grind
 have e3:upc (uB k (l.length:Int))*b.2.2=b.2.2*upc (uB k (l.length:Int)):=by grind
 omega
theorem mb_unit (k:Int):(-1048576<=(uB k (l.length:Int)).1/\(uB k (l.length:Int)).1<=1048576)/\-1048576<=(uB k (l.length:Int)).2.1/\(uB k (l.length:Int)).2.1<=1048576:=by
 have:=Mb.u_bd (n:=k) (d:=(l.length:Int)) (by have:=hm.n1;omega)
 exact⟨this.1,this.2.1⟩
theorem Sm.term_bd {b:B3}(hb:okS b=true){x:Int}(h:hasN b x)(hr:b.2.2<=1200)(hx:(x.natAbs:Int)<=szS l)(k:Int) :
  (0<=(tmB b (uB k (l.length:Int))).2.2/\(tmB b (uB k (l.length:Int))).2.2<=2*(x.natAbs:Int)+1203) /\
  (-(1048576*(x.natAbs:Int)+(2*(x.natAbs:Int)+1203))<=(tmB b (uB k (l.length:Int))).1/\(tmB b (uB k (l.length:Int))).1<=1048576*(x.natAbs:Int)+(2*(x.natAbs:Int)+1203)) /\
  -(1048576*(x.natAbs:Int)+(2*(x.natAbs:Int)+1203))<=(tmB b (uB k (l.length:Int))).2.1/\(tmB b (uB k (l.length:Int))).2.1<=1048576*(x.natAbs:Int)+(2*(x.natAbs:Int)+1203):=by
 have hs30:=hm.s30
 have g:=okS_iff.1 hb
 have hu:=hm.r k
 have hup:=hm.up_le k
 have hst:=hm.term hb h k
 have hA:upc b<=(x.natAbs:Int)*1048576+1200:=by
  have hx2:nle (x*1048576) 0 ((x.natAbs:Int)*1048576):=by
   have:=nle_scale x (a:=1048576) (b:=0) (r:=1048576) ⟨by decide,by decide⟩
   exact nle_eq this rfl (by rw [Int.mul_zero])
  exact upc_le hb (nle_mono (nle_eq (nle_add h hx2) (by omega) (by omega)) (by omega))
 have hA0:=(upc_bd hb).1
 have w1:upc b*(uB k (l.length:Int)).2.2<=upc b*2:=Int.mul_le_mul_of_nonneg_left hu.2 hA0
 have w2:upc (uB k (l.length:Int))*b.2.2<=1048577*1200:=by
  have e1:=Int.mul_le_mul_of_nonneg_right hup.2 g.2.2.1
  omega
 have w3:b.2.2*(uB k (l.length:Int)).2.2<=b.2.2*2:=Int.mul_le_mul_of_nonneg_left hu.2 g.2.2.1
 have v1:=Int.mul_nonneg hA0 hu.1
 have v2:=Int.mul_nonneg (show 0<=upc (uB k (l.length:Int)) by omega) g.2.2.1
 have v3:=Int.mul_nonneg g.2.2.1 hu.1
 have hW:tmW b (uB k (l.length:Int))<=2*((x.natAbs:Int)*1048576+1200)+1048577*1200+2400/\0<=tmW b (uB k (l.length:Int)):=by unfold tmW;omega
 have hcd:=cdv_up (n:=tmW b (uB k (l.length:Int)))
 have hR:(tmB b (uB k (l.length:Int))).2.2<=cdv (tmW b (uB k (l.length:Int))) 1048576+1/\cdv (tmW b (uB k (l.length:Int))) 1048576<=(tmB b (uB k (l.length:Int))).2.2:=by
  change cdv (tmW b (uB k (l.length:Int))) 1048576+_<=_/\_<=cdv (tmW b (uB k (l.length:Int))) 1048576+_
  split <;> omega
 have hrr:(tmB b (uB k (l.length:Int))).2.2<=2*(x.natAbs:Int)+1203:=by omega
 have hd:=nle_div (k:=1048576) (by decide) (by have:=hst.1;omega) hst
 have hu2:=nle_mono (nle_up (hm.ok k)) hup.2
 have gu:=okS_iff.1 (hm.ok k)
 have hbx:=mb_unit (l:=l) hm k
 have m1:=mul_bd (a:=x) (b:=(uB k (l.length:Int)).1) (A:=(x.natAbs:Int)) (B:=1048576) (by omega) (by omega) hbx.1.1 hbx.1.2
 have m2:=mul_bd (a:=x) (b:=(uB k (l.length:Int)).2.1) (A:=(x.natAbs:Int)) (B:=1048576) (by omega) (by omega) hbx.2.1 hbx.2.2
 have m3:=Int.mul_nonneg (show 0<=(x.natAbs:Int) by omega) hu.1
 have ex:=nle_x hd
 have ey:=nle_y hd
 refine⟨⟨by omega,hrr⟩,⟨by omega,by omega⟩,by omega,by omega⟩
end
end Go.AM.K
