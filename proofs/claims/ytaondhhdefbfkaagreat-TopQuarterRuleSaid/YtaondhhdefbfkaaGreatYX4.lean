/- A layer that is a quarter of a wave thick: its double factor contains -1. -/
import Derived.Test.YtaondhhdefbfkaaGreatYX3
namespace Go.AM.K
open Go.AM
set_option linter.unusedVariables false
set_option linter.unusedSimpArgs false
def arcB (j:Nat):Bool:=
 let m:Int:=2097052+j
 let x:=rdv (dir m).1 64+1048576
 let y:=rdv (dir m).2 64
 let r:=2+cdv (11*((m - 2097152).natAbs:Int)) 7
 decide (x*x+y*y<=r*r)
theorem arcT:∀ j:Fin 201,arcB j.val=true:=by decide +kernel
theorem dir_half2:dir 2097152=(-67108864,0):=by decide +kernel
theorem cdv_mono7 {x y:Int}(h:x<=y):cdv x 7<=cdv y 7:=by unfold cdv;omega
theorem cdv_nn7 {x:Int}(h:0<=x):0<=cdv x 7:=by unfold cdv;omega
theorem arc_half {X Y:Int}(hX:1048532<=X)(hX2:X<=1048576)(hY:1048576<=Y)(hY2:Y<=1048620)(h:(arcE (2*X) (2*Y)).2=0):Con (arcE (2*X) (2*Y)).1 (-1) 1:=by
 have hk:ckE (2*X) (2*Y) (-1099511627776)=0:=by
  unfold ckE
  rw [if_pos (by omega),if_neg (by omega)]
 unfold arcE at *
 rw [if_pos hk] at h ⊢
 obtain⟨e,_⟩:=toBl_ok h
 refine⟨by decide,?_⟩
 rw [e]
 simp only [Int.one_mul]
 have hm:(2*X+2*Y) / 2=X+Y:=by omega
 unfold Mb.arcX Mb.arcY Mb.arcR
 rw [hm]
 by_cases c:2*X=2*Y/\2*X % 1048576=0
 ·have h1:X=1048576:=by omega
  have h2:Y=1048576:=by omega
  subst h1;subst h2
  rw [if_pos c,show (1048576:Int)+1048576=2097152 from rfl,dir_half2]
  exact⟨by decide,by decide⟩
 ·rw [if_neg c]
  have hj:=arcT ⟨(X+Y - 2097052).toNat,by omega⟩
  unfold arcB at hj
  have hj':=of_decide_eq_true hj
  simp only at hj'
  rw [show (2097052:Int)+(((X+Y - 2097052).toNat:Nat):Int)=X+Y by omega] at hj'
  have ha:((X+Y - 2097152).natAbs:Int)<=2*Y - (X+Y):=by omega
  have hr:2+cdv (11*((X+Y - 2097152).natAbs:Int)) 7<=2+cdv (11*(2*Y - (X+Y))) 7:=by
   have:=cdv_mono7 (x:=11*((X+Y - 2097152).natAbs:Int)) (y:=11*(2*Y - (X+Y))) (by omega)
   omega
  have h0:0<=2+cdv (11*((X+Y - 2097152).natAbs:Int)) 7:=by
   have:=cdv_nn7 (x:=11*((X+Y - 2097152).natAbs:Int)) (by omega)
   omega
  refine nle_mono (r:=2+cdv (11*((X+Y - 2097152).natAbs:Int)) 7) ⟨h0,?_⟩ hr
  rw [show ∀ x:Int,x - -1*1048576=x+1048576 from fun x=>by omega]
  exact hj'
structure Qtr (A:Ask)(l:L5)(n:Nat)(N d w:Int):Prop where
 s:A.s1=0/\A.s2=0
 m:medE A n=(N,N,0)
 l:l=(N,N,d,d,0)
 n1:5000<=N
 n2:N<=80000
 w1:A.w1=w
 w2:A.w2=w
 w3:1000<=w
 w4:w<=200000
 q:d*N=2500*w
 d0:0 < d
theorem Qtr.dw {A:Ask}{l:L5}{n:Nat}{N d w:Int}(h:Qtr A l n N d w):2*d<=w:=by
 have h1:=h.n1;have h2:=h.q;have h3:=h.d0
 have:=Int.mul_le_mul_of_nonneg_left h1 (Int.le_of_lt h3)
 omega
theorem turn_ok {A:Ask}{l:L5}{n:Nat}{N d w e:Int}(hq:Qtr A l n N d w)(h:(turnP A l n e).2=0) :
  e=0/\∃ X Y,(turnP A l n e).1=(X,Y,0,0)/\(1048532<=X/\X<=1048576)/\1048576<=Y/\Y<=1048620:=by
 have hd0:=hq.d0;have hN1:=hq.n1;have hN2:=hq.n2;have hw3:=hq.w3;have hw4:=hq.w4;have hdN:=hq.q;have hdw:=hq.dw
 unfold turnP at *
 rw [bndN_eq,bndP_eq,hq.l] at h ⊢
 simp only [if_true] at h ⊢
 have hc:(prtE (normalE A n e).2.2 (normalE A n e).1).2=0:=by
  by_cases hs:(normalE A n e).2.1=true
  ·rw [if_pos hs] at h;exact h
  ·rw [if_neg hs] at h;exact h
 obtain⟨e1,e2⟩:=prtE_ok hc
 obtain⟨e0,st,a,b,hb,hcon,hab,r1,r2,r3,r4⟩:=normal_ok hq.s hq.m hN1 hN2 e1
 refine⟨e0,?_⟩
 rw [e2,st,if_neg (by decide)]
 obtain⟨l1,l2⟩:=bl_lo hb
 simp only
 rw [l1,l2]
 have hlo:(a+b) / 2 - (b - (a+b) / 2)<=a/\a - 1<=(a+b) / 2 - (b - (a+b) / 2):=by omega
 have hhi:(a+b) / 2+(b - (a+b) / 2)=b:=by omega
 rw [hhi]
 generalize (a+b) / 2 - (b - (a+b) / 2)=x at *
 unfold trnE
 rw [hq.w1,hq.w2]
 simp only
 have px:pos x=x:=by unfold pos;rw [if_pos (by omega)]
 have pb:pos b=b:=by unfold pos;rw [if_pos (by omega)]
 have p0:pos 0=0:=by unfold pos;rw [if_neg (by omega)]
 have mx:=mulB (x:=4*x) (y:=d) (A:=40000000) (B:=100000) (by omega) (by omega) (by omega) (by omega)
 have mb:=mulB (x:=4*b) (y:=d) (A:=40000000) (B:=100000) (by omega) (by omega) (by omega) (by omega)
 rw [px,pb,p0,w64_in (n:=4*x) (by omega) (by omega),w64_in (n:=4*b) (by omega) (by omega),w64_in (n:=4*x*d) (by omega) (by omega),w64_in (n:=4*b*d) (by omega) (by omega)]
 have z0:w64 (w64 (4*0)*d)=0:=by rw [show w64 (4*0)=0 by decide,Int.zero_mul];decide
 rw [z0,dnI_eq (n:=0) (by decide) (by decide) (by omega),upI_eq (n:=0) (by decide) (by decide) (by omega) (by omega),dnI_eq (by omega) (by omega) (by omega),upI_eq (by omega) (by omega) (by omega) (by omega)]
 have z1:(0:Int) / w=0:=Int.zero_ediv w
 have z2:(0+w - 1) / w=0:=Int.ediv_eq_zero_of_lt (by omega) (by omega)
 rw [z1,z2]
 refine⟨_,_,rfl,?_⟩
 -- in tenthousandths
 have k1:4*d*(N*1048576)=10000*(1048576*w):=by
  have:4*d*(N*1048576)=4194304*(d*N):=by grind
  rw [this,hdN];omega
 have k2:=Int.mul_le_mul_of_nonneg_left (show x*10000<=N*1048576 by omega) (show 0<=4*d by omega)
 have k3:=Int.mul_le_mul_of_nonneg_left (show N*1048576 - 210000<=x*10000 by omega) (show 0<=4*d by omega)
 have k4:=Int.mul_le_mul_of_nonneg_left r2 (show 0<=4*d by omega)
 have k5:=Int.mul_le_mul_of_nonneg_left r4 (show 0<=4*d by omega)
 have g1:4*d*(x*10000)=10000*(4*x*d):=by grind
 have g2:4*d*(b*10000)=10000*(4*b*d):=by grind
 have g3:4*d*(N*1048576 - 210000)=4*d*(N*1048576) - 840000*d:=by grind
 have g4:4*d*(N*1048576+200000)=4*d*(N*1048576)+800000*d:=by grind
 generalize 4*x*d=y1 at *
 generalize 4*b*d=y2 at *
 generalize 4*d*(N*1048576)=y3 at *
 have w0:0 < w:=by omega
 refine⟨⟨?_,?_⟩,?_,?_⟩
 ·rw [Int.le_ediv_iff_mul_le w0];omega
 ·have:y1 / w < 1048577:=by rw [Int.ediv_lt_iff_lt_mul w0];omega
  omega
 ·rw [Int.le_ediv_iff_mul_le w0];omega
 ·have:(y2+w - 1) / w < 1048621:=by rw [Int.ediv_lt_iff_lt_mul w0];omega
  omega
theorem fade0:fadeE 0 0=(1048576,1048576,0):=by decide +kernel
theorem con_one:Con Bl1 1 1:=⟨by decide,by show (0:Int)<=1*0/\(1*1048576 - 1*1048576)*(1*1048576 - 1*1048576)+1*0*(1*0)<=(1*0:Int)*(1*0);decide⟩
theorem con_none:Con Bl0 0 1:=con_0
theorem factor_ok {A:Ask}{l:L5}{n:Nat}{N d w e:Int}(hq:Qtr A l n N d w)(h:(factorE A l n 2 e).2=0):e=0/\Con (factorE A l n 2 e).1 (-1) 1:=by
 unfold factorE at *
 rw [bndP_eq] at h ⊢
 by_cases c:(turnP A l n e).2=0
 ·rw [if_pos c] at h ⊢
  obtain⟨e0,X,Y,hXY,hX,hY⟩:=turn_ok hq c
  refine⟨e0,?_⟩
  rw [hXY] at h ⊢
  simp only at h ⊢
  rw [w64_in (n:=2*X) (by omega) (by omega),w64_in (n:=2*Y) (by omega) (by omega),w64_in (n:=2*Y - 2*X) (by omega) (by omega),if_pos (by omega),bnd_eq] at h ⊢
  by_cases c2:(arcE (2*X) (2*Y)).2=0
  ·rw [if_pos c2,show w64 (2*0)=0 by decide,fade0,bndF_eq] at h ⊢
   simp only [if_true] at h ⊢
   rw [bnd_eq,bnd_eq] at h ⊢
   simp only at h ⊢
   obtain⟨h1,h2,h3⟩:=two_ok h
   obtain⟨h4,h5,h6⟩:=realS_ok h1
   rw [h2,h5]
   rw [h5] at h3
   obtain⟨k1,k2⟩:=con_range (lo:=1048576) (hi:=1048576) (P:=1) (D:=1) (by decide) (by decide) (by decide) h6
   have:=con_times (arc_half hX.1 hX.2 hY.1 hY.2 c2) k1 h3
   exact this
  ·rw [if_neg c2] at h;exact absurd h c2
 ·rw [if_neg c] at h;exact absurd h c
end Go.AM.K
