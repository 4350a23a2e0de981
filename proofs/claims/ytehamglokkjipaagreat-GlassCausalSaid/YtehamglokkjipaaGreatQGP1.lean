/- Chapter 2: quotients, great products, comparisons of fractions, roots. -/
import Derived.Test.YtehamglokkjipaaGreatKT
import Derived.Test.YtehamglokkjipaaGreatKNa
namespace Go.AM.K
set_option linter.unusedVariables false
set_option linter.unusedSimpArgs false
variable {α:Type}
theorem flr_core {n d:Int}(hd:0 < d)(hd2:d<=9223372036854775807)(hn:-9223372036854775807<=n)(hn2:n<=9223372036854775807){k:Int->Option α} :
  (gK (d != 0) (gK (d != 0) (cK (decide ((Int.tmod n d) < 0)) (k (w64 ((w64 (Int.tdiv n d)) - 1))) (k (w64 (Int.tdiv n d))))))=k (n / d):=by
 have h0:(d != 0)=true:=by simp;omega
 simp only [gK_of h0,cK_dec]
 have hm:=Int.emod_add_mul_ediv n d
 have e1:=Int.emod_nonneg n (Int.ne_of_gt hd)
 have e2:=Int.emod_lt_of_pos n hd
 have e3:=Int.tmod_add_mul_tdiv n d
 by_cases hp:0<=n
 ·have q1:Int.tdiv n d=n / d:=Int.tdiv_eq_ediv_of_nonneg hp
  have q2:0<=n / d:=Int.ediv_nonneg hp (by omega)
  have q9993:n / d<=n:=Int.ediv_le_self _ hp
  rw [if_neg (by rw [Int.tmod_eq_emod_of_nonneg hp];omega),q1,w64_in (by omega) (by omega)]
 ·have t1:Int.tdiv n d=-((-n) / d):=by
   rw [show n=-(-n) by omega,Int.neg_tdiv,Int.tdiv_eq_ediv_of_nonneg (by omega),Int.neg_neg]
  have t2:Int.tmod n d=-((-n) % d):=by
   rw [show n=-(-n) by omega,Int.neg_tmod,Int.tmod_eq_emod_of_nonneg (by omega),Int.neg_neg]
  have q2:0<=(-n) / d:=Int.ediv_nonneg (by omega) (by omega)
  have q9993:(-n) / d<=-n:=Int.ediv_le_self _ (by omega)
  have m1:=Int.emod_nonneg (-n) (Int.ne_of_gt hd)
  have m2:=Int.emod_lt_of_pos (-n) hd
  have m3:=Int.emod_add_mul_ediv (-n) d
  rw [t1,t2]
  generalize (-n) / d=q at *
  generalize (-n) % d=r at *
  rw [w64_in (n:=-q) (by omega) (by omega),w64_in (n:=-q - 1) (by omega) (by omega)]
  by_cases hr:r=0
  ·rw [if_neg (by omega)]
   congr 1
   have:=(Int.ediv_emod_unique (a:=n) (q:=-q) (r:=0) hd).2 ⟨by rw [Int.mul_neg];omega,by omega,hd⟩
   exact this.1.symm
  ·rw [if_pos (by omega)]
   congr 1
   have:=(Int.ediv_emod_unique (a:=n) (q:=-q - 1) (r:=d - r) hd).2 ⟨by rw [Int.mul_sub,Int.mul_neg];omega,by omega,by omega⟩
   exact this.1.symm
theorem f108_eq {n d:Int}(hd:0 < d)(hd2:d<=9223372036854775807)(hn:-9223372036854775807<=n)(hn2:n<=9223372036854775807){k:Int->Option α}:f108_0 α n d k=k (n / d):=flr_core hd hd2 hn hn2
theorem div_bd {n d:Int}(hd:0 < d)(hn:-9223372036854775807<=n)(hn2:n<=9223372036854775807):-9223372036854775807<=n / d/\n / d<=9223372036854775807:=by
 constructor
 ·rw [Int.le_ediv_iff_mul_le hd]
  have:-9223372036854775807*d<=-9223372036854775807*1:=Int.mul_le_mul_of_nonpos_left (by omega) (by omega)
  omega
 ·have:n / d < 9223372036854775808:=by
   rw [Int.ediv_lt_iff_lt_mul hd]
   have:9223372036854775808*1<=9223372036854775808*d:=Int.mul_le_mul_of_nonneg_left (by omega) (by omega)
   omega
  omega
theorem f109_eq {n d:Int}(hd:0 < d)(hd2:d<=9223372036854775807)(hn:-9223372036854775807<=n)(hn2:n<=9223372036854775807){k:Int->Option α}:f109_0 α n d k=k (cdv n d):=by
 simp only [f109_0,f109_0g]
 rw [w64_in (by omega) (by omega),f108_eq hd hd2 (by omega) (by omega)]
 have hb:=div_bd (n:=0 - n) hd (by omega) (by omega)
 rw [w64_in (by omega) (by omega)]
 unfold cdv
 rw [show 0 - n=-n by omega] at *
 congr 1;omega
def inB (n lo hi:Int):Bool:=decide (lo<=n) && decide (n<=hi)
theorem inB_iff {n lo hi:Int}:inB n lo hi=true ↔ lo<=n/\n<=hi:=by simp [inB]
theorem f51_eq {n lo hi:Int}{k:Bool->Option α}:f51_0 α n lo hi k=k (inB n lo hi):=by
 simp only [f51_0,f51_0g,inB]
 cases decide (lo<=n) <;> rfl
theorem f57_eq {n lo hi:Int}{k:Bool->Option α}:f57_0 α n lo hi k=k (inB n lo hi):=by
 simp only [f57_0,f57_0g,inB]
 cases decide (lo<=n) <;> rfl
end Go.AM.K
