/- Chapter 1, as far as Meter needs it: roots, directions, arcs, balls of whole numbers. -/
import Derived.Test.YtmcplmhohldpjaaGreatYW2
import Derived.Test.YtmcplmhohldpjaaGreatRe
import Derived.Test.YtmcplmhohldpjaaGreatKNa
namespace Go.AM.K.Mb
set_option linter.unusedVariables false
set_option linter.unusedSimpArgs false
variable {α:Type}
theorem f88_eq {n d:Int}(hd:0 < d)(hd2:d<=9223372036854775807)(hn:-9223372036854775807<=n)(hn2:n<=9223372036854775807){k:Int->Option α}:jc α n d k=k (n / d):=by
 have h0:(d != 0)=true:=by simp;omega
 simp only [jc,af,JL,cJ h0,bi]
 have hm:=Int.emod_add_mul_ediv n d
 have e1:=Int.emod_nonneg n (Int.ne_of_gt hd)
 have e2:=Int.emod_lt_of_pos n hd
 have e3:=Int.tmod_add_mul_tdiv n d
 by_cases hp:0<=n
 ·have q1:Int.tdiv n d=n / d:=Int.tdiv_eq_ediv_of_nonneg hp
  have q2:0<=n / d:=Int.ediv_nonneg hp (by omega)
  have q3:n / d<=n:=Int.ediv_le_self _ hp
  rw [if_neg (by rw [Int.tmod_eq_emod_of_nonneg hp];omega),q1,ak (by omega) (by omega)]
 ·have t1:Int.tdiv n d=-((-n) / d):=by
   rw [show n=-(-n) by omega,Int.neg_tdiv,Int.tdiv_eq_ediv_of_nonneg (by omega),Int.neg_neg]
  have t2:Int.tmod n d=-((-n) % d):=by
   rw [show n=-(-n) by omega,Int.neg_tmod,Int.tmod_eq_emod_of_nonneg (by omega),Int.neg_neg]
  have q2:0<=(-n) / d:=Int.ediv_nonneg (by omega) (by omega)
  have q3:(-n) / d<=-n:=Int.ediv_le_self _ (by omega)
  have m1:=Int.emod_nonneg (-n) (Int.ne_of_gt hd)
  have m2:=Int.emod_lt_of_pos (-n) hd
  have m3:=Int.emod_add_mul_ediv (-n) d
  rw [t1,t2]
  generalize (-n) / d=q at *
  generalize (-n) % d=r at *
  rw [ak (n:=-q) (by omega) (by omega),ak (n:=-q - 1) (by omega) (by omega)]
  by_cases hr:r=0
  ·rw [if_neg (by omega)]
   congr 1
   have:=(Int.ediv_emod_unique (a:=n) (q:=-q) (r:=0) hd).2 ⟨by rw [Int.mul_neg];omega,by omega,hd⟩
   exact this.1.symm
  ·rw [if_pos (by omega)]
   congr 1
   have:=(Int.ediv_emod_unique (a:=n) (q:=-q - 1) (r:=d - r) hd).2 ⟨by rw [Int.mul_sub,Int.mul_neg];omega,by omega,by omega⟩
   exact this.1.symm
theorem f89_eq {n d:Int}(hd:0 < d)(hd2:d<=9223372036854775807)(hn:-9223372036854775807<=n)(hn2:n<=9223372036854775807){k:Int->Option α}:dK α n d k=k (cdv n d):=by
 simp only [dK,af,IU]
 rw [ak (by omega) (by omega),f88_eq hd hd2 (by omega) (by omega)]
 have hb:-9223372036854775807<=(0 - n) / d/\(0 - n) / d<=9223372036854775807:=by
  constructor
  ·rw [Int.le_ediv_iff_mul_le hd]
   have:-9223372036854775807*d<=-9223372036854775807*1:=Int.mul_le_mul_of_nonpos_left (by omega) (by omega)
   omega
  ·have:(0 - n) / d < 9223372036854775808:=by
    rw [Int.ediv_lt_iff_lt_mul hd]
    have:9223372036854775808*1<=9223372036854775808*d:=Int.mul_le_mul_of_nonneg_left (by omega) (by omega)
    omega
   omega
 rw [ak (by omega) (by omega)]
 unfold cdv
 rw [show 0 - n=-n by omega] at *
 congr 1;omega
theorem f171_eq {n d:Int}(hd:0 < d)(hd2:d<=1152921504606846976)(hn:-1152921504606846976<=n)(hn2:n<=1152921504606846976){k:Int->Bool->Option α}:lS α n d k=k (rdv n d) (n.tmod d != 0):=by
 have h0:(d != 0)=true:=by simp;omega
 simp only [lS,af,NJ,cJ h0]
 rw [ak (n:=2*n) (by omega) (by omega),ak (n:=2*n+d) (by omega) (by omega),ak (n:=2*d) (by omega) (by omega),f88_eq (by omega) (by omega) (by omega) (by omega)]
 rfl
theorem ID (a b:Nat):Int.tdiv (a:Int) (b:Int)=((a / b:Nat):Int):=rfl
theorem abo {a b:Nat × Nat}(ha:hI a)(hb:hI b){k:Int->Int->Option α}:yF α (a.1:Int) (a.2:Int) (b.1:Int) (b.2:Int) k=k ((btw a b).1:Int) ((btw a b).2:Int):=by
 obtain⟨h1,h2⟩:=Wh ha hb
 have h3:=ha.lo;have h4:=hb.lo;have h5:=ha.le;have h6:=hb.le;have h7:=ha.hi;have h8:=hb.hi
 have hs:=lW (x:=a.1+b.1) (y:=a.2+b.2) (by omega) (by omega)
 simp only [yF,af,K1,uq,af,EK,ja,af,sK]
 rw [ak (n:=(a.1:Int)+b.1) (by omega) (by omega),ak (n:=(a.2:Int)+b.2) (by omega) (by omega)]
 have e1:((a.1:Int)+b.1)*((a.1:Int)+b.1)=(((a.1+b.1)*(a.1+b.1):Nat):Int):=by push_cast;rfl
 have e2:((a.2:Int)+b.2)*((a.2:Int)+b.2)=(((a.2+b.2)*(a.2+b.2):Nat):Int):=by push_cast;rfl
 rw [e1,e2,ak (n:=(((a.1+b.1)*(a.1+b.1):Nat):Int)) (by omega) (by omega),ak (n:=(((a.2+b.2)*(a.2+b.2):Nat):Int)) (by omega) (by omega),ak (by omega) (by omega),<- Int.natCast_add,rH (by omega)]
 have hr:((isq ((a.1+b.1)*(a.1+b.1)+(a.2+b.2)*(a.2+b.2)):Int) != 0)=true:=by simp;omega
 have e:btw a b=((a.1+b.1)*67108864 / isq ((a.1+b.1)*(a.1+b.1)+(a.2+b.2)*(a.2+b.2)),(a.2+b.2)*67108864 / isq ((a.1+b.1)*(a.1+b.1)+(a.2+b.2)*(a.2+b.2))):=rfl
 have hk:=qE ha hb
 have k1:=hk.hi;have k2:=hk.le
 rw [e] at k1 k2
 simp only [cJ hr,e]
 generalize isq ((a.1+b.1)*(a.1+b.1)+(a.2+b.2)*(a.2+b.2))=r at *
 rw [ak (n:=((a.1:Int)+b.1)*67108864) (by omega) (by omega),ak (n:=((a.2:Int)+b.2)*67108864) (by omega) (by omega)]
 rw [show ((a.1:Int)+b.1)*67108864=(((a.1+b.1)*67108864:Nat):Int) by omega,show ((a.2:Int)+b.2)*67108864=(((a.2+b.2)*67108864:Nat):Int) by omega,ID,ID]
 have key:∀ x y:Nat,x<=67108864->y<=x->k (w64 (x:Int)) (w64 (y:Int))=k (x:Int) (y:Int):=fun x y h1 h2=>by
  rw [ak (n:=(x:Int)) (by omega) (by omega),ak (n:=(y:Int)) (by omega) (by omega)]
 exact key _ _ k1 k2
theorem agf {m:Nat}{k:Int->Int->Option α}:∀ (j f lo hi n:Nat) (a b:Nat × Nat),hI a->hI b->lo<=m->m<=hi->hi<=524288->hi - lo<=2 ^ j->j < f->j < n ->
  lg α (m:Int) (fun x15 _ _ x18 x19 x20 x21=>cK ((m:Int) == x15) (k x18 x19) (k x20 x21)) n (lo:Int) (hi:Int) (a.1:Int) (a.2:Int) (b.1:Int) (b.2:Int)=k ((eL m f lo hi a b).1:Int) ((eL m f lo hi a b).2:Int):=by
 intro j
 induction j with
 | zero=>
  intro f lo hi n a b ha hb h1 h2 h3 h4 hf hn
  obtain⟨f,rfl⟩:∃ z,f=z+1:=⟨f - 1,by omega⟩
  obtain⟨n,rfl⟩:∃ z,n=z+1:=⟨n - 1,by omega⟩
  simp only [lg,nE,eL]
  by_cases e1:m=lo
  ·have g1:((m:Int) == (lo:Int))=true:=by rw [e1];exact beq_self_eq_true _
   have g2:((m:Int) != (lo:Int))=false:=by rw [e1];exact bne_self_eq_false _
   rw [g2,ap,g1,aq,if_pos e1]
  ·have e2:m=hi:=by omega
   have g1:((m:Int) == (lo:Int))=false:=beq_eq_false_iff_ne.2 (by omega)
   have g2:((m:Int) != (lo:Int))=true:=by rw [bne,g1];rfl
   have g3:((m:Int) != (hi:Int))=false:=by rw [e2];exact bne_self_eq_false _
   rw [g2,g3,if_neg e1,if_pos e2,aq,ap,g1,ap]
 | succ j ih=>
  intro f lo hi n a b ha hb h1 h2 h3 h4 hf hn
  obtain⟨f,rfl⟩:∃ z,f=z+1:=⟨f - 1,by omega⟩
  obtain⟨n,rfl⟩:∃ z,n=z+1:=⟨n - 1,by omega⟩
  simp only [lg,nE,eL]
  by_cases e1:m=lo
  ·have g1:((m:Int) == (lo:Int))=true:=by rw [e1];exact beq_self_eq_true _
   have g2:((m:Int) != (lo:Int))=false:=by rw [e1];exact bne_self_eq_false _
   rw [g2,ap,g1,aq,if_pos e1]
  ·have g1:((m:Int) == (lo:Int))=false:=beq_eq_false_iff_ne.2 (by omega)
   have g2:((m:Int) != (lo:Int))=true:=by rw [bne,g1];rfl
   rw [g2,if_neg e1,aq]
   by_cases e2:m=hi
   ·have g3:((m:Int) != (hi:Int))=false:=by rw [e2];exact bne_self_eq_false _
    rw [g3,if_pos e2,ap,g1,ap]
   ·have g3:((m:Int) != (hi:Int))=true:=bne_iff_ne.2 (by omega)
    rw [g3,if_neg e2,aq,abo ha hb]
    have hm:w64 (Int.tdiv (w64 ((lo:Int)+(hi:Int))) 2)=(((lo+hi) / 2:Nat):Int):=by
     rw [ak (n:=(lo:Int)+hi) (by omega) (by omega),Int.tdiv_eq_ediv_of_nonneg (by omega),ak (by omega) (by omega)];push_cast;rfl
    rw [hm]
    have hp:2 ^ (j+1)=2*2 ^ j:=Nat.pow_succ'
    by_cases h:(lo+hi) / 2<=m
    ·rw [decide_eq_true (by exact_mod_cast h),aq,if_pos h]
     exact ih f _ _ n _ _ (qE ha hb) hb h h2 h3 (by omega) (by omega) (by omega)
    ·rw [decide_eq_false (by intro h';exact h (by exact_mod_cast h')),ap,if_neg h]
     exact ih f _ _ n _ _ ha (qE ha hb) h1 (by omega) (by omega) (by omega) (by omega) (by omega)
theorem P9 {m:Nat}(hm:m<=524288){k:Int->Int->Option α}:ik α (m:Int) k=k ((fir m).1:Int) ((fir m).2:Int):=by
 simp only [ik,af,La,su,af,Df]
 rw [show (2251799813685248:Int)=((2251799813685248:Nat):Int) from rfl,rH (by decide),W7 (a:=47453132) (by decide) (by decide) (by decide)]
 have:=agf (α:=α) (m:=m) (k:=k) 19 20 0 524288 aN (67108864,0) (47453132,47453132) ⟨by simp,by simp,by simp⟩ ⟨by simp,by simp,by simp⟩ (by omega) hm (by omega) (by decide) (by omega) (by have:=cB;omega)
 exact this
end Go.AM.K.Mb
