/- Chapter 1 as the document says it, as far as Meter needs it: roots, directions, arcs. -/
import Derived.Test.YtehamglokkjipaaGreatQMB2
import Derived.Test.YtehamglokkjipaaGreatQGP1
namespace Go.AM.K.Mb
set_option linter.unusedVariables false
set_option linter.unusedSimpArgs false
variable {α:Type}
theorem f57_eq {n lo hi:Int}{k:Bool->Option α}:f57_0 α n lo hi k=k (decide (lo<=n/\n<=hi)):=by
 simp only [f57_0,f57_0g]
 by_cases h:lo<=n <;> simp [h]
theorem R171_eq {N:Nat}(hN:N < 288230376151711744){k:Int->Int->Bool->Option α}:∀ (j n r:Nat),j < 31->j+1 < n->r+2 ^ (j+1)<=2147483648->r*r<=N->N < (r+2 ^ (j+1))*(r+2 ^ (j+1)) ->
  R171_0_0 α (N:Int) k n (r:Int) ((2 ^ j:Nat):Int)=k (isq N:Int) 0 false:=by
 intro j
 induction j with
 | zero=>
  intro n r h0 hn hr h1 h2
  obtain⟨n,rfl⟩:∃ z,n=z+2:=⟨n - 2,by omega⟩
  have hb:(r+1)*(r+1)<=2147483648*2147483648:=Nat.mul_le_mul (by omega) (by omega)
  have e1:((r:Int)+1)*((r:Int)+1)=(((r+1)*(r+1):Nat):Int):=by push_cast;rfl
  simp only [R171_0_0,S171_0_0,S171_0_0g]
  rw [show (((2 ^ 0:Nat)):Int)=1 from rfl,show decide ((0:Int) < 1)=true by decide,cK_true,w64_in (n:=(r:Int)+1) (by omega) (by omega),e1,w64_in (n:=(((r+1)*(r+1):Nat):Int)) (by omega) (by omega),show w64 (Int.tdiv 1 2)=0 by decide,show decide ((0:Int) < 0)=false by decide,cK_false,cK_false]
  by_cases hc:(r+1)*(r+1)<=N
  ·rw [decide_eq_true (by omega),cK_true,isq_uniq hN hc (by simpa using h2)]
   rfl
  ·rw [decide_eq_false (by omega),cK_false,isq_uniq hN h1 (by omega)]
 | succ j ih=>
  intro n r h0 hn hr h1 h2
  obtain⟨n,rfl⟩:∃ z,n=z+1:=⟨n - 1,by omega⟩
  have hp:2 ^ (j+1+1)=2*2 ^ (j+1):=Nat.pow_succ'
  have hq:2 ^ (j+1)=2*2 ^ j:=Nat.pow_succ'
  have hpos:=Nat.two_pow_pos j
  have hb:(r+2 ^ (j+1))*(r+2 ^ (j+1))<=2147483648*2147483648:=Nat.mul_le_mul (by omega) (by omega)
  have e1:((r:Int)+((2 ^ (j+1):Nat):Int))*((r:Int)+((2 ^ (j+1):Nat):Int))=(((r+2 ^ (j+1))*(r+2 ^ (j+1)):Nat):Int):=by
   rw [<- Int.natCast_add,<- Int.natCast_mul]
  have e2:w64 (Int.tdiv ((2 ^ (j+1):Nat):Int) 2)=((2 ^ j:Nat):Int):=by
   rw [show (2:Int)=((2:Nat):Int) from rfl,tdiv_nat,hq,Nat.mul_div_cancel_left _ (by decide),w64_in (by omega) (by omega)]
  simp only [R171_0_0,S171_0_0,S171_0_0g]
  rw [decide_eq_true (show (0:Int) < ((2 ^ (j+1):Nat):Int) by omega),cK_true,w64_in (n:=(r:Int)+((2 ^ (j+1):Nat):Int)) (by omega) (by omega),e1,w64_in (n:=(((r+2 ^ (j+1))*(r+2 ^ (j+1)):Nat):Int)) (by omega) (by omega),e2]
  by_cases hc:(r+2 ^ (j+1))*(r+2 ^ (j+1))<=N
  ·rw [decide_eq_true (by omega),cK_true,<- Int.natCast_add]
   exact ih n (r+2 ^ (j+1)) (by omega) (by omega) (by omega) hc (by rw [Nat.add_assoc,<- Nat.two_mul,<- hp];exact h2)
  ·rw [decide_eq_false (by omega),cK_false]
   exact ih n r (by omega) (by omega) (by omega) h1 (by omega)
theorem f171_eq {n:Nat}(h:n < 288230376151711744){k:Int->Option α}:f171_0 α (n:Int) k=k (isq n:Int):=by
 have hf:=fuel_ge
 simp only [f171_0,f171_0g,L171_0_0]
 exact R171_eq (k:=fun x6 _ _=>k x6) h 30 fuel 0 (by omega) (by omega) (by decide) (by omega) (by show n < (0+2147483648)*(0+2147483648);omega)
theorem btw_step {a b:Nat × Nat}(ha:DirOk a)(hb:DirOk b){k:Int->Int->Option α}{f:Int->(Int->Option α)->Option α}(hf:∀ (n:Nat) (kk:Int->Option α),n < 288230376151711744->f (n:Int) kk=kk (isq n:Int)) :
  f (w64 ((w64 ((w64 ((a.1:Int)+b.1))*(w64 ((a.1:Int)+b.1))))+(w64 ((w64 ((a.2:Int)+b.2))*(w64 ((a.2:Int)+b.2)))))) (fun x=>gK (x != 0) (gK (x != 0) (k (w64 (Int.tdiv (w64 ((w64 ((a.1:Int)+b.1))*67108864)) x)) (w64 (Int.tdiv (w64 ((w64 ((a.2:Int)+b.2))*67108864)) x)))))=
   k ((btw a b).1:Int) ((btw a b).2:Int):=by
 obtain⟨h1,h2⟩:=btw_r ha hb
 have h3:=ha.lo;have h4:=hb.lo;have h5:=ha.le;have h6:=hb.le;have h7:=ha.hi;have h8:=hb.hi
 have hs:=sq_bd (x:=a.1+b.1) (y:=a.2+b.2) (by omega) (by omega)
 rw [w64_in (n:=(a.1:Int)+b.1) (by omega) (by omega),w64_in (n:=(a.2:Int)+b.2) (by omega) (by omega)]
 have e1:((a.1:Int)+b.1)*((a.1:Int)+b.1)=(((a.1+b.1)*(a.1+b.1):Nat):Int):=by push_cast;rfl
 have e2:((a.2:Int)+b.2)*((a.2:Int)+b.2)=(((a.2+b.2)*(a.2+b.2):Nat):Int):=by push_cast;rfl
 rw [e1,e2,w64_in (n:=(((a.1+b.1)*(a.1+b.1):Nat):Int)) (by omega) (by omega),w64_in (n:=(((a.2+b.2)*(a.2+b.2):Nat):Int)) (by omega) (by omega),w64_in (by omega) (by omega),<- Int.natCast_add,hf _ _ (by omega)]
 have hr:((isq ((a.1+b.1)*(a.1+b.1)+(a.2+b.2)*(a.2+b.2)):Int) != 0)=true:=bne_iff_ne.2 (by omega)
 have e:btw a b=((a.1+b.1)*67108864 / isq ((a.1+b.1)*(a.1+b.1)+(a.2+b.2)*(a.2+b.2)),(a.2+b.2)*67108864 / isq ((a.1+b.1)*(a.1+b.1)+(a.2+b.2)*(a.2+b.2))):=rfl
 have hk:=btw_ok ha hb
 have k1:=hk.hi;have k2:=hk.le
 rw [e] at k1 k2
 simp only [gK_of hr,e]
 generalize isq ((a.1+b.1)*(a.1+b.1)+(a.2+b.2)*(a.2+b.2))=r at *
 rw [w64_in (n:=((a.1:Int)+b.1)*67108864) (by omega) (by omega),w64_in (n:=((a.2:Int)+b.2)*67108864) (by omega) (by omega)]
 rw [show ((a.1:Int)+b.1)*67108864=(((a.1+b.1)*67108864:Nat):Int) by omega,show ((a.2:Int)+b.2)*67108864=(((a.2+b.2)*67108864:Nat):Int) by omega,tdiv_nat,tdiv_nat]
 have key:∀ x y:Nat,x<=67108864->y<=x->k (w64 (x:Int)) (w64 (y:Int))=k (x:Int) (y:Int):=fun x y h1 h2=>by
  rw [w64_in (n:=(x:Int)) (by omega) (by omega),w64_in (n:=(y:Int)) (by omega) (by omega)]
 exact key _ _ k1 k2
theorem R167_eq {m:Nat}{k:Int->Int->Option α}:∀ (j f lo hi n:Nat) (a b:Nat × Nat),DirOk a->DirOk b->lo < m->m<=hi->hi<=524288->hi - lo<=2 ^ j->j < f->j < n ->
  R167_0_0 α (m:Int) k (fun _ _ _ _ _ x28 x29=>k x28 x29) n (lo:Int) (hi:Int) (a.1:Int) (a.2:Int) (b.1:Int) (b.2:Int)=k ((firGo m f lo hi a b).1:Int) ((firGo m f lo hi a b).2:Int):=by
 intro j
 induction j with
 | zero=>
  intro f lo hi n a b ha hb h1 h2 h3 h4 hf hn
  obtain⟨f,rfl⟩:∃ z,f=z+1:=⟨f - 1,by omega⟩
  obtain⟨n,rfl⟩:∃ z,n=z+1:=⟨n - 1,by omega⟩
  have e2:m=hi:=by omega
  simp only [R167_0_0,S167_0_0,S167_0_0g,firGo]
  have g3:((m:Int) != (hi:Int))=false:=by rw [e2];exact bne_self_eq_false _
  rw [g3,cK_false,if_neg (by omega),if_pos e2]
 | succ j ih=>
  intro f lo hi n a b ha hb h1 h2 h3 h4 hf hn
  obtain⟨f,rfl⟩:∃ z,f=z+2:=⟨f - 2,by omega⟩
  obtain⟨n,rfl⟩:∃ z,n=z+1:=⟨n - 1,by omega⟩
  simp only [R167_0_0,S167_0_0,S167_0_0g]
  by_cases e2:m=hi
  ·have g3:((m:Int) != (hi:Int))=false:=by rw [e2];exact bne_self_eq_false _
   rw [g3,cK_false]
   simp only [firGo]
   rw [if_neg (by omega),if_pos e2]
  ·have g3:((m:Int) != (hi:Int))=true:=bne_iff_ne.2 (by omega)
   have hm:w64 (Int.tdiv (w64 ((lo:Int)+(hi:Int))) 2)=(((lo+hi) / 2:Nat):Int):=by
    rw [w64_in (n:=(lo:Int)+hi) (by omega) (by omega),Int.tdiv_eq_ediv_of_nonneg (by omega),w64_in (by omega) (by omega)];push_cast;rfl
   rw [g3,cK_true,hm]
   have hp:2 ^ (j+1)=2*2 ^ j:=Nat.pow_succ'
   refine (btw_step ha hb (k:=fun x y=>cK ((((lo+hi) / 2:Nat):Int) == (m:Int)) (k x y) (cK (decide ((((lo+hi) / 2:Nat):Int) < (m:Int))) (R167_0_0 α (m:Int) k (fun _ _ _ _ _ x28 x29=>k x28 x29) n (((lo+hi) / 2:Nat):Int) (hi:Int) x y (b.1:Int) (b.2:Int)) (R167_0_0 α (m:Int) k (fun _ _ _ _ _ x28 x29=>k x28 x29) n (lo:Int) (((lo+hi) / 2:Nat):Int) (a.1:Int) (a.2:Int) x y))) (fun n kk h=>f171_eq h)).trans ?_
   by_cases h:(lo+hi) / 2=m
   ·have g:((((lo+hi) / 2:Nat):Int) == (m:Int))=true:=by rw [h];exact beq_self_eq_true _
    rw [g,cK_true]
    simp only [firGo]
    rw [if_neg (by omega),if_neg e2,if_pos (by omega),if_pos h.symm]
   ·have g:((((lo+hi) / 2:Nat):Int) == (m:Int))=false:=beq_eq_false_iff_ne.2 (by omega)
    rw [g,cK_false]
    have hfg:firGo m (f+2) lo hi a b=if (lo+hi) / 2<=m then firGo m (f+1) ((lo+hi) / 2) hi (btw a b) b else firGo m (f+1) lo ((lo+hi) / 2) a (btw a b):=by
     rw [firGo,if_neg (by omega),if_neg e2]
    rw [hfg]
    by_cases h':(lo+hi) / 2 < m
    ·rw [decide_eq_true (by omega),cK_true,if_pos (by omega)]
     exact ih (f+1) _ _ n _ _ (btw_ok ha hb) hb h' h2 h3 (by omega) (by omega) (by omega)
    ·rw [decide_eq_false (by omega),cK_false,if_neg (by omega)]
     exact ih (f+1) _ _ n _ _ ha (btw_ok ha hb) h1 (by omega) (by omega) (by omega) (by omega) (by omega)
theorem R167_10 {x:Int}{k1:Int->Int->Option α}{k2:Int->Int->Bool->Int->Int->Int->Int->Option α}:∀ (n:Nat) (a b c d e f:Int),R167_1_0 α x k1 k2 n a b c d e f=R167_0_0 α x k1 k2 n a b c d e f/\R167_2_0 α x k1 k2 n a b c d e f=R167_0_0 α x k1 k2 n a b c d e f/\R167_3_0 α x k1 k2 n a b c d e f=R167_0_0 α x k1 k2 n a b c d e f
 | 0,_,_,_,_,_,_=>⟨rfl,rfl,rfl⟩
 | n+1,a,b,c,d,e,f=>by
  have h1:R167_1_0 α x k1 k2 n=R167_0_0 α x k1 k2 n:=by funext a b c d e f;exact (R167_10 n a b c d e f).1
  have h2:R167_2_0 α x k1 k2 n=R167_0_0 α x k1 k2 n:=by funext a b c d e f;exact (R167_10 n a b c d e f).2.1
  have h3:R167_3_0 α x k1 k2 n=R167_0_0 α x k1 k2 n:=by funext a b c d e f;exact (R167_10 n a b c d e f).2.2
  simp only [R167_0_0,R167_1_0,R167_2_0,R167_3_0,h1,h2,h3]
  exact⟨rfl,rfl,rfl⟩
theorem fir_loop {m:Nat}(h0:0 < m)(hm:m<=524288){k:Int->Int->Option α} :
  R167_0_0 α (m:Int) k (fun _ _ _ _ _ x28 x29=>k x28 x29) fuel 0 524288 67108864 0 47453132 47453132=k ((fir m).1:Int) ((fir m).2:Int):=
 R167_eq (α:=α) (m:=m) (k:=k) 19 20 0 524288 fuel (67108864,0) (47453132,47453132) ⟨by simp,by simp,by simp⟩ ⟨by simp,by simp,by simp⟩ h0 hm (by omega) (by decide) (by omega) (by have:=fuel_ge;omega)
theorem f91_eq {n d:Int}(hd:0 < d)(hd2:d<=4611686018427387904){k:Int->Option α}:f91_0 α n d k=k (n % d):=by
 have h0:(d != 0)=true:=bne_iff_ne.2 (by omega)
 simp only [f91_0,f91_0g,gK_of h0,cK_dec]
 have m1:=Int.emod_nonneg n (Int.ne_of_gt hd)
 have m2:=Int.emod_lt_of_pos n hd
 by_cases hn:0<=n
 ·rw [Int.tmod_eq_emod_of_nonneg hn,if_neg (by omega)]
 ·have t2:Int.tmod n d=-((-n) % d):=by
   rw [show n=-(-n) by omega,Int.neg_tmod,Int.tmod_eq_emod_of_nonneg (by omega),Int.neg_neg]
  have m3:=Int.emod_nonneg (-n) (Int.ne_of_gt hd)
  have m4:=Int.emod_lt_of_pos (-n) hd
  have m5:=Int.emod_add_mul_ediv (-n) d
  rw [t2]
  generalize (-n) % d=r at *
  generalize (-n) / d=q at *
  by_cases hr:r=0
  ·rw [if_neg (by omega)]
   congr 1
   have:=(Int.ediv_emod_unique (a:=n) (q:=-q) (r:=0) hd).2 ⟨by rw [Int.mul_neg];omega,by omega,hd⟩
   rw [this.2];omega
  ·rw [if_pos (by omega),w64_in (by omega) (by omega)]
   congr 1
   have:=(Int.ediv_emod_unique (a:=n) (q:=-q - 1) (r:=d - r) hd).2 ⟨by rw [Int.mul_sub,Int.mul_neg];omega,by omega,by omega⟩
   rw [this.2];omega
theorem fir0:fir 0=(67108864,0):=by
 unfold fir
 rw [firGo,if_pos rfl]
theorem low8 {m:Nat}(hm:m<=524288){k:Int->Int->Option α} :
  f171_0 α 2251799813685248 (fun x3=>cK ((m:Int) == 0) (k 67108864 0) (R167_0_0 α (m:Int) k (fun _ _ _ _ _ x28 x29=>k x28 x29) fuel 0 524288 67108864 0 x3 x3))=k ((fir m).1:Int) ((fir m).2:Int):=by
 rw [show (2251799813685248:Int)=((2251799813685248:Nat):Int) from rfl,f171_eq (by decide),isq_uniq (a:=47453132) (by decide) (by decide) (by decide)]
 by_cases h:m=0
 ·subst h
  rw [fir0];rfl
 ·rw [beq_eq_false_iff_ne.2 (by omega),cK_false]
  exact fir_loop (by omega) hm
theorem f167_3_eq {m:Nat}(hm:m<=524288){k:Int->Int->Option α}:f167_3 α (m:Int) k=k ((fir m).1:Int) ((fir m).2:Int):=by
 simp only [f167_3,f167_3g,f91_eq (show (0:Int) < 4194304 by decide) (by decide),L167_3_0]
 rw [show (m:Int) % 4194304=(m:Int) by omega,decide_eq_false (by omega),cK_false,decide_eq_false (by omega),cK_false,decide_eq_false (by omega),cK_false]
 simp only [(R167_10 _ _ _ _ _ _ _).2.2]
 exact low8 hm
theorem f167_2_eq {r:Nat}(hr:r < 1048576){k:Int->Int->Option α}:f167_2 α (r:Int) k=k (quad r).1 (quad r).2:=by
 simp only [f167_2,f167_2g,f91_eq (show (0:Int) < 4194304 by decide) (by decide),L167_2_0]
 rw [show (r:Int) % 4194304=(r:Int) by omega,decide_eq_false (by omega),cK_false,decide_eq_false (by omega),cK_false]
 simp only [(R167_10 _ _ _ _ _ _ _).2.1]
 unfold quad
 by_cases h:524288 < r
 ·rw [decide_eq_true (by omega),cK_true,w64_in (by omega) (by omega),show (1048576:Int) - (r:Int)=((1048576 - r:Nat):Int) by omega,f167_3_eq (by omega),if_pos h]
 ·rw [decide_eq_false (by omega),cK_false,if_neg h]
  exact low8 (by omega)
theorem f167_1_eq {r:Nat}(hr:r < 2097152){k:Int->Int->Option α}:f167_1 α (r:Int) k=k (dir (r:Int)).1 (dir (r:Int)).2:=by
 simp only [f167_1,f167_1g,f91_eq (show (0:Int) < 4194304 by decide) (by decide),L167_1_0]
 rw [show (r:Int) % 4194304=(r:Int) by omega,decide_eq_false (by omega),cK_false,dir_half hr]
 simp only [(R167_10 _ _ _ _ _ _ _).1]
 by_cases h2:1048576<=r
 ·obtain⟨q,hq⟩:∃ q,q=r - 1048576:=⟨_,rfl⟩
  have hb:=quad_bd q
  have:=hb.h1;have:=hb.h2;have:=hb.h3;have:=hb.h4
  rw [decide_eq_true (by omega),cK_true,if_pos h2,w64_in (by omega) (by omega),show (r:Int) - 1048576=(q:Int) by omega,f167_2_eq (by omega),<- hq,w64_in (by omega) (by omega)]
  simp only [trn1]
  rw [show 0 - (quad q).2=-(quad q).2 by omega]
 ·rw [decide_eq_false (by omega),cK_false,if_neg h2]
  by_cases h3:524288 < r
  ·rw [decide_eq_true (by omega),cK_true,w64_in (by omega) (by omega),show (1048576:Int) - (r:Int)=((1048576 - r:Nat):Int) by omega,f167_2_eq (by omega)]
   unfold quad
   rw [if_neg (by omega),if_pos h3]
  ·rw [decide_eq_false (by omega),cK_false]
   unfold quad
   rw [if_neg h3]
   exact low8 (by omega)
theorem f167_eq {m:Int}{k:Int->Int->Option α}:f167_0 α m k=k (dir m).1 (dir m).2:=by
 simp only [f167_0,f167_0g,f91_eq (show (0:Int) < 4194304 by decide) (by decide),L167_0_0]
 obtain⟨r,hr⟩:∃ r:Nat,r=(m % 4194304).toNat:=⟨_,rfl⟩
 have hlt:r < 4194304:=by omega
 rw [show m % 4194304=(r:Int) by omega]
 have hdir:dir m=if 2097152<=r then trn2 (dir ((r - 2097152:Nat):Int)) else dir (r:Int):=by
  unfold dir
  rw [<- hr]
  simp only
  by_cases h:2097152<=r
  ·have e1:((((r - 2097152:Nat):Int)) % 4194304).toNat=r - 2097152:=by omega
   rw [if_pos h,if_pos h,e1,if_neg (show ¬ 2097152<=r - 2097152 by omega)]
   split <;> rfl
  ·have e1:(((r:Int)) % 4194304).toNat=r:=by omega
   rw [if_neg h,if_neg h,e1,if_neg h]
 rw [hdir]
 by_cases h:2097152<=r
 ·have hb:=dir_bd ((r - 2097152:Nat):Int)
  have:=hb.h1;have:=hb.h2;have:=hb.h3;have:=hb.h4
  rw [decide_eq_true (by omega),cK_true,if_pos h,w64_in (by omega) (by omega),show (r:Int) - 2097152=((r - 2097152:Nat):Int) by omega,f167_1_eq (by omega),w64_in (by omega) (by omega),w64_in (by omega) (by omega)]
  simp only [trn2]
  rw [show 0 - (dir ((r - 2097152:Nat):Int)).1=-(dir ((r - 2097152:Nat):Int)).1 by omega,show 0 - (dir ((r - 2097152:Nat):Int)).2=-(dir ((r - 2097152:Nat):Int)).2 by omega]
 ·rw [decide_eq_false (by omega),cK_false,if_neg h,dir_half (by omega)]
  by_cases h2:1048576<=r
  ·obtain⟨q,hq⟩:∃ q,q=r - 1048576:=⟨_,rfl⟩
   have hb:=quad_bd q
   have:=hb.h1;have:=hb.h2;have:=hb.h3;have:=hb.h4
   rw [decide_eq_true (by omega),cK_true,if_pos h2,w64_in (by omega) (by omega),show (r:Int) - 1048576=(q:Int) by omega,f167_1_eq (by omega),dir_half (by omega),if_neg (by omega),<- hq,w64_in (by omega) (by omega)]
   simp only [trn1]
   rw [show 0 - (quad q).2=-(quad q).2 by omega]
  ·rw [decide_eq_false (by omega),cK_false,if_neg h2]
   by_cases h3:524288 < r
   ·rw [decide_eq_true (by omega),cK_true,w64_in (by omega) (by omega),show (1048576:Int) - (r:Int)=((1048576 - r:Nat):Int) by omega,f167_1_eq (by omega),dir_half (by omega),if_neg (by omega)]
    unfold quad
    rw [if_neg (by omega),if_pos h3]
   ·rw [decide_eq_false (by omega),cK_false]
    unfold quad
    rw [if_neg h3]
    exact low8 (by omega)
theorem f147_eq {n:Int}(h1:-1152921504606846976<=n)(h2:n<=1152921504606846976){k:Int->Bool->Option α}:∃ b,f147_0 α n 64 k=k (rdv n 64) b:=by
 simp only [f147_0,f147_0g]
 rw [f76_eq (by decide) (by decide) (by omega) (by omega),w64_in (n:=n / 64*64) (by omega) (by omega),w64_in (n:=n - n / 64*64) (by omega) (by omega),w64_in (n:=64 - (n - n / 64*64)) (by omega) (by omega),cK_dec]
 unfold rdv
 split
 ·rw [w64_in (by omega) (by omega)]
  exact⟨_,by congr 1;omega⟩
 ·exact⟨_,by congr 1;omega⟩
theorem f107_eq {n:Int}{k:Bool->Option α}:f107_0 α n k=k (decide (-67108864<=n/\n<=67108864)):=by simp only [f107_0,f107_0g,f57_eq]
theorem f59_ok {x y r:Int}(h:okB x y r=true){k:Int->Int->Int->Int->Option α}:f59_0 α x y r k=k x y r 0:=by
 unfold okB at h
 obtain⟨h1,h2,h3⟩:=of_decide_eq_true h
 simp only [f59_0,f59_0g,J59_0_0,J59_0_0g,f107_eq,f57_eq]
 rw [decide_eq_true h1,Bool.not_true,cK_false,decide_eq_true h2,Bool.not_true,cK_false,decide_eq_true h3,Bool.not_true,cK_false]
end Go.AM.K.Mb
