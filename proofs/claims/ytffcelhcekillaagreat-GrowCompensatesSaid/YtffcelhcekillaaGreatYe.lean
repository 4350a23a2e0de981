/- Texts of one kind, put together. -/
import Derived.Test.YtffcelhcekillaaGreatYb
import Derived.Test.YtffcelhcekillaaGreatYc
namespace Go.AM.K.Mb
set_option linter.unusedVariables false
set_option linter.unusedSimpArgs false
variable {α:Type}
theorem f8_eq {n lo hi:Int}{k:Bool->Option α}:cF α n lo hi k=k (decide (lo<=n/\n<=hi)):=by
 simp only [cF,af,SO];by_cases h:lo<=n <;> simp [h]
theorem f91_eq {n d:Int}(hd:0 < d)(hd2:d<=9223372036854775807)(hn:-9223372036854775807<=n)(hn2:n<=9223372036854775807){k:Int->Option α}:dD α n d k=k (n / d):=by
 rw [dD,af,O6];exact aeB hd hd2 hn hn2
theorem f91_raw {n d:Int}(hd:d ≠ 0){k:Int->Option α}:dD α n d k=k (flr n d):=by
 simp only [dD,af,O6];have g:(d != 0)=true:=bne_iff_ne.2 hd;rw [bO g,bO g,aK];unfold flr;split <;> rfl
theorem f69_raw {n d:Int}(hd:d ≠ 0){k:Int->Option α}:cn α n d k=k (cel n d):=by
 simp only [cn,af,aj7,f91_raw hd];rfl
theorem f69_eq {n d:Int}(hd:0 < d)(hd2:d<=9223372036854775807)(hn:-9223372036854775807<=n)(hn2:n<=9223372036854775807){k:Int->Option α}:cn α n d k=k (cdv n d):=by
 rw [f69_raw (by omega),sF hd hd2 hn hn2]
theorem arX {N:Nat}(hN:N < 288230376151711744){k:Int->Int->Bool->Option α}:∀ (j n r:Nat),j < 31->j+1 < n->r+2 ^ (j+1)<=2147483648->r*r<=N->N < (r+2 ^ (j+1))*(r+2 ^ (j+1)) ->
  lM α (N:Int) k n (r:Int) ((2 ^ j:Nat):Int)=k (isq N:Int) 0 false:=by
 intro j
 induction j with
 | zero=>
  intro n r h0 hn hr h1 h2;obtain⟨n,rfl⟩:∃ z,n=z+2:=⟨n - 2,by omega⟩
  have hb:(r+1)*(r+1)<=2147483648*2147483648:=Nat.mul_le_mul (by omega) (by omega);have e1:((r:Int)+1)*((r:Int)+1)=(((r+1)*(r+1):Nat):Int):=by push_cast;rfl
  simp only [lM,pO];rw [show (((2 ^ 0:Nat)):Int)=1 from rfl,show decide ((0:Int) < 1)=true by decide,ap,aj (n:=(r:Int)+1) (by omega) (by omega),e1,aj (n:=(((r+1)*(r+1):Nat):Int)) (by omega) (by omega),show w64 (Int.tdiv 1 2)=0 by decide,show decide ((0:Int) < 0)=false by decide,al,al];by_cases hc:(r+1)*(r+1)<=N
  ·rw [decide_eq_true (by omega),ap,vq hN hc (by simpa using h2)]
   rfl
  ·rw [decide_eq_false (by omega),al,vq hN h1 (by omega)]
 | succ j ih=>
  intro n r h0 hn hr h1 h2;obtain⟨n,rfl⟩:∃ z,n=z+1:=⟨n - 1,by omega⟩
  have hp:2 ^ (j+1+1)=2*2 ^ (j+1):=Nat.pow_succ';have hq:2 ^ (j+1)=2*2 ^ j:=Nat.pow_succ';have hpos:=Nat.two_pow_pos j;have hb:(r+2 ^ (j+1))*(r+2 ^ (j+1))<=2147483648*2147483648:=Nat.mul_le_mul (by omega) (by omega);have e1:((r:Int)+((2 ^ (j+1):Nat):Int))*((r:Int)+((2 ^ (j+1):Nat):Int))=(((r+2 ^ (j+1))*(r+2 ^ (j+1)):Nat):Int):=by
   rw [<- Int.natCast_add,<- Int.natCast_mul]
  have e2:w64 (Int.tdiv ((2 ^ (j+1):Nat):Int) 2)=((2 ^ j:Nat):Int):=by
   rw [show (2:Int)=((2:Nat):Int) from rfl,oD,hq,Nat.mul_div_cancel_left _ (by decide),aj (by omega) (by omega)]
  simp only [lM,pO];rw [decide_eq_true (show (0:Int) < ((2 ^ (j+1):Nat):Int) by omega),ap,aj (n:=(r:Int)+((2 ^ (j+1):Nat):Int)) (by omega) (by omega),e1,aj (n:=(((r+2 ^ (j+1))*(r+2 ^ (j+1)):Nat):Int)) (by omega) (by omega),e2];by_cases hc:(r+2 ^ (j+1))*(r+2 ^ (j+1))<=N
  ·rw [decide_eq_true (by omega),ap,<- Int.natCast_add]
   exact ih n (r+2 ^ (j+1)) (by omega) (by omega) (by omega) hc (by rw [Nat.add_assoc,<- Nat.two_mul,<- hp];exact h2)
  ·rw [decide_eq_false (by omega),al]
   exact ih n r (by omega) (by omega) (by omega) h1 (by omega)
theorem f246_eq {n:Nat}(h:n < 288230376151711744){k:Int->Option α}:dj α (n:Int) k=k (isq n:Int):=by
 have hf:=bz;simp only [dj,af,RN,wu,af,Hu];exact arX (k:=fun x6 _ _=>k x6) h 30 aE 0 (by omega) (by omega) (by decide) (by omega) (by show n < (0+2147483648)*(0+2147483648);omega)
theorem ahT {a b:Nat × Nat}(ha:iz a)(hb:iz b){k:Int->Int->Option α}{f:Int->(Int->Option α)->Option α}(hf:∀ (n:Nat) (kk:Int->Option α),n < 288230376151711744->f (n:Int) kk=kk (isq n:Int)) :
  f (w64 ((w64 ((w64 ((a.1:Int)+b.1))*(w64 ((a.1:Int)+b.1))))+(w64 ((w64 ((a.2:Int)+b.2))*(w64 ((a.2:Int)+b.2)))))) (fun x=>gK (x != 0) (gK (x != 0) (k (w64 (Int.tdiv (w64 ((w64 ((a.1:Int)+b.1))*67108864)) x)) (w64 (Int.tdiv (w64 ((w64 ((a.2:Int)+b.2))*67108864)) x)))))=
   k ((btw a b).1:Int) ((btw a b).2:Int):=by
 obtain⟨h1,h2⟩:=ajW ha hb;have h3:=ha.lo;have h4:=hb.lo;have h5:=ha.le;have h6:=hb.le;have h7:=ha.hi;have h8:=hb.hi;have hs:=Go.AM.sq_bd (x:=a.1+b.1) (y:=a.2+b.2) (by omega) (by omega);rw [aj (n:=(a.1:Int)+b.1) (by omega) (by omega),aj (n:=(a.2:Int)+b.2) (by omega) (by omega)];have e1:((a.1:Int)+b.1)*((a.1:Int)+b.1)=(((a.1+b.1)*(a.1+b.1):Nat):Int):=by push_cast;rfl
 have e2:((a.2:Int)+b.2)*((a.2:Int)+b.2)=(((a.2+b.2)*(a.2+b.2):Nat):Int):=by push_cast;rfl
 rw [e1,e2,aj (n:=(((a.1+b.1)*(a.1+b.1):Nat):Int)) (by omega) (by omega),aj (n:=(((a.2+b.2)*(a.2+b.2):Nat):Int)) (by omega) (by omega),aj (by omega) (by omega),<- Int.natCast_add,hf _ _ (by omega)];have hr:((isq ((a.1+b.1)*(a.1+b.1)+(a.2+b.2)*(a.2+b.2)):Int) != 0)=true:=bne_iff_ne.2 (by omega);have e:btw a b=((a.1+b.1)*67108864 / isq ((a.1+b.1)*(a.1+b.1)+(a.2+b.2)*(a.2+b.2)),(a.2+b.2)*67108864 / isq ((a.1+b.1)*(a.1+b.1)+(a.2+b.2)*(a.2+b.2))):=rfl;have hk:=ph ha hb;have k1:=hk.hi;have k2:=hk.le;rw [e] at k1 k2;simp only [bO hr,e];generalize isq ((a.1+b.1)*(a.1+b.1)+(a.2+b.2)*(a.2+b.2))=r at *;rw [aj (n:=((a.1:Int)+b.1)*67108864) (by omega) (by omega),aj (n:=((a.2:Int)+b.2)*67108864) (by omega) (by omega)];rw [show ((a.1:Int)+b.1)*67108864=(((a.1+b.1)*67108864:Nat):Int) by omega,show ((a.2:Int)+b.2)*67108864=(((a.2+b.2)*67108864:Nat):Int) by omega,oD,oD];have key:∀ x y:Nat,x<=67108864->y<=x->k (w64 (x:Int)) (w64 (y:Int))=k (x:Int) (y:Int):=fun x y h1 h2=>by
  rw [aj (n:=(x:Int)) (by omega) (by omega),aj (n:=(y:Int)) (by omega) (by omega)]
 exact key _ _ k1 k2
theorem asx {m:Nat}{k:Int->Int->Option α}:∀ (j f lo hi n:Nat) (a b:Nat × Nat),iz a->iz b->lo < m->m<=hi->hi<=524288->hi - lo<=2 ^ j->j < f->j < n ->
  cT α (m:Int) k (fun _ _ _ _ _ x28 x29=>k x28 x29) n (lo:Int) (hi:Int) (a.1:Int) (a.2:Int) (b.1:Int) (b.2:Int)=k ((gO m f lo hi a b).1:Int) ((gO m f lo hi a b).2:Int):=by
 intro j
 induction j with
 | zero=>
  intro f lo hi n a b ha hb h1 h2 h3 h4 hf hn;obtain⟨f,rfl⟩:∃ z,f=z+1:=⟨f - 1,by omega⟩
  obtain⟨n,rfl⟩:∃ z,n=z+1:=⟨n - 1,by omega⟩
  have e2:m=hi:=by omega
  simp only [cT,n9,gO];have g3:((m:Int) != (hi:Int))=false:=by rw [e2];exact bne_self_eq_false _
  rw [g3,al,if_neg (by omega),if_pos e2]
 | succ j ih=>
  intro f lo hi n a b ha hb h1 h2 h3 h4 hf hn;obtain⟨f,rfl⟩:∃ z,f=z+2:=⟨f - 2,by omega⟩
  obtain⟨n,rfl⟩:∃ z,n=z+1:=⟨n - 1,by omega⟩
  simp only [cT,n9];by_cases e2:m=hi
  ·have g3:((m:Int) != (hi:Int))=false:=by rw [e2];exact bne_self_eq_false _
   rw [g3,al];simp only [gO];rw [if_neg (by omega),if_pos e2]
  ·have g3:((m:Int) != (hi:Int))=true:=bne_iff_ne.2 (by omega)
   have hm:w64 (Int.tdiv (w64 ((lo:Int)+(hi:Int))) 2)=(((lo+hi) / 2:Nat):Int):=by
    rw [aj (n:=(lo:Int)+hi) (by omega) (by omega),Int.tdiv_eq_ediv_of_nonneg (by omega),aj (by omega) (by omega)];push_cast;rfl
   rw [g3,ap,hm];have hp:2 ^ (j+1)=2*2 ^ j:=Nat.pow_succ';refine (ahT ha hb (k:=fun x y=>cK ((((lo+hi) / 2:Nat):Int) == (m:Int)) (k x y) (cK (decide ((((lo+hi) / 2:Nat):Int) < (m:Int))) (cT α (m:Int) k (fun _ _ _ _ _ x28 x29=>k x28 x29) n (((lo+hi) / 2:Nat):Int) (hi:Int) x y (b.1:Int) (b.2:Int)) (cT α (m:Int) k (fun _ _ _ _ _ x28 x29=>k x28 x29) n (lo:Int) (((lo+hi) / 2:Nat):Int) (a.1:Int) (a.2:Int) x y))) (fun n kk h=>f246_eq h)).trans ?_;by_cases h:(lo+hi) / 2=m
   ·have g:((((lo+hi) / 2:Nat):Int) == (m:Int))=true:=by rw [h];exact beq_self_eq_true _
    rw [g,ap];simp only [gO];rw [if_neg (by omega),if_neg e2,if_pos (by omega),if_pos h.symm]
   ·have g:((((lo+hi) / 2:Nat):Int) == (m:Int))=false:=beq_eq_false_iff_ne.2 (by omega)
    rw [g,al];have hfg:gO m (f+2) lo hi a b=if (lo+hi) / 2<=m then gO m (f+1) ((lo+hi) / 2) hi (btw a b) b else gO m (f+1) lo ((lo+hi) / 2) a (btw a b):=by
     rw [gO,if_neg (by omega),if_neg e2]
    rw [hfg];by_cases h':(lo+hi) / 2 < m
    ·rw [decide_eq_true (by omega),ap,if_pos (by omega)]
     exact ih (f+1) _ _ n _ _ (ph ha hb) hb h' h2 h3 (by omega) (by omega) (by omega)
    ·rw [decide_eq_false (by omega),al,if_neg (by omega)]
     exact ih (f+1) _ _ n _ _ ha (ph ha hb) h1 (by omega) (by omega) (by omega) (by omega) (by omega)
theorem qq {x:Int}{k1:Int->Int->Option α}{k2:Int->Int->Bool->Int->Int->Int->Int->Option α}:∀ (n:Nat) (a b c d e f:Int),mt α x k1 k2 n a b c d e f=cT α x k1 k2 n a b c d e f/\mj α x k1 k2 n a b c d e f=cT α x k1 k2 n a b c d e f/\l7 α x k1 k2 n a b c d e f=cT α x k1 k2 n a b c d e f
 | 0,_,_,_,_,_,_=>⟨rfl,rfl,rfl⟩
 | n+1,a,b,c,d,e,f=>by
  have h1:mt α x k1 k2 n=cT α x k1 k2 n:=by funext a b c d e f;exact (qq n a b c d e f).1
  have h2:mj α x k1 k2 n=cT α x k1 k2 n:=by funext a b c d e f;exact (qq n a b c d e f).2.1
  have h3:l7 α x k1 k2 n=cT α x k1 k2 n:=by funext a b c d e f;exact (qq n a b c d e f).2.2
  simp only [cT,mt,mj,l7,h1,h2,h3];exact⟨rfl,rfl,rfl⟩
theorem agp {m:Nat}(h0:0 < m)(hm:m<=524288){k:Int->Int->Option α} :
  cT α (m:Int) k (fun _ _ _ _ _ x28 x29=>k x28 x29) aE 0 524288 67108864 0 47453132 47453132=k ((fir m).1:Int) ((fir m).2:Int):=
 asx (α:=α) (m:=m) (k:=k) 19 20 0 524288 aE (67108864,0) (47453132,47453132) ⟨by simp,by simp,by simp⟩ ⟨by simp,by simp,by simp⟩ h0 hm (by omega) (by decide) (by omega) (by have:=bz;omega)
theorem f273_eq {n d:Int}(hd:0 < d)(hd2:d<=4611686018427387904){k:Int->Option α}:kQ α n d k=k (n % d):=by
 have h0:(d != 0)=true:=bne_iff_ne.2 (by omega);simp only [kQ,af,SU,bO h0,aK];have m1:=Int.emod_nonneg n (Int.ne_of_gt hd);have m2:=Int.emod_lt_of_pos n hd;by_cases hn:0<=n
 ·rw [Int.tmod_eq_emod_of_nonneg hn,if_neg (by omega)]
 ·have t2:Int.tmod n d=-((-n) % d):=by
   rw [show n=-(-n) by omega,Int.neg_tmod,Int.tmod_eq_emod_of_nonneg (by omega),Int.neg_neg]
  have m3:=Int.emod_nonneg (-n) (Int.ne_of_gt hd);have m4:=Int.emod_lt_of_pos (-n) hd;have m5:=Int.emod_add_mul_ediv (-n) d;rw [t2];generalize (-n) % d=r at *;generalize (-n) / d=q at *;by_cases hr:r=0
  ·rw [if_neg (by omega)]
   congr 1;have:=(Int.ediv_emod_unique (a:=n) (q:=-q) (r:=0) hd).2 ⟨by rw [Int.mul_neg];omega,by omega,hd⟩;rw [this.2];omega
  ·rw [if_pos (by omega),aj (by omega) (by omega)]
   congr 1;have:=(Int.ediv_emod_unique (a:=n) (q:=-q - 1) (r:=d - r) hd).2 ⟨by rw [Int.mul_sub,Int.mul_neg];omega,by omega,by omega⟩;rw [this.2];omega
theorem aID:fir 0=(67108864,0):=by
 unfold fir;rw [gO,if_pos rfl]
theorem anj {m:Nat}(hm:m<=524288){k:Int->Int->Option α} :
  dj α 2251799813685248 (fun x3=>cK ((m:Int) == 0) (k 67108864 0) (cT α (m:Int) k (fun _ _ _ _ _ x28 x29=>k x28 x29) aE 0 524288 67108864 0 x3 x3))=k ((fir m).1:Int) ((fir m).2:Int):=by
 rw [show (2251799813685248:Int)=((2251799813685248:Nat):Int) from rfl,f246_eq (by decide),vq (a:=47453132) (by decide) (by decide) (by decide)];by_cases h:m=0
 ·subst h
  rw [aID];rfl
 ·rw [beq_eq_false_iff_ne.2 (by omega),al]
  exact agp (by omega) hm
theorem aaB {m:Nat}(hm:m<=524288){k:Int->Int->Option α}:sH α (m:Int) k=k ((fir m).1:Int) ((fir m).2:Int):=by
 simp only [sH,af,X6,f273_eq (show (0:Int) < 4194304 by decide) (by decide),tC,af,FM];rw [show (m:Int) % 4194304=(m:Int) by omega,decide_eq_false (by omega),al,decide_eq_false (by omega),al,decide_eq_false (by omega),al];simp only [(qq _ _ _ _ _ _ _).2.2];exact anj hm
theorem FQ {r:Nat}(hr:r < 1048576){k:Int->Int->Option α}:ss α (r:Int) k=k (iD r).1 (iD r).2:=by
 simp only [ss,af,Yi,f273_eq (show (0:Int) < 4194304 by decide) (by decide),wx,af,F3];rw [show (r:Int) % 4194304=(r:Int) by omega,decide_eq_false (by omega),al,decide_eq_false (by omega),al];simp only [(qq _ _ _ _ _ _ _).2.1];unfold iD;by_cases h:524288 < r
 ·rw [decide_eq_true (by omega),ap,aj (by omega) (by omega),show (1048576:Int) - (r:Int)=((1048576 - r:Nat):Int) by omega,aaB (by omega),if_pos h]
 ·rw [decide_eq_false (by omega),al,if_neg h]
  exact anj (by omega)
theorem yq {r:Nat}(hr:r < 2097152){k:Int->Int->Option α}:sJ α (r:Int) k=k (dir (r:Int)).1 (dir (r:Int)).2:=by
 simp only [sJ,af,QR,f273_eq (show (0:Int) < 4194304 by decide) (by decide),uw,af,Gt];rw [show (r:Int) % 4194304=(r:Int) by omega,decide_eq_false (by omega),al,pt hr];simp only [(qq _ _ _ _ _ _ _).1];by_cases h2:1048576<=r
 ·obtain⟨q,hq⟩:∃ q,q=r - 1048576:=⟨_,rfl⟩
  have hb:=j4 q;have:=hb.h1;have:=hb.h2;have:=hb.h3;have:=hb.h4;rw [decide_eq_true (by omega),ap,if_pos h2,aj (by omega) (by omega),show (r:Int) - 1048576=(q:Int) by omega,FQ (by omega),<- hq,aj (by omega) (by omega)];simp only [CE];rw [show 0 - (iD q).2=-(iD q).2 by omega]
 ·rw [decide_eq_false (by omega),al,if_neg h2]
  by_cases h3:524288 < r
  ·rw [decide_eq_true (by omega),ap,aj (by omega) (by omega),show (1048576:Int) - (r:Int)=((1048576 - r:Nat):Int) by omega,FQ (by omega)]
   unfold iD;rw [if_neg (by omega),if_pos h3]
  ·rw [decide_eq_false (by omega),al]
   unfold iD;rw [if_neg h3];exact anj (by omega)
theorem f286_eq {m:Int}{k:Int->Int->Option α}:B7 α m k=k (dir m).1 (dir m).2:=by
 simp only [B7,af,Wb,f273_eq (show (0:Int) < 4194304 by decide) (by decide),uv,af,HG];obtain⟨r,hr⟩:∃ r:Nat,r=(m % 4194304).toNat:=⟨_,rfl⟩
 have hlt:r < 4194304:=by omega
 rw [show m % 4194304=(r:Int) by omega];have hdir:dir m=if 2097152<=r then Fb (dir ((r - 2097152:Nat):Int)) else dir (r:Int):=by
  unfold dir;rw [<- hr];simp only;by_cases h:2097152<=r
  ·have e1:((((r - 2097152:Nat):Int)) % 4194304).toNat=r - 2097152:=by omega
   rw [if_pos h,if_pos h,e1,if_neg (show ¬ 2097152<=r - 2097152 by omega)];split <;> rfl
  ·have e1:(((r:Int)) % 4194304).toNat=r:=by omega
   rw [if_neg h,if_neg h,e1,if_neg h]
 rw [hdir];by_cases h:2097152<=r
 ·have hb:=IU ((r - 2097152:Nat):Int)
  have:=hb.h1;have:=hb.h2;have:=hb.h3;have:=hb.h4;rw [decide_eq_true (by omega),ap,if_pos h,aj (by omega) (by omega),show (r:Int) - 2097152=((r - 2097152:Nat):Int) by omega,yq (by omega),aj (by omega) (by omega),aj (by omega) (by omega)];simp only [Fb];rw [show 0 - (dir ((r - 2097152:Nat):Int)).1=-(dir ((r - 2097152:Nat):Int)).1 by omega,show 0 - (dir ((r - 2097152:Nat):Int)).2=-(dir ((r - 2097152:Nat):Int)).2 by omega]
 ·rw [decide_eq_false (by omega),al,if_neg h,pt (by omega)]
  by_cases h2:1048576<=r
  ·obtain⟨q,hq⟩:∃ q,q=r - 1048576:=⟨_,rfl⟩
   have hb:=j4 q;have:=hb.h1;have:=hb.h2;have:=hb.h3;have:=hb.h4;rw [decide_eq_true (by omega),ap,if_pos h2,aj (by omega) (by omega),show (r:Int) - 1048576=(q:Int) by omega,yq (by omega),pt (by omega),if_neg (by omega),<- hq,aj (by omega) (by omega)];simp only [CE];rw [show 0 - (iD q).2=-(iD q).2 by omega]
  ·rw [decide_eq_false (by omega),al,if_neg h2]
   by_cases h3:524288 < r
   ·rw [decide_eq_true (by omega),ap,aj (by omega) (by omega),show (1048576:Int) - (r:Int)=((1048576 - r:Nat):Int) by omega,yq (by omega),pt (by omega),if_neg (by omega)]
    unfold iD;rw [if_neg (by omega),if_pos h3]
   ·rw [decide_eq_false (by omega),al]
    unfold iD;rw [if_neg h3];exact anj (by omega)
theorem f281_eq {n:Int}(h1:-1152921504606846976<=n)(h2:n<=1152921504606846976){k:Int->Bool->Option α}:∃ b,jn α n 64 k=k (rdv n 64) b:=by
 simp only [jn,af,Ky];rw [f91_eq (by decide) (by decide) (by omega) (by omega),aj (n:=n / 64*64) (by omega) (by omega),aj (n:=n - n / 64*64) (by omega) (by omega),aj (n:=64 - (n - n / 64*64)) (by omega) (by omega),aK];unfold rdv;split
 ·rw [aj (by omega) (by omega)]
  exact⟨_,by congr 1;omega⟩
 ·exact⟨_,by congr 1;omega⟩
end Go.AM.K.Mb

namespace Go.AM.K
set_option linter.unusedVariables false
set_option linter.unusedSimpArgs false
variable {α:Type}
def DK (k:Int->Int->Int->Int->Option α)(u:Bl × Int):Option α:=k u.1.b.1 u.1.b.2.1 u.1.b.2.2 u.2
theorem Yj {n:Int}{k:Bool->Option α}:oV α n k=k (decide (-67108864<=n/\n<=67108864)):=by simp only [oV,af,P2,Mb.f8_eq]
theorem i6 {x y r:Int}{k:Int->Int->Int->Int->Option α}:dJ α x y r k=DK k (iV (x,y,r)):=by
 simp only [dJ,af,TB,tX,FY,Yj,Mb.f8_eq,cI,ap,al];unfold iV;by_cases h1:-67108864<=x/\x<=67108864
 ·rw [if_pos h1]
  by_cases h2:-67108864<=y/\y<=67108864
  ·rw [if_pos h2]
   by_cases h3:0<=r/\r<=67108864
   ·rw [if_pos h3,dif_pos (dM.2 ⟨h1,h2,h3⟩)];rfl
   ·rw [if_neg h3,dif_neg (fun h=>h3 (dM.1 h).2.2)];rfl
  ·rw [if_neg h2,dif_neg (fun h=>h2 (dM.1 h).2.1)];rfl
 ·rw [if_neg h1,dif_neg (fun h=>h1 (dM.1 h).1)];rfl
theorem anG (a b:Bl){k:Int->Int->Int->Int->Option α}:BH α a.b.1 a.b.2.1 a.b.2.2 b.b.1 b.b.2.1 b.b.2.2 k=DK k (fD a b):=by
 have g:=a.bd;have h:=b.bd;rw [BH,af,QA,aj (n:=a.b.1+b.b.1) (by omega) (by omega),aj (n:=a.b.2.1+b.b.2.1) (by omega) (by omega),aj (n:=a.b.2.2+b.b.2.2) (by omega) (by omega),i6];rfl
theorem aoG (a b:Bl){k:Int->Int->Int->Int->Option α}:El α a.b.1 a.b.2.1 a.b.2.2 b.b.1 b.b.2.1 b.b.2.2 k=DK k (jW a b):=by
 have g:=a.bd;have h:=b.bd;rw [El,af,W8,aj (n:=a.b.1 - b.b.1) (by omega) (by omega),aj (n:=a.b.2.1 - b.b.2.1) (by omega) (by omega),aj (n:=a.b.2.2+b.b.2.2) (by omega) (by omega),i6];rfl
theorem l6 {n:Int}(h1:0<=n)(h2:n < 288230376151711744){k:Int->Option α}:dj α n k=k (rtd n):=by
 obtain⟨m,rfl⟩:∃ m:Nat,n=(m:Int):=⟨n.toNat,by omega⟩
 rw [Mb.f246_eq (by omega)];unfold rtd;rw [Int.toNat_natCast]
theorem Oz {n:Int}(h1:0<=n)(h2:n < 288230376151711744){k:Int->Option α}:oS α n k=k (rtu n):=by
 have h:=yH h1 h2;have q:=ajg h1 h2;have q0:=Int.mul_nonneg h.1 h.1;rw [oS,af,Le,l6 h1 h2];unfold rtu;generalize rtd n=r at *;rw [aj (n:=r*r) (by omega) (by omega),aK,aj (n:=r+1) (by omega) (by omega)];split <;> rfl
theorem axf (a:Bl):w64 (w64 (a.b.1*a.b.1)+w64 (a.b.2.1*a.b.2.1))=(sqn a.b:Int)/\sqn a.b < 288230376151711744:=by
 have g:=a.bd;have e1:=sq_bd g.1.1 g.1.2;have e2:=sq_bd g.2.1.1 g.2.1.2;obtain⟨e3,e4⟩:=nM a.ok;rw [aj (n:=a.b.1*a.b.1) (by omega) (by omega),aj (n:=a.b.2.1*a.b.2.1) (by omega) (by omega),aj (n:=a.b.1*a.b.1+a.b.2.1*a.b.2.1) (by omega) (by omega),<- e3];exact⟨rfl,by omega⟩
theorem zJ (a:Bl){k:Int->Option α}:mX α a.b.1 a.b.2.1 k=k a.dn:=by
 obtain⟨e,h⟩:=axf a;rw [mX,af,Xr,e,Mb.f246_eq h];rfl
theorem J8 (a:Bl){k:Int->Option α}:nl α a.b.1 a.b.2.1 k=k a.up:=by
 obtain⟨e,h⟩:=axf a;have e5:=Rb (nM a.ok).2;rw [nl,af,Zl,e,oS,af,Le,Mb.f246_eq h];have e7:w64 ((isq (sqn a.b):Int)*(isq (sqn a.b):Int))=((isq (sqn a.b)*isq (sqn a.b):Nat):Int):=by
  rw [<- Int.natCast_mul];have:=(mD h).1;exact aj (by omega) (by omega)
 rw [e7,aj (n:=(isq (sqn a.b):Int)+1) (by omega) (by omega),aK];unfold Bl.up upc upq;by_cases h:isq (sqn a.b)*isq (sqn a.b) < sqn a.b
 ·rw [if_pos (by omega),if_pos h]
 ·rw [if_neg (by omega),if_neg h]
theorem UE {n:Int}(h1:-1152921504606846976<=n)(h2:n<=1152921504606846976){k:Int->Bool->Option α}:jn α n 1048576 k=k (rdv n 1048576) (!decide (n % 1048576=0)):=by
 rw [jn,af,Ky,Mb.f91_eq (by decide) (by decide) (by omega) (by omega),aj (n:=n / 1048576*1048576) (by omega) (by omega),aj (n:=n - n / 1048576*1048576) (by omega) (by omega),aj (n:=1048576 - (n - n / 1048576*1048576)) (by omega) (by omega),aK];unfold rdv;split
 ·rw [aj (by omega) (by omega),decide_eq_false (by omega)]
  congr 1;omega
 ·have e:(n - n / 1048576*1048576 != 0)=!decide (n % 1048576=0):=by
   by_cases h:n % 1048576=0
   ·rw [decide_eq_true h,show n - n / 1048576*1048576=0 by omega];rfl
   ·rw [decide_eq_false h];exact bne_iff_ne.2 (by omega)
  rw [e];congr 1;omega
theorem PU {b:Bool}{k:Int->Option α}:mK α b k=k (if b then 1 else 0):=by
 rw [mK,af,UT];cases b <;> rfl
theorem aq3 (a b:Bl){k:Int->Int->Int->Int->Option α}:Bu α a.b.1 a.b.2.1 a.b.2.2 b.b.1 b.b.2.1 b.b.2.2 k=DK k (bD a b):=by
 have g:=a.bd;have h:=b.bd;obtain⟨e1,e2,e3,e4,e5,e6,e7⟩:=Yx a.ok b.ok;have eP:w64 (w64 (a.b.1*b.b.1) - w64 (a.b.2.1*b.b.2.1))=tmP a.b b.b:=by
  rw [aj (n:=a.b.1*b.b.1) (by omega) (by omega),aj (n:=a.b.2.1*b.b.2.1) (by omega) (by omega)];exact aj (by omega) (by omega)
 have eQ:w64 (w64 (a.b.1*b.b.2.1)+w64 (a.b.2.1*b.b.1))=tmQ a.b b.b:=by
  rw [aj (n:=a.b.1*b.b.2.1) (by omega) (by omega),aj (n:=a.b.2.1*b.b.1) (by omega) (by omega)];exact aj (by omega) (by omega)
 have eR:w64 (w64 (w64 (a.up*b.b.2.2)+w64 (b.up*a.b.2.2))+w64 (a.b.2.2*b.b.2.2))=upc a.b*b.b.2.2+upc b.b*a.b.2.2+a.b.2.2*b.b.2.2:=by
  unfold Bl.up;rw [aj (n:=upc a.b*b.b.2.2) (by omega) (by omega),aj (n:=upc b.b*a.b.2.2) (by omega) (by omega),aj (n:=a.b.2.2*b.b.2.2) (by omega) (by omega),aj (n:=upc a.b*b.b.2.2+upc b.b*a.b.2.2) (by omega) (by omega)];exact aj (by omega) (by omega)
 have bP:-9007199254740992<=tmP a.b b.b/\tmP a.b b.b<=9007199254740992:=by unfold tmP;omega
 have bQ:-9007199254740992<=tmQ a.b b.b/\tmQ a.b b.b<=9007199254740992:=by unfold tmQ;omega
 simp only [Bu,af,Wz,J8];rw [eP,eQ,eR,UE (by omega) (by omega),UE (by omega) (by omega),Mb.f69_eq (by decide) (by decide) (by omega) (by omega)];have hc:0<=cdv (upc a.b*b.b.2.2+upc b.b*a.b.2.2+a.b.2.2*b.b.2.2) 1048576/\cdv (upc a.b*b.b.2.2+upc b.b*a.b.2.2+a.b.2.2*b.b.2.2) 1048576<=17179869184:=by unfold cdv;omega
 simp only [PU,i6];unfold bD tmB;by_cases h1:tmP a.b b.b % 1048576=0
 ·by_cases h2:tmQ a.b b.b % 1048576=0
  ·have em:(if tmP a.b b.b % 1048576=0/\tmQ a.b b.b % 1048576=0 then (0:Int) else 1)=0:=if_pos ⟨h1,h2⟩
   rw [em,decide_eq_true h1,decide_eq_true h2,Bool.not_true,al];simp only [Bool.false_eq_true,if_false];rw [aj (by omega) (by omega)]
  ·have em:(if tmP a.b b.b % 1048576=0/\tmQ a.b b.b % 1048576=0 then (0:Int) else 1)=1:=if_neg (fun q=>h2 q.2)
   rw [em,decide_eq_true h1,decide_eq_false h2,Bool.not_true,Bool.not_false,al];simp only [if_true];rw [aj (by omega) (by omega)]
 ·have em:(if tmP a.b b.b % 1048576=0/\tmQ a.b b.b % 1048576=0 then (0:Int) else 1)=1:=if_neg (fun q=>h1 q.1)
  rw [em,decide_eq_false h1,Bool.not_false,ap];simp only [if_true];rw [aj (by omega) (by omega)]
theorem zV {lo hi:Int}{k:Int->Int->Int->Int->Option α}:g7 α lo hi k=DK k (cL lo hi):=by
 simp only [g7,af,WB,Yj,cI,aK];unfold cL qx;by_cases h1:-67108864<=lo/\lo<=67108864
 ·rw [if_pos h1,decide_eq_true h1]
  by_cases h2:-67108864<=hi/\hi<=67108864
  ·rw [if_pos h2,decide_eq_true h2,if_pos (show true=true/\true=true from ⟨rfl,rfl⟩)]
   by_cases h3:hi < lo
   ·rw [if_pos h3,if_pos h3];rfl
   ·rw [if_neg h3,if_neg h3,aj (n:=lo+hi) (by omega) (by omega),Mb.f91_eq (by decide) (by decide) (by omega) (by omega),aj (n:=hi - (lo+hi) / 2) (by omega) (by omega),i6]
  ·rw [if_neg h2,if_neg (fun h=>h2 (of_decide_eq_true h.2))];rfl
 ·rw [if_neg h1,if_neg (fun h=>h1 (of_decide_eq_true h.1))];rfl
theorem zL (a:Bl){k:Int->Int->Int->Int->Option α}:pH α a.b.1 a.b.2.1 a.b.2.2 k=k a.lo1 a.hi1 a.lo2 a.hi2:=by
 have g:=a.bd;rw [pH,af,Tm,aj (n:=a.b.1 - a.b.2.2) (by omega) (by omega),aj (n:=a.b.1+a.b.2.2) (by omega) (by omega),aj (n:=a.b.2.1 - a.b.2.2) (by omega) (by omega),aj (n:=a.b.2.1+a.b.2.2) (by omega) (by omega)];rfl
theorem Wh (a:Bl){k:Int->Int->Option α}:xd α a.b.1 a.b.2.1 a.b.2.2 k=k a.eLo a.eHi:=by
 have g:=a.bd;have d:=a.dn_bd;have u:=a.up_bd;rw [xd,af,RM,Ii,af,Vu,zJ,J8];unfold Bl.eLo Bl.eHi;rw [aj (n:=a.dn - a.b.2.2) (by omega) (by omega),aj (n:=a.up+a.b.2.2) (by omega) (by omega)];have hz:∀ z:Int,0<=z->z<=200000000->0<=z*z/\z*z<=40000000000000000:=fun z h1 h2=>
  ⟨Int.mul_nonneg h1 h1,Int.mul_le_mul h2 h2 h1 (by decide)⟩
 have h1:=hz (if a.dn - a.b.2.2 > 0 then a.dn - a.b.2.2 else 0) (by split <;> omega) (by split <;> omega);have h2:=hz (a.up+a.b.2.2) (by omega) (by omega);simp only [];generalize (if a.dn - a.b.2.2 > 0 then a.dn - a.b.2.2 else 0)=z1 at *;generalize a.up+a.b.2.2=z2 at *;rw [aj (n:=z1*z1) (by omega) (by omega),aj (n:=z2*z2) (by omega) (by omega),Mb.f91_eq (by decide) (by decide) (by omega) (by omega),Mb.f69_eq (by decide) (by decide) (by omega) (by omega)]
theorem akS {x y:Int}(h1:-67108864<=y)(h2:y<=67108864){k:Int->Int->Option α}:sr α x y 1 k=k (-y) x:=by
 obtain⟨z,hz⟩:∃ z,aE=z+2:=⟨aE - 2,by have:=bz;omega⟩
 rw [sr,af,QL,uR,af,HU,hz,oG];simp only [oL];rw [Mb.f273_eq (by decide) (by decide),show decide ((0:Int) < 1 % 4)=true by decide,ap,oG];simp only [oL];rw [Mb.f273_eq (by decide) (by decide),show decide (w64 (0+1) < 1 % 4)=false by decide,al,aj (by omega) (by omega),Int.zero_sub]
theorem KE (a:Bl):okS (-a.b.2.1,a.b.1,a.b.2.2)=true:=by
 have g:=a.bd;exact dM.2 ⟨by show -67108864<=-a.b.2.1/\-a.b.2.1<=67108864;omega,g.1,g.2.2⟩
theorem L6 (a:Bl):Ev a=(⟨(-a.b.2.1,a.b.1,a.b.2.2),KE a⟩,0):=by
 unfold Ev iV;rw [dif_pos (KE a)]
def iU (n d:Int):Int × Int:=if 268435456 < n / d\/n / d < -268435456 then (n / d,n % d) else (n*1048576 / d,n*1048576 % d)
theorem dbl {P d:Int}(hd:0 < d):(2*P / d=if d<=2*(P % d) then 2*(P / d)+1 else 2*(P / d))/\(2*P % d=if d<=2*(P % d) then 2*(P % d) - d else 2*(P % d)):=by
 have e:=Int.emod_add_mul_ediv P d;have e1:=Int.emod_nonneg P (Int.ne_of_gt hd);have e2:=Int.emod_lt_of_pos P hd;by_cases c:d<=2*(P % d)
 ·rw [if_pos c,if_pos c]
  exact (Int.ediv_emod_unique (a:=2*P) (q:=2*(P / d)+1) (r:=2*(P % d) - d) hd).2 ⟨by rw [Int.mul_add,Int.mul_left_comm];omega,by omega,by omega⟩
 ·rw [if_neg c,if_neg c]
  exact (Int.ediv_emod_unique (a:=2*P) (q:=2*(P / d)) (r:=2*(P % d)) hd).2 ⟨by rw [Int.mul_left_comm];omega,by omega,by omega⟩
theorem auX {d:Int}(hd:0 < d)(hd2:d<=36028797018963968){k1:Int->Int->Int->Bool->Option α}{k:Int->Int->Option α}(hk:∀ x y z b,k1 x y z b=k x y) :
  ∀ (m i n:Nat) (P:Int),i+m=20->m < n->-(268435456*2 ^ i)<=P / d->P / d < 268435457*2 ^ i ->
  lI α d k1 n (P / d) (P % d) (i:Int)=k (P*2 ^ m / d) (P*2 ^ m % d):=by
 intro m
 induction m with
 | zero=>
  intro i n P hi hn h1 h2;obtain⟨n,rfl⟩:∃ n',n=n'+1:=⟨n - 1,by omega⟩
  rw [lI];simp only [o4];rw [decide_eq_false (by omega),al,hk,Int.pow_zero,Int.mul_one]
 | succ m ih=>
  intro i n P hi hn h1 h2;obtain⟨n,rfl⟩:∃ n',n=n'+1:=⟨n - 1,by omega⟩
  have e1:=Int.emod_nonneg P (Int.ne_of_gt hd);have e2:=Int.emod_lt_of_pos P hd;obtain⟨d1,d2⟩:=dbl (P:=P) hd;have hp:(1:Int)<=2 ^ i/\(2:Int) ^ i<=1048576:=by
   have h0:(0:Int) < 2 ^ i:=Int.pow_pos (by decide);have h3:(2:Nat) ^ i<=2 ^ 20:=Nat.pow_le_pow_right (by decide) (by omega);have h4:(2:Int) ^ i=((2 ^ i:Nat):Int):=by push_cast;rfl
   rw [h4] at h0 ⊢;generalize 2 ^ i=z at *;omega
  have hs:(2:Int) ^ (i+1)=2*2 ^ i:=by rw [Int.pow_succ,Int.mul_comm]
  have hm:P*2 ^ (m+1)=2*P*2 ^ m:=by rw [Int.pow_succ,Int.mul_comm (2 ^ m) 2,<- Int.mul_assoc,Int.mul_comm P 2]
  have ih':=ih (i+1) n (2*P) (by omega) (by omega);rw [hs,d1,d2] at ih';rw [lI,hm];simp only [o4];generalize (2:Int) ^ i=X at *;generalize hq:P / d=q at *;generalize hr:P % d=r at *;rw [decide_eq_true (by omega),ap,aj (n:=2*q) (by omega) (by omega),aj (n:=2*r) (by omega) (by omega),aj (n:=2*q+1) (by omega) (by omega),aj (n:=2*r - d) (by omega) (by omega),aK,
   show w64 ((i:Int)+1)=((i+1:Nat):Int) by rw [aj (by omega) (by omega)];omega]
  by_cases c:d<=2*r
  ·simp only [if_pos c] at ih' ⊢
   exact ih' (by omega) (by omega)
  ·simp only [if_neg c] at ih' ⊢
   exact ih' (by omega) (by omega)
theorem SE {n d:Int}(hd:0 < d)(h1:-36028797018963968<=n)(h2:n<=36028797018963968):-36028797018963968<=n / d/\n / d<=36028797018963968:=by
 constructor
 ·rw [Int.le_ediv_iff_mul_le hd]
  have:-36028797018963968*d<=-36028797018963968*1:=Int.mul_le_mul_of_nonpos_left (by omega) (by omega);omega
 ·have:n / d < 36028797018963969:=by
   rw [Int.ediv_lt_iff_lt_mul hd];have:36028797018963969*1<=36028797018963969*d:=Int.mul_le_mul_of_nonneg_left (by omega) (by omega);omega
  omega
theorem axG {n d:Int}(hd:0 < d)(hd2:d<=36028797018963968)(h1:-36028797018963968<=n)(h2:n<=36028797018963968):w64 (n - w64 (n / d*d))=n % d:=by
 have e:=Int.emod_add_mul_ediv n d;have e1:=Int.emod_nonneg n (Int.ne_of_gt hd);have e2:=Int.emod_lt_of_pos n hd;rw [Int.mul_comm d] at e;generalize n / d*d=z at *;rw [aj (n:=z) (by omega) (by omega),aj (by omega) (by omega)];omega
theorem Us {n d:Int}(hd:0 < d)(hd2:d<=36028797018963968)(h1:-36028797018963968<=n)(h2:n<=36028797018963968){k:Int->Int->Option α}:yP α n d k=k (iU n d).1 (iU n d).2:=by
 rw [yP,af,TM,Mb.f91_eq hd (by omega) (by omega) (by omega),axG hd hd2 h1 h2,aK,aK];unfold iU;by_cases c1:268435456 < n / d
 ·rw [if_pos c1,if_pos (Or.inl c1)]
 ·rw [if_neg c1]
  by_cases c2:n / d < -268435456
  ·rw [if_pos c2,if_pos (Or.inr c2)]
  ·rw [if_neg c2,if_neg (fun h=>h.elim c1 c2),wo,af,FB]
   have hf:20 < aE:=by have:=bz;omega
   exact auX hd hd2 (k:=k) (fun _ _ _ _=>rfl) 20 0 aE n (by omega) hf (by simp only [Int.pow_zero];omega) (by simp only [Int.pow_zero];omega)
def Bt (n d:Int):Int × Bool:=if (iU n d).2 ≠ 0/\d<=2*(iU n d).2 then ((iU n d).1+1,true) else ((iU n d).1,(iU n d).2 != 0)
def Lj (n d:Int):Int:=if (iU n d).2 ≠ 0 then (iU n d).1+1 else (iU n d).1
theorem adQ {n d:Int}(hd:0 < d)(hd2:d<=36028797018963968)(h1:-36028797018963968<=n)(h2:n<=36028797018963968):(-36028797018963968<=(iU n d).1/\(iU n d).1<=36028797018963968)/\0<=(iU n d).2/\(iU n d).2 < d:=by
 have b:=SE hd h1 h2;unfold iU;by_cases c:268435456 < n / d\/n / d < -268435456
 ·rw [if_pos c]
  exact⟨b,Int.emod_nonneg n (Int.ne_of_gt hd),Int.emod_lt_of_pos n hd⟩
 ·rw [if_neg c]
  refine⟨?_,Int.emod_nonneg _ (Int.ne_of_gt hd),Int.emod_lt_of_pos _ hd⟩;have q1:-268435456<=n / d:=by omega
  have q2:n / d < 268435457:=by omega
  rw [Int.le_ediv_iff_mul_le hd] at q1;rw [Int.ediv_lt_iff_lt_mul hd] at q2;show -36028797018963968<=n*1048576 / d/\n*1048576 / d<=36028797018963968;constructor
  ·rw [Int.le_ediv_iff_mul_le hd];omega
  ·have:n*1048576 / d < 36028797018963969:=by rw [Int.ediv_lt_iff_lt_mul hd];omega
   omega
theorem uP {n d:Int}(hd:0 < d)(hd2:d<=36028797018963968)(h1:-36028797018963968<=n)(h2:n<=36028797018963968){k:Int->Bool->Option α}:mC α n d k=k (Bt n d).1 (Bt n d).2:=by
 obtain⟨b1,b2,b3⟩:=adQ hd hd2 h1 h2;rw [mC,af,Y2,Us hd hd2 h1 h2];unfold Bt;generalize iU n d=u at *;rw [aj (n:=u.1+1) (by omega) (by omega),aj (n:=d - u.2) (by omega) (by omega),bo,aK];by_cases c:u.2=0
 ·rw [if_pos c,if_neg (fun h=>h.1 c)]
 ·rw [if_neg c]
  by_cases c2:d<=2*u.2
  ·rw [if_pos (by omega),if_pos ⟨c,c2⟩]
  ·rw [if_neg (by omega),if_neg (fun h=>c2 h.2)]
theorem auc {n d:Int}(hd:0 < d)(hd2:d<=36028797018963968)(h1:-36028797018963968<=n)(h2:n<=36028797018963968){k:Int->Option α}:D6 α n d k=k (Lj n d):=by
 obtain⟨b1,b2,b3⟩:=adQ hd hd2 h1 h2;rw [D6,af,S0,Us hd hd2 h1 h2];unfold Lj;generalize iU n d=u at *;rw [aj (n:=u.1+1) (by omega) (by omega),bo];by_cases c:u.2=0
 ·rw [if_pos c,if_neg (fun h=>h c)]
 ·rw [if_neg c,if_pos c]
theorem aq6 {N d B:Int}(hd:0 < d)(h:B < N / d):B*d+d<=N:=by
 have:B+1<=N / d:=by omega
 rw [Int.le_ediv_iff_mul_le hd,Int.add_mul,Int.one_mul] at this;exact this
theorem Ha {N d B:Int}(hd:0 < d)(h:N / d<=B):N < B*d+d:=by
 have:N / d < B+1:=by omega
 rw [Int.ediv_lt_iff_lt_mul hd,Int.add_mul,Int.one_mul] at this;exact this
theorem aa8 {N d:Int}(hd:0 < d):(-N / d=if N % d=0 then -(N / d) else -(N / d) - 1)/\(-N % d=if N % d=0 then 0 else d - N % d):=by
 have e:=Int.emod_add_mul_ediv N d;have e1:=Int.emod_nonneg N (Int.ne_of_gt hd);have e2:=Int.emod_lt_of_pos N hd;by_cases c:N % d=0
 ·rw [if_pos c,if_pos c]
  exact (Int.ediv_emod_unique (a:=-N) (q:=-(N / d)) (r:=0) hd).2 ⟨by rw [Int.mul_neg];omega,by omega,hd⟩
 ·rw [if_neg c,if_neg c]
  exact (Int.ediv_emod_unique (a:=-N) (q:=-(N / d) - 1) (r:=d - N % d) hd).2 ⟨by rw [Int.mul_sub,Int.mul_neg];omega,by omega,by omega⟩
theorem Af {n d:Int}(hd:0 < d)(hd2:d<=36028797018963968)(h1:-36028797018963968<=n)(h2:n<=36028797018963968) :
  Bt n d=oo n d\/((67108864 < (Bt n d).1\/(Bt n d).1 < -67108864)/\(67108864 < (oo n d).1\/(oo n d).1 < -67108864)):=by
 have hs:sz n=n\/sz n=-n:=by unfold sz;split <;> omega
 have hs0:0<=sz n:=(GS h1 h2).1;have hsn:n < 0->sz n=-n:=fun h=>by unfold sz;rw [if_pos (by omega)];omega
 have hsp:0<=n->sz n=n:=fun h=>by unfold sz;split <;> omega
 -- the program's value is exact,or it is large
 have hN:sz n*1048576 / 18446744073709551616 < d\/d<=sz n*1048576 / 18446744073709551616:=by omega
 by_cases big:134217728 < sz n*1048576 / d
 ·right
  have hb:=aq6 hd big;constructor
  ·-- the document
   unfold Bt iU;by_cases c:268435456 < n / d\/n / d < -268435456
   ·rw [if_pos c]
    simp only;split <;> simp only <;> omega
   ·rw [if_neg c]
    simp only;rcases Int.lt_or_le n 0 with hn | hn
    ·rw [hsn hn] at hb
     have:n*1048576 / d < -134217728:=by
      rw [Int.ediv_lt_iff_lt_mul hd];omega
     split <;> simp only <;> omega
    ·rw [hsp hn] at hb
     have:134217728<=n*1048576 / d:=by
      rw [Int.le_ediv_iff_mul_le hd];omega
     split <;> simp only <;> omega
  ·unfold oo
   split
   ·simp only;omega
   ·split
    ·simp only;omega
    ·simp only
     generalize sz n*1048576 / d=u at *;split <;> split <;> omega
 ·left
  have hb:=Ha hd (show sz n*1048576 / d<=134217728 by omega);have hq0:0<=sz n*1048576 / d:=Int.ediv_nonneg (by omega) (by omega);have e1:=Int.emod_nonneg (sz n*1048576) (Int.ne_of_gt hd);have e2:=Int.emod_lt_of_pos (sz n*1048576) hd;have g1:¬ (268435456 < n / d\/n / d < -268435456):=by
   have a1:n / d<=268435456:=by
    have:n / d < 268435457:=by rw [Int.ediv_lt_iff_lt_mul hd];omega
    omega
   have a2:-268435456<=n / d:=by rw [Int.le_ediv_iff_mul_le hd];omega
   omega
  have g2:¬ d<=sz n*1048576 / 18446744073709551616:=by omega
  unfold Bt iU oo;rw [if_neg g1,if_neg g2,if_neg (show ¬ 2147483647 < sz n*1048576 / d by omega)];simp only;rcases Int.lt_or_le n 0 with hn | hn
  ·have en:n*1048576=-(sz n*1048576):=by rw [hsn hn];omega
   obtain⟨d1,d2⟩:=aa8 (N:=sz n*1048576) hd;rw [en,d1,d2,if_pos hn];generalize sz n*1048576 / d=u at *;generalize sz n*1048576 % d=r at *;by_cases c:r=0
   ·subst c
    simp only [if_true];rw [if_neg (show ¬ ((0:Int) ≠ 0/\d<=2*0) from fun h=>h.1 rfl),if_neg (show ¬ (d < 2*0\/0<=n/\2*0=d) by omega),Int.zero_sub]
   ·simp only [if_neg c]
    rw [bne_iff_ne.2 c,bne_iff_ne.2 (show d - r ≠ 0 by omega)];by_cases c2:d < 2*r
    ·rw [if_neg (show ¬ (d - r ≠ 0/\d<=2*(d - r)) by omega),if_pos (show d < 2*r\/0<=n/\2*r=d from Or.inl c2)]
     congr 1;omega
    ·rw [if_pos (show d - r ≠ 0/\d<=2*(d - r) by omega),if_neg (show ¬ (d < 2*r\/0<=n/\2*r=d) by omega)]
     congr 1;omega
  ·have en:n*1048576=sz n*1048576:=by rw [hsp hn]
   rw [en,if_neg (show ¬ n < 0 by omega)];generalize sz n*1048576 / d=u at *;generalize sz n*1048576 % d=r at *;by_cases c:d<=2*r
   ·rw [if_pos (show r ≠ 0/\d<=2*r by omega),if_pos (show d < 2*r\/0<=n/\2*r=d by omega),bne_iff_ne.2 (show r ≠ 0 by omega)]
   ·rw [if_neg (show ¬ (r ≠ 0/\d<=2*r) by omega),if_neg (show ¬ (d < 2*r\/0<=n/\2*r=d) by omega)]
theorem aum {n d:Int}(hd:0 < d)(h1:0<=n)(h2:n<=36028797018963968) :
  Lj n d=Js n d\/((67108864 < Lj n d/\Lj n d<=36028797018963969)/\67108864 < Js n d/\Js n d<=2147483647):=by
 have b:=SE hd (by omega) h2;by_cases big:2147483647<=n*1048576 / d
 ·right
  constructor
  ·unfold Lj iU
   by_cases c:268435456 < n / d\/n / d < -268435456
   ·have hq0:0<=n / d:=Int.ediv_nonneg h1 (by omega)
    rw [if_pos c];simp only;split <;> omega
   ·rw [if_neg c]
    simp only;have q2:n / d < 268435457:=by omega
    rw [Int.ediv_lt_iff_lt_mul hd] at q2;have:n*1048576 / d < 36028797018963968:=by rw [Int.ediv_lt_iff_lt_mul hd];omega
    split <;> omega
  ·unfold Js
   split
   ·omega
   ·omega
 ·left
  have hb:=Ha hd (show n*1048576 / d<=2147483647 by omega);have g1:¬ (268435456 < n / d\/n / d < -268435456):=by
   have a1:n / d<=268435456:=by
    have:n / d < 268435457:=by rw [Int.ediv_lt_iff_lt_mul hd];omega
    omega
   have a2:0<=n / d:=Int.ediv_nonneg h1 (by omega);omega
  unfold Lj iU Js;rw [if_neg g1,if_neg (show ¬ d<=n*1048576 / 18446744073709551616 by omega),if_neg big]
theorem f9 {b:B3}(h:(67108864 < b.1\/b.1 < -67108864)\/(67108864 < b.2.1\/b.2.1 < -67108864)\/(b.2.2 < 0\/67108864 < b.2.2)):iV b=(Bl0,8):=by
 unfold iV;rw [dif_neg (fun ho=>by have:=dM.1 ho;omega)]
theorem P1 {x:Int}(h1:-4611686018427387904<=x)(h2:x<=4611686018427387904){k:Int->Option α}:xk α x k=k (sz x):=by
 rw [xk,af,XN,aj (n:=0 - x) (by omega) (by omega)];rfl
theorem aEm (b:Bl):okS (cjB b.b)=true:=by
 have h:=b.bd;exact dM.2 ⟨h.1,by show -67108864<=0 - b.b.2.1/\0 - b.b.2.1<=67108864;omega,h.2.2⟩
theorem afm {X Y X' Y':Int × Bool}{Z Z':Int}(hX:X=X'\/((67108864 < X.1\/X.1 < -67108864)/\(67108864 < X'.1\/X'.1 < -67108864)))(hY:Y=Y'\/((67108864 < Y.1\/Y.1 < -67108864)/\(67108864 < Y'.1\/Y'.1 < -67108864)))
  (hZ:Z=Z'\/((67108864 < Z/\Z<=36028797018963969)/\67108864 < Z'/\Z'<=2147483647)) :
  iV (X.1,Y.1,w64 (Z+if (X.2 || Y.2)=true then 1 else 0))=iV (X'.1,Y'.1,w64 (Z'+if (X'.2 || Y'.2)=true then 1 else 0)):=by
 rcases hX with rfl | ⟨h1,h2⟩
 ·rcases hY with rfl | ⟨h1,h2⟩
  ·rcases hZ with rfl | ⟨h1,h2⟩
   ·rfl
   ·have hb:(0:Int)<=(if (X.2 || Y.2)=true then 1 else 0)/\(if (X.2 || Y.2)=true then (1:Int) else 0)<=1:=by split <;> omega
    generalize (if (X.2 || Y.2)=true then (1:Int) else 0)=z at *;rw [aj (n:=Z+z) (by omega) (by omega),aj (n:=Z'+z) (by omega) (by omega),f9 (Or.inr (Or.inr (Or.inr (show 67108864 < Z+z by omega)))),f9 (Or.inr (Or.inr (Or.inr (show 67108864 < Z'+z by omega))))]
  ·rw [f9 (Or.inr (Or.inl h1)),f9 (Or.inr (Or.inl h2))]
 ·rw [f9 (Or.inl h1),f9 (Or.inl h2)]
theorem aow (a b:Bl){k:Int->Int->Int->Int->Option α}:Dt α a.b.1 a.b.2.1 a.b.2.2 b.b.1 b.b.2.1 b.b.2.2 k=DK k (wO a b):=by
 have g:=a.bd;have h:=b.bd;have d:=b.dn_bd;have u:=b.up_bd;have v:=a.up_bd;obtain⟨s1,s2⟩:=nM b.ok;rw [Dt,af,Qt,zJ,aK];unfold wO;by_cases c:b.dn<=b.b.2.2
 ·rw [if_pos c,if_pos c];rfl
 ·rw [if_neg c,if_neg c]
  obtain⟨t1,t2,t3,t4,_⟩:=Yx (a:=a.b) (b:=cjB b.b) a.ok (aEm b);have q1:w64 (w64 (a.b.1*b.b.1)+w64 (a.b.2.1*b.b.2.1))=tmP a.b (cjB b.b):=by
   have e:a.b.1*b.b.1=a.b.1*(cjB b.b).1:=rfl;have e2:a.b.2.1*(cjB b.b).2.1=-(a.b.2.1*b.b.2.1):=by show a.b.2.1*(0 - b.b.2.1)=_;rw [Int.zero_sub,Int.mul_neg]
   rw [e,aj (n:=a.b.1*(cjB b.b).1) (by omega) (by omega),aj (n:=a.b.2.1*b.b.2.1) (by omega) (by omega),aj (by omega) (by omega)];unfold tmP;omega
  have q2:w64 (w64 (a.b.2.1*b.b.1) - w64 (a.b.1*b.b.2.1))=tmQ a.b (cjB b.b):=by
   have e:a.b.2.1*b.b.1=a.b.2.1*(cjB b.b).1:=rfl;have e2:a.b.1*(cjB b.b).2.1=-(a.b.1*b.b.2.1):=by show a.b.1*(0 - b.b.2.1)=_;rw [Int.zero_sub,Int.mul_neg]
   rw [e,aj (n:=a.b.2.1*(cjB b.b).1) (by omega) (by omega),aj (n:=a.b.1*b.b.2.1) (by omega) (by omega),aj (by omega) (by omega)];unfold tmQ;omega
  obtain⟨q3,_⟩:=axf b;have hp:-9007199254740992<=tmP a.b (cjB b.b)/\tmP a.b (cjB b.b)<=9007199254740992:=by unfold tmP;omega
  have hq:-9007199254740992<=tmQ a.b (cjB b.b)/\tmQ a.b (cjB b.b)<=9007199254740992:=by unfold tmQ;omega
  have hpos:0 < (sqn b.b:Int):=by
   have e1:(isq (sqn b.b):Int)=b.dn:=rfl;have e2:=O8 (n:=sqn b.b) (by omega);have e3:1<=isq (sqn b.b):=by omega
   have e4:1*1<=isq (sqn b.b)*isq (sqn b.b):=Nat.mul_le_mul e3 e3;omega
  have m1:=ld (x:=a.b.2.2) (y:=b.up) (by omega) g.2.2.2 u.1 u.2;have m2:=ld (x:=a.up) (y:=b.b.2.2) v.1 v.2 h.2.2.1 h.2.2.2;have m3:=ld (x:=b.dn - b.b.2.2) (y:=b.dn) (A:=94906265) (B:=94906265) (by omega) (by omega) (by omega) (by omega);have m3':0 < (b.dn - b.b.2.2)*b.dn:=Int.mul_pos (by omega) (by omega);simp only [q1,q2,q3,zJ,J8];rw [uP hpos (by omega) (by omega) (by omega),uP hpos (by omega) (by omega) (by omega)];have r1:w64 (w64 (a.b.2.2*b.up)+w64 (a.up*b.b.2.2))=a.b.2.2*b.up+a.up*b.b.2.2:=by
   rw [aj (n:=a.b.2.2*b.up) (by omega) (by omega),aj (n:=a.up*b.b.2.2) (by omega) (by omega),aj (by omega) (by omega)]
  have r2:w64 (w64 (b.dn - b.b.2.2)*b.dn)=(b.dn - b.b.2.2)*b.dn:=by
   rw [aj (n:=b.dn - b.b.2.2) (by omega) (by omega),aj (by omega) (by omega)]
  rw [r1,r2,auc m3' (by omega) (by omega) (by omega)];have hX:=Af (n:=tmP a.b (cjB b.b)) hpos (by omega) (by omega) (by omega);have hY:=Af (n:=tmQ a.b (cjB b.b)) hpos (by omega) (by omega) (by omega);have hZ:=aum (n:=a.b.2.2*b.up+a.up*b.b.2.2) m3' (by omega) (by omega);unfold azf;have key:=afm hX hY hZ;generalize Bt (tmP a.b (cjB b.b)) (sqn b.b)=X at *;generalize Bt (tmQ a.b (cjB b.b)) (sqn b.b)=Y at *;generalize Lj (a.b.2.2*b.up+a.up*b.b.2.2) ((b.dn - b.b.2.2)*b.dn)=Z at *;rw [<- key];simp only [PU,i6];cases hX:X.2 with
  | true=>rw [ap];rfl
  | false=>rw [al];rfl
theorem aqu (a:Bl){k:Int->Int->Int->Int->Option α}:xp α a.b.1 a.b.2.1 a.b.2.2 k=DK k (o6 a):=by
 have g:=a.bd;have d:=a.dn_bd;have sx:=GS g.1.1 g.1.2;have sy:=GS g.2.1.1 g.2.1.2;rw [xp,af,VI,zJ,aK];unfold o6;by_cases c:a.dn<=a.b.2.2
 ·rw [if_pos c,if_pos c];rfl
 ·rw [if_neg c,if_neg c,sW,af,GX,aK]
  generalize hm:a.dn=m at *;have hw:=yH (n:=(m+sz a.b.1)*524288) (by omega) (by omega);have hw1:=AS (n:=(m+sz a.b.1)*524288) (by omega) (by omega);have hv:=yH (n:=m*1048576) (by omega) (by omega);have hv1:=AS (n:=m*1048576) (by omega) (by omega);have e1:w64 (m*1048576)=m*1048576:=aj (by omega) (by omega);have e2:w64 (a.b.2.2*1048576)=a.b.2.2*1048576:=aj (by omega) (by omega);have body:om α m a.b.1 a.b.2.1
      (fun (x35:Int) (x36:Int) (x37:Int)=>dj α (w64 (m*1048576))
       (fun (x43:Int)=>cn α (w64 (a.b.2.2*1048576)) x43
        (fun (x44:Int)=>cn α 1048576 x35
         (fun (x45:Int)=>dJ α x36 x37 (w64 ((w64 (x44+3))+x45))
          (fun (x46:Int) (x47:Int) (x48:Int) (x49:Int)=>k x46 x47 x48 x49)))))
      (fun (x38:Int) (x39:Bool) (x40:Int) (x41:Int)=>dj α (w64 (m*1048576))
       (fun (x50:Int)=>cn α (w64 (a.b.2.2*1048576)) x50
        (fun (x51:Int)=>cn α 1048576 x38
         (fun (x52:Int)=>dJ α x40 x41 (w64 ((w64 (x51+3))+x52))
          (fun (x53:Int) (x54:Int) (x55:Int) (x56:Int)=>k x53 x54 x55 x56)))))=
    DK k (iV (CU a.b.1 a.b.2.1 a.b.2.2 m (rtd ((m+sz a.b.1)*524288)) (rtd (m*1048576)))):=by
   rw [om,af,HB,aK,e1,e2];simp only [l6 (n:=m*1048576) (by omega) (by omega),Mb.f69_raw (n:=a.b.2.2*1048576) (d:=rtd (m*1048576)) (by omega),i6];unfold CU Xx;by_cases c1:0<=a.b.1
   ·have es:sz a.b.1=a.b.1:=by unfold sz;split <;> omega
    rw [if_pos c1,if_neg (show ¬ a.b.1 < 0 by omega),aj (n:=m+a.b.1) (by omega) (by omega),aj (n:=(m+a.b.1)*524288) (by omega) (by omega),show m+a.b.1=m+sz a.b.1 by omega,l6 (by omega) (by omega)];generalize rtd ((m+sz a.b.1)*524288)=w at *;generalize rtd (m*1048576)=v at *;rw [aj (n:=2*w) (by omega) (by omega),uP (by omega) (by omega) (by omega) (by omega),Mb.f69_raw (by omega)];have hq:=Af (n:=a.b.2.1) (d:=2*w) (by omega) (by omega) (by omega) (by omega);rcases hq with hq | ⟨h1,h2⟩
    ·rw [hq] <;> rfl
    ·rw [f9 (Or.inr (Or.inl h1)),f9 (Or.inr (Or.inl h2))]
   ·have es:sz a.b.1=-a.b.1:=by unfold sz;split <;> omega
    rw [if_neg c1,if_pos (show a.b.1 < 0 by omega),aj (n:=m - a.b.1) (by omega) (by omega),aj (n:=(m - a.b.1)*524288) (by omega) (by omega),show m - a.b.1=m+sz a.b.1 by omega,l6 (by omega) (by omega),P1 (by omega) (by omega)];generalize rtd ((m+sz a.b.1)*524288)=w at *;generalize rtd (m*1048576)=v at *;rw [aj (n:=2*w) (by omega) (by omega),uP (by omega) (by omega) (by omega) (by omega)];simp only [Mb.f69_raw (n:=1048576) (d:=w) (by omega)];rw [aj (n:=0 - w) (by omega) (by omega),aK];have hq:=Af (n:=sz a.b.2.1) (d:=2*w) (by omega) (by omega) (by omega) (by omega);by_cases c2:a.b.2.1 < 0
    ·rw [if_pos c2,if_pos c2]
     rcases hq with hq | ⟨h1,h2⟩
     ·rw [hq] <;> rfl
     ·rw [f9 (Or.inl h1),f9 (Or.inl h2)]
    ·rw [if_neg c2,if_neg c2]
     rcases hq with hq | ⟨h1,h2⟩
     ·rw [hq] <;> rfl
     ·rw [f9 (Or.inl h1),f9 (Or.inl h2)]
  by_cases c1:a.b.1 < 0
  ·rw [if_pos c1,P1 (by omega) (by omega),aK]
   by_cases c2:sz a.b.2.1<=a.b.2.2
   ·have c2':-a.b.2.2<=a.b.2.1/\a.b.2.1<=a.b.2.2:=by
     unfold sz at c2;split at c2 <;> omega
    rw [if_pos c2];by_cases c3:a.b.2.2=0
    ·rw [if_neg (fun h=>h.2.2 c3),bo,if_pos c3]
     exact body
    ·rw [if_pos ⟨c1,c2',c3⟩,bo,if_neg c3];rfl
   ·rw [if_neg c2,al,if_neg (fun h=>c2 (by unfold sz;split <;> omega))]
    exact body
  ·rw [if_neg c1,al,if_neg (fun h=>c1 h.1)]
   exact body
theorem ao4 {lo hi:Int}(h1:-67108864<=lo)(h2:hi<=67108864)(h3:lo<=hi):(cL lo hi).2=0:=by
 unfold cL qx;rw [if_pos ⟨decide_eq_true (by omega),decide_eq_true (by omega)⟩,if_neg (by omega)];unfold iV;rw [dif_pos (dM.2 ⟨by show -67108864<=(lo+hi) / 2/\(lo+hi) / 2<=67108864;omega,by show (-67108864:Int)<=0/\(0:Int)<=67108864;decide,by show 0<=hi - (lo+hi) / 2/\hi - (lo+hi) / 2<=67108864;omega⟩)]
def Nz (u:Bl × Int):Prop:=u.2 ≠ 0->u.1=Bl0
theorem vC (b:B3):Nz (iV b):=by
 intro h;unfold iV at *;split at h
 ·exact absurd rfl h
 ·rename_i g;rw [dif_neg g]
theorem zw (e:Int):Nz (Bl0,e):=fun _=>rfl
theorem tf (lo hi:Int):Nz (cL lo hi):=by
 unfold cL;split
 ·split
  ·exact zw _
  ·exact vC _
 ·exact zw _
theorem ay4 (a b:Bl):Nz (wO a b):=by
 unfold wO;split
 ·exact zw _
 ·exact vC _
theorem amy (a:Bl):Nz (o6 a):=by
 unfold o6;split
 ·exact zw _
 ·split
  ·exact zw _
  ·exact vC _
theorem amD (a:Bl):Nz (Ev a):=vC _
theorem ajv (lo hi:Int):Nz (jX lo hi):=by
 unfold jX;split
 ·exact zw _
 ·split
  ·exact tf _ _
  ·split
   ·split
    ·exact zw _
    ·exact amD _
   ·exact zw _
theorem axi (lo hi:Int):Nz (CL lo hi):=by
 unfold CL;split
 ·exact vC _
 ·exact zw _
theorem P7 (n d:Int):Nz (yZ n d):=by
 unfold yZ;split
 ·exact vC _
 ·exact zw _
theorem arV {lo hi:Int}{k:Int->Int->Int->Int->Option α}:xr α lo hi k=DK k (jX lo hi):=by
 rw [xr,af,XW,zV];unfold jX;show cK ((cL lo hi).2 != 0) _ _=_;rw [bo];by_cases c:(cL lo hi).2=0
 ·rw [if_pos c,if_neg (fun h=>h c),aK]
  obtain⟨g1,g2,g3⟩:=yL c;by_cases c2:0<=lo
  ·rw [if_pos c2,if_pos c2,aj (n:=lo*1048576) (by omega) (by omega),aj (n:=hi*1048576) (by omega) (by omega),l6 (by omega) (by omega),Oz (by omega) (by omega),zV]
  ·rw [if_neg c2,if_neg c2,aK]
   by_cases c3:hi<=0
   ·have e0:(cL (-hi) (-lo)).2=0:=ao4 (by omega) (by omega) (by omega)
    have er:rr1 (-hi) (-lo)=cL (rtd (-hi*1048576)) (rtu (-lo*1048576)):=by
     unfold rr1;rw [if_neg (fun h=>h e0),if_pos (by omega)]
    rw [if_neg (by omega),if_pos c3,aj (n:=0 - hi) (by omega) (by omega),aj (n:=0 - lo) (by omega) (by omega),Int.zero_sub,Int.zero_sub,aj (n:=-hi*1048576) (by omega) (by omega),aj (n:=-lo*1048576) (by omega) (by omega),
     l6 (by omega) (by omega),Oz (by omega) (by omega),zV,er]
    have nz:=tf (rtd (-hi*1048576)) (rtu (-lo*1048576));generalize cL (rtd (-hi*1048576)) (rtu (-lo*1048576))=u at *;have gb:=u.1.bd;show sr α u.1.b.1 u.1.b.2.1 1 _=_;rw [akS (by omega) (by omega)];by_cases c4:u.2=0
    ·rw [if_neg (fun h=>h c4),L6,c4];rfl
    ·rw [if_pos c4,nz c4];rfl
   ·rw [if_pos (by omega),if_neg c3];rfl
 ·rw [if_neg c,if_pos c];rfl
theorem au0 {n:Int}(h1:0<=n)(h2:n<=80000){k:Int->Int->Int->Int->Option α}:yJ α n 10000 k=DK k (yZ n 10000):=by
 rw [yJ,af,Zc,Mb.f8_eq,cI,if_pos (by omega),Mb.f8_eq,cI,if_pos (by decide),uP (by decide) (by decide) (by omega) (by omega)];have et:Int.tmod (n*1048576) 10000=n*1048576 % 10000:=Int.tmod_eq_emod_of_nonneg (by omega);have es:iU n 10000=(n*1048576 / 10000,n*1048576 % 10000):=by
  unfold iU;rw [if_neg (by omega)]
 unfold yZ Bt rdv;rw [if_pos (show (-1000000000<=n/\n<=1000000000)/\(1:Int)<=10000/\(10000:Int)<=1000000000 by omega),et,es];simp only [PU,i6];by_cases c:n*1048576 % 10000=0
 ·rw [if_neg (show ¬ (n*1048576 % 10000 ≠ 0/\10000<=2*(n*1048576 % 10000)) from fun h=>h.1 c),if_pos c,show (2*(n*1048576)+10000) / (2*10000)=n*1048576 / 10000 by omega]
  simp only;rw [c];rfl
 ·have ec:(if n*1048576 % 10000=0 then (0:Int) else 1)=1:=if_neg c
  rw [ec];by_cases c2:10000<=2*(n*1048576 % 10000)
  ·rw [if_pos (show n*1048576 % 10000 ≠ 0/\10000<=2*(n*1048576 % 10000) from ⟨c,c2⟩),show (2*(n*1048576)+10000) / (2*10000)=n*1048576 / 10000+1 by omega]
   rfl
  ·rw [if_neg (show ¬ (n*1048576 % 10000 ≠ 0/\10000<=2*(n*1048576 % 10000)) from fun h=>c2 h.2),show (2*(n*1048576)+10000) / (2*10000)=n*1048576 / 10000 by omega]
   simp only;rw [bne_iff_ne.2 c];rfl
theorem amn {m lo hi:Int}{k1:Option α}{k2:Bool->Option α}{Y:Option α}(h2:∀ b,k2 b=Y):jZ α m lo hi k1 k2=if lo=hi/\m % 1048576=0 then k1 else Y:=by
 rw [jZ,af,GR];by_cases c:lo=hi
 ·rw [beq_iff_eq.2 c,ap,Mb.f273_eq (by decide) (by decide),gz]
  by_cases c2:m % 1048576=0
  ·rw [if_pos c2,if_pos ⟨c,c2⟩]
  ·rw [if_neg c2,if_neg (fun h=>c2 h.2),h2]
 ·rw [beq_eq_false_iff_ne.2 c,al,if_neg (fun h=>c h.1),h2]
theorem aoO {lo hi:Int}{k:Int->Int->Int->Int->Option α}:xo α lo hi k=DK k (CL lo hi):=by
 rw [xo,af,UD,Mb.f8_eq,cI];unfold CL ckE;by_cases c1:(-1099511627776:Int)<=lo/\lo<=1099511627776
 ·rw [if_pos c1,Mb.f8_eq,cI]
  by_cases c2:(-1099511627776:Int)<=hi/\hi<=1099511627776
  ·have c3:((-1099511627776:Int)<=lo/\lo<=1099511627776)/\¬ 1099511627776 < hi/\¬ ((-1099511627776:Int) < 0/\hi < -1099511627776):=⟨c1,by omega,by omega⟩
   rw [if_pos c2,aK,if_pos c3];by_cases c4:hi < lo
   ·rw [if_pos c4,if_pos c4];rfl
   ·rw [if_neg c4,if_neg c4,if_pos rfl,aj (n:=lo+hi) (by omega) (by omega),Mb.f91_eq (by decide) (by decide) (by omega) (by omega),Mb.f286_eq]
    have hb:=IU ((lo+hi) / 2);have:=hb.h1;have:=hb.h2;have:=hb.h3;have:=hb.h4;obtain⟨b1,e1⟩:=Mb.f281_eq (α:=α) (n:=(dir ((lo+hi) / 2)).1) (by omega) (by omega) (k:=fun x8 x9=>jn α (dir ((lo+hi) / 2)).2 64
          (fun (x10:Int) (x11:Bool)=>cn α (w64 (11*(w64 (hi - (lo+hi) / 2)))) 7
           (fun (x12:Int)=>jZ α ((lo+hi) / 2) lo hi
            (dJ α x8 x10 0
             (fun (x26:Int) (x27:Int) (x28:Int) (x29:Int)=>k x26 x27 x28 x29))
            (fun (x24:Bool)=>dJ α x8 x10 (w64 (2+x12))
             (fun (x30:Int) (x31:Int) (x32:Int) (x33:Int)=>k x30 x31 x32 x33)))))
    refine e1.trans ?_;obtain⟨b2,e2⟩:=Mb.f281_eq (α:=α) (n:=(dir ((lo+hi) / 2)).2) (by omega) (by omega) (k:=fun x10 x11=>cn α (w64 (11*(w64 (hi - (lo+hi) / 2)))) 7
           (fun (x12:Int)=>jZ α ((lo+hi) / 2) lo hi
            (dJ α (rdv (dir ((lo+hi) / 2)).1 64) x10 0
             (fun (x26:Int) (x27:Int) (x28:Int) (x29:Int)=>k x26 x27 x28 x29))
            (fun (x24:Bool)=>dJ α (rdv (dir ((lo+hi) / 2)).1 64) x10 (w64 (2+x12))
             (fun (x30:Int) (x31:Int) (x32:Int) (x33:Int)=>k x30 x31 x32 x33))))
    refine e2.trans ?_;rw [aj (n:=hi - (lo+hi) / 2) (by omega) (by omega),aj (n:=11*(hi - (lo+hi) / 2)) (by omega) (by omega),Mb.f69_eq (by decide) (by decide) (by omega) (by omega),amn (fun _=>rfl)];have hc:=Mb.cdv_bd (n:=11*(hi - (lo+hi) / 2)) (by omega);unfold Mb.arcX Mb.arcY Mb.arcR;rw [aj (n:=2+cdv (11*(hi - (lo+hi) / 2)) 7) (by omega) (by omega)];by_cases c5:lo=hi/\lo % 1048576=0
    ·rw [if_pos c5,if_pos (show lo=hi/\(lo+hi) / 2 % 1048576=0 by omega),i6]
    ·rw [if_neg c5,if_neg (show ¬ (lo=hi/\(lo+hi) / 2 % 1048576=0) by omega),i6]
  ·rw [if_neg c2]
   by_cases c3:((-1099511627776:Int)<=lo/\lo<=1099511627776)/\¬ 1099511627776 < hi/\¬ ((-1099511627776:Int) < 0/\hi < -1099511627776)
   ·exact absurd c3 (by omega)
   ·rw [if_neg c3];rfl
 ·rw [if_neg c1]
  have c3:¬ (((-1099511627776:Int)<=lo/\lo<=1099511627776)/\¬ 1099511627776 < hi/\¬ ((-1099511627776:Int) < 0/\hi < -1099511627776)):=fun h=>c1 h.1;rw [if_neg c3];rfl
theorem DD {n d:Int}(hd:0 < d)(hd2:d<=9223372036854775807)(hn:-9223372036854775807<=n)(hn2:n<=9223372036854775807):flr n d=n / d:=by
 have h1:=Mb.f91_raw (n:=n) (d:=d) (by omega) (k:=some);rw [Mb.f91_eq hd hd2 hn hn2] at h1;exact (Option.some.inj h1).symm
theorem axm {n:Int}:∀ (m k:Nat),n<=1048576*2 ^ (k+m)->n<=1048576*2 ^ hlv n m k:=by
 intro m
 induction m with
 | zero=>intro k h;exact h
 | succ m ih=>
  intro k h;unfold hlv;split
  ·exact ih (k+1) (by rw [show k+1+m=k+(m+1) by omega];exact h)
  ·omega
theorem asR {n:Int}(h:n<=4611686018427387904):n<=1048576*2 ^ rM n:=by
 refine axm 42 0 ?_;rw [show (2:Int) ^ (0+42)=4398046511104 from rfl];omega
theorem HF {n:Int}(hn:n<=4611686018427387904){k1:Int->Int->Bool->Option α}{y:Int->Int->Option α}(hk:∀ a b c,k1 a b c=y a b) :
  ∀ (m k f:Nat),k+m=42->m < f->lU α n k1 f (k:Int) (2 ^ k)=y (hlv n m k:Int) (2 ^ hlv n m k):=by
 intro m
 induction m with
 | zero=>
  intro k f h hf;obtain⟨f,rfl⟩:∃ f',f=f'+1:=⟨f - 1,by omega⟩
  rw [lU];simp only [oh];have:k=42:=by omega
  subst this;rw [show (2:Int) ^ 42=4398046511104 from rfl,aj (by omega) (by omega),aK,if_neg (by omega),hk];rfl
 | succ m ih=>
  intro k f h hf;obtain⟨f,rfl⟩:∃ f',f=f'+1:=⟨f - 1,by omega⟩
  rw [lU];simp only [oh];obtain⟨_,_,p3,p4⟩:=pw (k:=k) (by omega);have hs:(2:Int) ^ (k+1)=2*2 ^ k:=by rw [Int.pow_succ,Int.mul_comm]
  have ih':=ih (k+1) f (by omega) (by omega);rw [hs] at ih';unfold hlv;rw [aj (n:=1048576*2 ^ k) (by omega) (by omega),aK];by_cases c:1048576*2 ^ k < n
  ·rw [if_pos c,if_pos c,aj (n:=(k:Int)+1) (by omega) (by omega),aj (n:=2*2 ^ k) (by omega) (by omega)]
   exact ih'
  ·rw [if_neg c,if_neg c,hk]
theorem Hi {p:Int}{b:Bool}{k:Int->Option α}:oc α p b k=k (if b=true then flr (w64 (w64 (256*p)*62831853)) 10000000 else cel (w64 (w64 (256*p)*62831854)) 10000000):=by
 rw [oc,af,HS];cases b with
 | true=>rw [ap,Mb.f91_raw (by decide),if_pos rfl]
 | false=>rw [al,Mb.f69_raw (by decide),if_neg (by decide)]
theorem Z0 {K:Nat}(hK:K<=42){k1:Int->Int->Bool->Option α}{y:Int->Option α}(hk:∀ a b c,k1 a b c=y a):∀ (m i n:Nat) (f:Int),i+m=K->m < n->0<=f->f<=1073741824 ->
  gF α false (K:Int) k1 n f (i:Int)=y (itr (fun f=>w64 (Int.tdiv (w64 (f*f)) 1073741824)) m f):=by
 intro m
 induction m with
 | zero=>
  intro i n f h hn _ _;obtain⟨n,rfl⟩:∃ n',n=n'+1:=⟨n - 1,by omega⟩
  rw [gF];simp only [jM];rw [aK,if_neg (by omega),hk];rfl
 | succ m ih=>
  intro i n f h hn h1 h2;obtain⟨n,rfl⟩:∃ n',n=n'+1:=⟨n - 1,by omega⟩
  have hf:=ld h1 h2 h1 h2;have e:flr (w64 (f*f)) 1073741824=w64 (Int.tdiv (w64 (f*f)) 1073741824):=by
   rw [aj (n:=f*f) (by omega) (by omega),DD (by decide) (by decide) (by omega) (by omega),Int.tdiv_eq_ediv_of_nonneg hf.1,aj (by omega) (by omega)]
  have b:0<=flr (w64 (f*f)) 1073741824/\flr (w64 (f*f)) 1073741824<=1073741824:=by
   rw [aj (n:=f*f) (by omega) (by omega),DD (by decide) (by decide) (by omega) (by omega)];generalize f*f=z at *;omega
  rw [gF];simp only [jM];rw [aK,if_pos (by omega),al,Mb.f91_raw (by decide),aj (n:=(i:Int)+1) (by omega) (by omega)];refine (ih (i+1) n _ (by omega) (by omega) b.1 b.2).trans ?_;rw [e];rfl
theorem Z3 {K:Nat}(hK:K<=42){k1:Int->Int->Bool->Option α}{y:Int->Option α}(hk:∀ a b c,k1 a b c=y a):∀ (m i n:Nat) (f:Int),i+m=K->m < n ->
  gF α true (K:Int) k1 n f (i:Int)=y (itr (fun f=>cel (w64 (f*f)) 1073741824) m f):=by
 intro m
 induction m with
 | zero=>
  intro i n f h hn;obtain⟨n,rfl⟩:∃ n',n=n'+1:=⟨n - 1,by omega⟩
  rw [gF];simp only [jM];rw [aK,if_neg (by omega),hk];rfl
 | succ m ih=>
  intro i n f h hn;obtain⟨n,rfl⟩:∃ n',n=n'+1:=⟨n - 1,by omega⟩
  rw [gF];simp only [jM];rw [aK,if_pos (by omega),ap,Mb.f69_raw (by decide),aj (n:=(i:Int)+1) (by omega) (by omega)];exact ih (i+1) n _ (by omega) (by omega)
theorem ap9 {x:Int}{h:Nat}(hx:0<=x)(hl:x<=1048576*2 ^ h):0<=cdv x (2 ^ h)/\cdv x (2 ^ h)<=1048576:=by
 have hp:(0:Int) < 2 ^ h:=Int.pow_pos (by decide);constructor
 ·have:cdv 0 (2 ^ h)<=cdv x (2 ^ h):=aeU hp hx
  have e:cdv 0 (2 ^ h)=0:=by unfold cdv;simp
  omega
 ·exact (PG hp).2 hl
theorem azx {u:Int}(h1:0<=u)(h2:u<=1048576):flr (w64 (u*u)) 2147483648=w64 (Int.tdiv (w64 (u*u)) 2147483648) /\
  0<=w64 (w64 (w64 (1073741824 - u)+w64 (Int.tdiv (w64 (u*u)) 2147483648)) - cel (w64 (w64 (u*u)*u)) 6917529027641081856)/\w64 (w64 (w64 (1073741824 - u)+w64 (Int.tdiv (w64 (u*u)) 2147483648)) - cel (w64 (w64 (u*u)*u)) 6917529027641081856)<=1073741824:=by
 have m1:=ld h1 h2 h1 h2;have m2:=ld m1.1 m1.2 h1 h2;have m3:u*u<=u*1048576:=Int.mul_le_mul_of_nonneg_left h2 h1;rw [aj (n:=u*u) (by omega) (by omega),aj (n:=u*u*u) (by omega) (by omega),DD (by decide) (by decide) (by omega) (by omega),Int.tdiv_eq_ediv_of_nonneg m1.1,aj (n:=u*u / 2147483648) (by omega) (by omega),sF (by decide) (by decide) (by omega) (by omega),aj (n:=1073741824 - u) (by omega) (by omega)];unfold cdv;generalize u*u*u=z at *;generalize u*u=y at *;rw [aj (n:=1073741824 - u+y / 2147483648) (by omega) (by omega),aj (by omega) (by omega)];refine⟨rfl,?_,?_⟩
 ·omega
 ·omega
theorem aqj {p:Int}(h1:0<=p)(h2:p<=16777216){k:Int->Option α}:mz α p false k=k (ahZ p):=by
 have hf:=bz;rw [mz,af,JK,Hi,if_neg (by decide),oI,af,xy];have hx:=avu h1 h2;have hx0:0<=cel (w64 ((w64 (256*p))*62831854)) 10000000:=by
  rw [aj (n:=256*p) (by omega) (by omega),aj (by omega) (by omega),sF (by decide) (by decide) (by omega) (by omega)];unfold cdv;omega
 refine (HF hx (k1:=fun x15 x16 x17=>eZ α false (cel (w64 (w64 (256*p)*62831854)) 10000000) x16 fun x29=>fc α false x15 (fun x38 x39 x40=>k x38) x29 0)
  (y:=fun a b=>eZ α false (cel (w64 (w64 (256*p)*62831854)) 10000000) b fun x29=>fc α false a (fun x38 x39 x40=>k x38) x29 0) (fun _ _ _=>rfl) 42 0 aE (by omega) (by omega)).trans ?_
 unfold ahZ;simp only [];generalize hX:cel (w64 ((w64 (256*p))*62831854)) 10000000=x at *;have hb:=AX x;have hl:=asR hx;show eZ α false x (2 ^ rM x) (fun x29=>fc α false (rM x:Int) (fun x38 x39 x40=>k x38) x29 0)=_;generalize rM x=h at *;obtain⟨_,_,p3,p4⟩:=pw hb;obtain⟨u1,u2⟩:=ap9 hx0 hl;have ec:cel x (2 ^ h)=cdv x (2 ^ h):=sF (by omega) (by omega) (by omega) (by omega);rw [eZ,af,xV,al,Mb.f69_raw (by omega),ec];generalize cdv x (2 ^ h)=u at *;obtain⟨q1,q2,q3⟩:=azx u1 u2;rw [Mb.f91_raw (by decide),Mb.f69_raw (by decide),q1,fc,af,xS];exact Z0 hb (y:=k) (fun _ _ _=>rfl) h 0 aE _ (by omega) (by omega) q2 q3
theorem Ve {p:Int}(h1:0<=p)(h2:p<=16777216){k:Int->Option α}:mz α p true k=k (al1 p):=by
 have hf:=bz;have e0:flr (w64 (w64 (256*p)*62831853)) 10000000=w64 (Int.tdiv (w64 ((w64 (256*p))*62831853)) 10000000)/\0<=flr (w64 (w64 (256*p)*62831853)) 10000000:=by
  rw [aj (n:=256*p) (by omega) (by omega),aj (n:=256*p*62831853) (by omega) (by omega),DD (by decide) (by decide) (by omega) (by omega),Int.tdiv_eq_ediv_of_nonneg (by omega),aj (by omega) (by omega)];omega
 rw [mz,af,JK,Hi,if_pos rfl,e0.1,oI,af,xy];have hx:=avi h1 h2;have hx0:=e0.2;rw [e0.1] at hx0;clear e0;refine (HF hx (k1:=fun x15 x16 x17=>eZ α true (w64 (Int.tdiv (w64 ((w64 (256*p))*62831853)) 10000000)) x16 fun x29=>fc α true x15 (fun x38 x39 x40=>k x38) x29 0)
  (y:=fun a b=>eZ α true (w64 (Int.tdiv (w64 ((w64 (256*p))*62831853)) 10000000)) b fun x29=>fc α true a (fun x38 x39 x40=>k x38) x29 0) (fun _ _ _=>rfl) 42 0 aE (by omega) (by omega)).trans ?_
 unfold al1;simp only [];generalize hX:w64 (Int.tdiv (w64 ((w64 (256*p))*62831853)) 10000000)=x at *;have hb:=AX x;show eZ α true x (2 ^ rM x) (fun x29=>fc α true (rM x:Int) (fun x38 x39 x40=>k x38) x29 0)=_;generalize rM x=h at *;obtain⟨_,_,p3,p4⟩:=pw hb;rw [eZ,af,xV,ap,Mb.f91_eq (by omega) (by omega) (by omega) (by omega),Mb.f69_raw (by decide),fc,af,xS];exact Z3 hb (y:=k) (fun _ _ _=>rfl) h 0 aE _ (by omega) (by omega)
theorem Z4 {lo hi:Int}{k:Bool->Option α}:oM α lo hi k=if (0<=lo/\lo<=1099511627776)/\¬ 1099511627776 < hi then k false else k true:=by
 rw [oM,af,HO,aK,aK];by_cases c1:lo < 0
 ·rw [if_pos c1,if_neg (by omega)]
 ·rw [if_neg c1]
  by_cases c2:1099511627776 < lo
  ·rw [if_pos c2,if_neg (by omega)]
  ·rw [if_neg c2]
   by_cases c3:1099511627776 < hi
   ·rw [decide_eq_true c3,if_neg (fun h=>h.2 c3)]
   ·rw [decide_eq_false c3,if_pos ⟨by omega,c3⟩]
theorem ar2 {lo hi:Int}{k:Int->Int->Int->Option α}:r8 α lo hi k=k (jx lo hi).1 (jx lo hi).2.1 (jx lo hi).2.2:=by
 rw [r8,af,W0,Z4];unfold jx ckE;by_cases c:(0<=lo/\lo<=1099511627776)/\¬ 1099511627776 < hi
 ·rw [if_pos c,al,aK,if_pos (show (0<=lo/\lo<=1099511627776)/\¬ 1099511627776 < hi/\¬ ((0:Int) < 0/\hi < 0) from ⟨c.1,c.2,by omega⟩)]
  by_cases c2:hi < lo
  ·rw [if_pos c2,if_pos c2];rfl
  ·rw [if_neg c2,if_neg c2,if_pos rfl,uB,af,G2,aK]
   by_cases h1:hi<=16777216
   ·rw [if_pos h1,if_pos h1,aqj (by omega) h1,Mb.f91_raw (by decide),aK]
    by_cases h2:lo<=16777216
    ·rw [if_pos h2,if_pos h2,Ve c.1.1 h2,Mb.f69_raw (by decide)]
    ·rw [if_neg h2,if_neg h2]
   ·rw [if_neg h1,if_neg h1,aK]
    by_cases h2:lo<=16777216
    ·rw [if_pos h2,if_pos h2,Ve c.1.1 h2,Mb.f69_raw (by decide)]
    ·rw [if_neg h2,if_neg h2]
 ·rw [if_neg c,ap,if_neg (show ¬ ((0<=lo/\lo<=1099511627776)/\¬ 1099511627776 < hi/\¬ ((0:Int) < 0/\hi < 0)) from fun h=>c ⟨h.1,h.2.1⟩)]
  rfl
end Go.AM.K
