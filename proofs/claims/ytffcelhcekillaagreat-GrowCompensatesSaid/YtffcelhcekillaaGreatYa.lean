/- Texts of one kind, put together. -/
import Derived.Test.YtffcelhcekillaaGreatRh
import Derived.Test.YtffcelhcekillaaGreatKNa
namespace Go.AM.K
set_option linter.unusedSectionVars false
set_option linter.unusedVariables false
set_option linter.unusedSimpArgs false
variable {α:Type}
theorem pq {x:Int}(h1:-9223372036854775808<=x)(h2:x < 9223372036854775808):w64 x=x:=IntWalk.i64_in _ (by omega)
section
variable {n s:Int}(hs0:0<=s)(hs:s < 2147483648)(h1:s*s<=n)(h2:n < (s+1)*(s+1))
include hs0 hs h1 h2
theorem ahB {k:Int->Bool->Option α}:∀ (j m:Nat),j < m->s+(j:Int) < 2147483648->fp α n k m (s+(j:Int))=k s false:=by
 intro j
 induction j with
 | zero=>
  intro m hm hb;obtain⟨m,rfl⟩:∃ z,m=z+1:=⟨m - 1,by omega⟩
  have e:s*s<=2147483647*2147483647:=Int.mul_le_mul (by omega) (by omega) hs0 (by omega);have e0:0<=s*s:=Int.mul_nonneg hs0 hs0;rw [show s+((0:Nat):Int)=s by omega];simp only [fp,mr];rw [pq (x:=s*s) (by omega) (by omega),decide_eq_false (show ¬ n < s*s by omega)];rfl
 | succ j ih=>
  intro m hm hb;obtain⟨m,rfl⟩:∃ z,m=z+1:=⟨m - 1,by omega⟩
  have hr:s+((j+1:Nat):Int)=(s+1)+(j:Int):=by omega
  have g1:(s+1)*(s+1)<=(s+((j+1:Nat):Int))*(s+((j+1:Nat):Int)):=Int.mul_le_mul (by omega) (by omega) (by omega) (by omega);have g2:(s+((j+1:Nat):Int))*(s+((j+1:Nat):Int))<=2147483647*2147483647:=Int.mul_le_mul (by omega) (by omega) (by omega) (by omega);have g3:0<=(s+1)*(s+1):=Int.mul_nonneg (by omega) (by omega);simp only [fp,mr];rw [pq (x:=(s+((j+1:Nat):Int))*(s+((j+1:Nat):Int))) (by omega) (by omega),decide_eq_true (show n < (s+((j+1:Nat):Int))*(s+((j+1:Nat):Int)) by omega),pq (x:=s+((j+1:Nat):Int) - 1) (by omega) (by omega)];rw [show s+((j+1:Nat):Int) - 1=s+(j:Int) by omega];exact ih m (by omega) (by omega)
theorem agW {k:Int->Bool->Option α}{r:Int}(hr0:0<=r)(hr:r<=s)(m:Nat):fp α n k (m+1) r=k r false:=by
 have e:s*s<=2147483647*2147483647:=Int.mul_le_mul (by omega) (by omega) hs0 (by omega);have e1:r*r<=s*s:=Int.mul_le_mul hr hr hr0 hs0;have e0:0<=r*r:=Int.mul_nonneg hr0 hr0;simp only [fp,mr];rw [pq (x:=r*r) (by omega) (by omega),decide_eq_false (show ¬ n < r*r by omega)];rfl
theorem aj9 {k:Int->Bool->Option α}:∀ (j m:Nat),j < m->0<=s - (j:Int)->fP α n k m (s - (j:Int))=k s false:=by
 intro j
 induction j with
 | zero=>
  intro m hm hb;obtain⟨m,rfl⟩:∃ z,m=z+1:=⟨m - 1,by omega⟩
  have e:(s+1)*(s+1)<=2147483648*2147483648:=Int.mul_le_mul (by omega) (by omega) (by omega) (by omega);have e0:0<=(s+1)*(s+1):=Int.mul_nonneg (by omega) (by omega);rw [show s - ((0:Nat):Int)=s by omega];simp only [fP,pk];rw [pq (x:=s+1) (by omega) (by omega),pq (x:=(s+1)*(s+1)) (by omega) (by omega),decide_eq_false (show ¬ (s+1)*(s+1)<=n by omega)];rfl
 | succ j ih=>
  intro m hm hb;obtain⟨m,rfl⟩:∃ z,m=z+1:=⟨m - 1,by omega⟩
  have hx:s - ((j+1:Nat):Int)+1=s - (j:Int):=by omega
  have e:s*s<=2147483647*2147483647:=Int.mul_le_mul (by omega) (by omega) hs0 (by omega);have g1:(s - (j:Int))*(s - (j:Int))<=s*s:=Int.mul_le_mul (by omega) (by omega) (by omega) hs0;have g3:0<=(s - (j:Int))*(s - (j:Int)):=Int.mul_nonneg (by omega) (by omega);simp only [fP,pk,hx];rw [pq (x:=s - (j:Int)) (by omega) (by omega),pq (x:=(s - (j:Int))*(s - (j:Int))) (by omega) (by omega),decide_eq_true (show (s - (j:Int))*(s - (j:Int))<=n by omega)];exact ih m (by omega) (by omega)
theorem ads {k:Int->Option α}{r:Int}(hr0:0<=r)(hr:r < 2147483648):lY α n (fun x7 _=>lX α n (fun x13 _=>k x13) x7) r=k s:=by
 have hf:=bz;simp only [lY,af,GG,lX,af,Gw];by_cases h:r<=s
 ·obtain⟨m,hm⟩:∃ m,aE=m+1:=⟨aE - 1,by omega⟩
  rw [show fp α n (fun x7 _=>fP α n (fun x13 _=>k x13) aE x7) aE r=fp α n (fun x7 _=>fP α n (fun x13 _=>k x13) aE x7) (m+1) r from congrArg (fun z=>fp α n (fun x7 _=>fP α n (fun x13 _=>k x13) aE x7) z r) hm,agW hs0 hs h1 h2 hr0 h m];have:=aj9 hs0 hs h1 h2 (k:=fun x13 _=>k x13) (s - r).toNat aE (by omega) (by omega);rw [show s - ((s - r).toNat:Int)=r by omega] at this;exact this
 ·have:=ahB hs0 hs h1 h2 (k:=fun x7 _=>fP α n (fun x13 _=>k x13) aE x7) (r - s).toNat aE (by omega) (by omega)
  rw [show s+((r - s).toNat:Int)=r by omega] at this;rw [this];have:=aj9 hs0 hs h1 h2 (k:=fun x13 _=>k x13) 0 aE (by omega) (by omega);rw [show s - ((0:Nat):Int)=s by omega] at this;exact this
end
theorem wY {n:Nat}(h:n < 288230376151711744){k:Int->Option α}:eG α (n:Int) k=k (isq n:Int):=by
 obtain⟨y,r,h1,h2,h3,h4⟩:=Pv (n:=(n:Int)) (by omega) (by omega);simp only [eG,af,VP,Jf,af,UI];have h1':(FloatKind.format .f64).sqrt (FloatKind.nearest .f64 (n:Int))=some y:=h1;obtain⟨g1,g2⟩:=mD h;have g3:=aje h;rw [h1'];show ivK (f2i .f64 y .i64) _=_;rw [h2];show lY α (n:Int) (fun x7 _=>lX α (n:Int) (fun x13 _=>k x13) x7) r=_;exact ads (s:=(isq n:Int)) (by omega) (by omega) (by exact_mod_cast g1) (by exact_mod_cast g2) h3 h4
end Go.AM.K

namespace Go.AM.K.Mb
set_option linter.unusedVariables false
set_option linter.unusedSimpArgs false
variable {α:Type}
theorem f167_eq {n d:Int}(hd:0 < d)(hd2:d<=9223372036854775807)(hn:-9223372036854775807<=n)(hn2:n<=9223372036854775807){k:Int->Option α}:gT α n d k=k (n / d):=by
 have h0:(d != 0)=true:=by simp;omega
 simp only [gT,af,Im,bO h0,aK];have hm:=Int.emod_add_mul_ediv n d;have e1:=Int.emod_nonneg n (Int.ne_of_gt hd);have e2:=Int.emod_lt_of_pos n hd;have e3:=Int.tmod_add_mul_tdiv n d;by_cases hp:0<=n
 ·have q1:Int.tdiv n d=n / d:=Int.tdiv_eq_ediv_of_nonneg hp
  have q2:0<=n / d:=Int.ediv_nonneg hp (by omega);have q3:n / d<=n:=Int.ediv_le_self _ hp;rw [if_neg (by rw [Int.tmod_eq_emod_of_nonneg hp];omega),q1,aj (by omega) (by omega)]
 ·have t1:Int.tdiv n d=-((-n) / d):=by
   rw [show n=-(-n) by omega,Int.neg_tdiv,Int.tdiv_eq_ediv_of_nonneg (by omega),Int.neg_neg]
  have t2:Int.tmod n d=-((-n) % d):=by
   rw [show n=-(-n) by omega,Int.neg_tmod,Int.tmod_eq_emod_of_nonneg (by omega),Int.neg_neg]
  have q2:0<=(-n) / d:=Int.ediv_nonneg (by omega) (by omega);have q3:(-n) / d<=-n:=Int.ediv_le_self _ (by omega);have m1:=Int.emod_nonneg (-n) (Int.ne_of_gt hd);have m2:=Int.emod_lt_of_pos (-n) hd;have m3:=Int.emod_add_mul_ediv (-n) d;rw [t1,t2];generalize (-n) / d=q at *;generalize (-n) % d=r at *;rw [aj (n:=-q) (by omega) (by omega),aj (n:=-q - 1) (by omega) (by omega)];by_cases hr:r=0
  ·rw [if_neg (by omega)]
   congr 1;have:=(Int.ediv_emod_unique (a:=n) (q:=-q) (r:=0) hd).2 ⟨by rw [Int.mul_neg];omega,by omega,hd⟩;exact this.1.symm
  ·rw [if_pos (by omega)]
   congr 1;have:=(Int.ediv_emod_unique (a:=n) (q:=-q - 1) (r:=d - r) hd).2 ⟨by rw [Int.mul_sub,Int.mul_neg];omega,by omega,by omega⟩;exact this.1.symm
theorem f168_eq {n d:Int}(hd:0 < d)(hd2:d<=9223372036854775807)(hn:-9223372036854775807<=n)(hn2:n<=9223372036854775807){k:Int->Option α}:cG α n d k=k (cdv n d):=by
 simp only [cG,af,Jp];rw [aj (by omega) (by omega),f167_eq hd hd2 (by omega) (by omega)];have hb:-9223372036854775807<=(0 - n) / d/\(0 - n) / d<=9223372036854775807:=by
  constructor
  ·rw [Int.le_ediv_iff_mul_le hd]
   have:-9223372036854775807*d<=-9223372036854775807*1:=Int.mul_le_mul_of_nonpos_left (by omega) (by omega);omega
  ·have:(0 - n) / d < 9223372036854775808:=by
    rw [Int.ediv_lt_iff_lt_mul hd];have:9223372036854775808*1<=9223372036854775808*d:=Int.mul_le_mul_of_nonneg_left (by omega) (by omega);omega
   omega
 rw [aj (by omega) (by omega)];unfold cdv;rw [show 0 - n=-n by omega] at *;congr 1;omega
theorem f221_eq {n d:Int}(hd:0 < d)(hd2:d<=1152921504606846976)(hn:-1152921504606846976<=n)(hn2:n<=1152921504606846976){k:Int->Bool->Option α}:nh α n d k=k (rdv n d) (n.tmod d != 0):=by
 have h0:(d != 0)=true:=by simp;omega
 simp only [nh,af,YD,bO h0];rw [aj (n:=2*n) (by omega) (by omega),aj (n:=2*n+d) (by omega) (by omega),aj (n:=2*d) (by omega) (by omega),f167_eq (by omega) (by omega) (by omega) (by omega)];rfl
theorem oD (a b:Nat):Int.tdiv (a:Int) (b:Int)=((a / b:Nat):Int):=rfl
theorem ar7 {a b:Nat × Nat}(ha:iz a)(hb:iz b){k:Int->Int->Option α}:Ds α (a.1:Int) (a.2:Int) (b.1:Int) (b.2:Int) k=k ((btw a b).1:Int) ((btw a b).2:Int):=by
 obtain⟨h1,h2⟩:=ajW ha hb;have h3:=ha.lo;have h4:=hb.lo;have h5:=ha.le;have h6:=hb.le;have h7:=ha.hi;have h8:=hb.hi;have hs:=sq_bd (x:=a.1+b.1) (y:=a.2+b.2) (by omega) (by omega);simp only [Ds,af,Sf,yc,af,IX,jT,af,sQ];rw [aj (n:=(a.1:Int)+b.1) (by omega) (by omega),aj (n:=(a.2:Int)+b.2) (by omega) (by omega)];have e1:((a.1:Int)+b.1)*((a.1:Int)+b.1)=(((a.1+b.1)*(a.1+b.1):Nat):Int):=by push_cast;rfl
 have e2:((a.2:Int)+b.2)*((a.2:Int)+b.2)=(((a.2+b.2)*(a.2+b.2):Nat):Int):=by push_cast;rfl
 rw [e1,e2,aj (n:=(((a.1+b.1)*(a.1+b.1):Nat):Int)) (by omega) (by omega),aj (n:=(((a.2+b.2)*(a.2+b.2):Nat):Int)) (by omega) (by omega),aj (by omega) (by omega),<- Int.natCast_add,wY (by omega)];have hr:((isq ((a.1+b.1)*(a.1+b.1)+(a.2+b.2)*(a.2+b.2)):Int) != 0)=true:=by simp;omega
 have e:btw a b=((a.1+b.1)*67108864 / isq ((a.1+b.1)*(a.1+b.1)+(a.2+b.2)*(a.2+b.2)),(a.2+b.2)*67108864 / isq ((a.1+b.1)*(a.1+b.1)+(a.2+b.2)*(a.2+b.2))):=rfl;have hk:=ph ha hb;have k1:=hk.hi;have k2:=hk.le;rw [e] at k1 k2;simp only [bO hr,e];generalize isq ((a.1+b.1)*(a.1+b.1)+(a.2+b.2)*(a.2+b.2))=r at *;rw [aj (n:=((a.1:Int)+b.1)*67108864) (by omega) (by omega),aj (n:=((a.2:Int)+b.2)*67108864) (by omega) (by omega)];rw [show ((a.1:Int)+b.1)*67108864=(((a.1+b.1)*67108864:Nat):Int) by omega,show ((a.2:Int)+b.2)*67108864=(((a.2+b.2)*67108864:Nat):Int) by omega,oD,oD];have key:∀ x y:Nat,x<=67108864->y<=x->k (w64 (x:Int)) (w64 (y:Int))=k (x:Int) (y:Int):=fun x y h1 h2=>by
  rw [aj (n:=(x:Int)) (by omega) (by omega),aj (n:=(y:Int)) (by omega) (by omega)]
 exact key _ _ k1 k2
theorem atl {m:Nat}{k:Int->Int->Option α}:∀ (j f lo hi n:Nat) (a b:Nat × Nat),iz a->iz b->lo<=m->m<=hi->hi<=524288->hi - lo<=2 ^ j->j < f->j < n ->
  lZ α (m:Int) (fun x15 _ _ x18 x19 x20 x21=>cK ((m:Int) == x15) (k x18 x19) (k x20 x21)) n (lo:Int) (hi:Int) (a.1:Int) (a.2:Int) (b.1:Int) (b.2:Int)=k ((gO m f lo hi a b).1:Int) ((gO m f lo hi a b).2:Int):=by
 intro j
 induction j with
 | zero=>
  intro f lo hi n a b ha hb h1 h2 h3 h4 hf hn;obtain⟨f,rfl⟩:∃ z,f=z+1:=⟨f - 1,by omega⟩
  obtain⟨n,rfl⟩:∃ z,n=z+1:=⟨n - 1,by omega⟩
  simp only [lZ,pJ,gO];by_cases e1:m=lo
  ·have g1:((m:Int) == (lo:Int))=true:=by rw [e1];exact beq_self_eq_true _
   have g2:((m:Int) != (lo:Int))=false:=by rw [e1];exact bne_self_eq_false _
   rw [g2,al,g1,ap,if_pos e1]
  ·have e2:m=hi:=by omega
   have g1:((m:Int) == (lo:Int))=false:=beq_eq_false_iff_ne.2 (by omega);have g2:((m:Int) != (lo:Int))=true:=by rw [bne,g1];rfl
   have g3:((m:Int) != (hi:Int))=false:=by rw [e2];exact bne_self_eq_false _
   rw [g2,g3,if_neg e1,if_pos e2,ap,al,g1,al]
 | succ j ih=>
  intro f lo hi n a b ha hb h1 h2 h3 h4 hf hn;obtain⟨f,rfl⟩:∃ z,f=z+1:=⟨f - 1,by omega⟩
  obtain⟨n,rfl⟩:∃ z,n=z+1:=⟨n - 1,by omega⟩
  simp only [lZ,pJ,gO];by_cases e1:m=lo
  ·have g1:((m:Int) == (lo:Int))=true:=by rw [e1];exact beq_self_eq_true _
   have g2:((m:Int) != (lo:Int))=false:=by rw [e1];exact bne_self_eq_false _
   rw [g2,al,g1,ap,if_pos e1]
  ·have g1:((m:Int) == (lo:Int))=false:=beq_eq_false_iff_ne.2 (by omega)
   have g2:((m:Int) != (lo:Int))=true:=by rw [bne,g1];rfl
   rw [g2,if_neg e1,ap];by_cases e2:m=hi
   ·have g3:((m:Int) != (hi:Int))=false:=by rw [e2];exact bne_self_eq_false _
    rw [g3,if_pos e2,al,g1,al]
   ·have g3:((m:Int) != (hi:Int))=true:=bne_iff_ne.2 (by omega)
    rw [g3,if_neg e2,ap,ar7 ha hb];have hm:w64 (Int.tdiv (w64 ((lo:Int)+(hi:Int))) 2)=(((lo+hi) / 2:Nat):Int):=by
     rw [aj (n:=(lo:Int)+hi) (by omega) (by omega),Int.tdiv_eq_ediv_of_nonneg (by omega),aj (by omega) (by omega)];push_cast;rfl
    rw [hm];have hp:2 ^ (j+1)=2*2 ^ j:=Nat.pow_succ';by_cases h:(lo+hi) / 2<=m
    ·rw [decide_eq_true (by exact_mod_cast h),ap,if_pos h]
     exact ih f _ _ n _ _ (ph ha hb) hb h h2 h3 (by omega) (by omega) (by omega)
    ·rw [decide_eq_false (by intro h';exact h (by exact_mod_cast h')),al,if_neg h]
     exact ih f _ _ n _ _ ha (ph ha hb) h1 (by omega) (by omega) (by omega) (by omega) (by omega)
theorem Xy {m:Nat}(hm:m<=524288){k:Int->Int->Option α}:kT α (m:Int) k=k ((fir m).1:Int) ((fir m).2:Int):=by
 simp only [kT,af,Y3,vt,af,HC];rw [show (2251799813685248:Int)=((2251799813685248:Nat):Int) from rfl,wY (by decide),vq (a:=47453132) (by decide) (by decide) (by decide)];have:=atl (α:=α) (m:=m) (k:=k) 19 20 0 524288 aE (67108864,0) (47453132,47453132) ⟨by simp,by simp,by simp⟩ ⟨by simp,by simp,by simp⟩ (by omega) hm (by omega) (by decide) (by omega) (by have:=bz;omega);exact this
open Ieee
theorem f231_1 {x y:Int}(hx:-67108864<=x/\x<=67108864)(hy:-67108864<=y/\y<=67108864){k:Int->Int->Option α}:ni α x y 1 k=k (-y) x:=by
 obtain⟨z,hz⟩:∃ z,aE=z+2:=⟨aE - 2,by have:=bz;omega⟩
 simp only [ni,af,IE,n6,af,yM,hz,pv,nW];rw [show decide ((0:Int) < 1)=true by decide,ap,show w64 (0+1)=1 by decide,show decide ((1:Int) < 1)=false by decide,al,aj (n:=0 - y) (by omega) (by omega),show 0 - y=-y by omega]
theorem azn {x y:Int}(hx:-67108864<=x/\x<=67108864)(hy:-67108864<=y/\y<=67108864){k:Int->Int->Option α}:ni α x y 2 k=k (-x) (-y):=by
 obtain⟨z,hz⟩:∃ z,aE=z+3:=⟨aE - 3,by have:=bz;omega⟩
 simp only [ni,af,IE,n6,af,yM,hz,pv,nW];rw [show decide ((0:Int) < 2)=true by decide,ap,show w64 (0+1)=1 by decide,show decide ((1:Int) < 2)=true by decide,ap,show w64 (1+1)=2 by decide,show decide ((2:Int) < 2)=false by decide,al,aj (n:=0 - y) (by omega) (by omega),aj (n:=0 - x) (by omega) (by omega),show 0 - x=-x by omega,show 0 - y=-y by omega]
theorem wj {m:Int}(h1:-4503599627370496<=m)(h2:m<=4503599627370496):w64 (m - w64 (4194304*(m / 4194304)))=((m % 4194304).toNat:Int):=by
 have e:=Int.emod_add_mul_ediv m 4194304;have e1:=Int.emod_nonneg m (show (4194304:Int) ≠ 0 by decide);have e2:=Int.emod_lt_of_pos m (show (0:Int) < 4194304 by decide);generalize m / 4194304=q at *;generalize m % 4194304=r at *;rw [aj (n:=4194304*q) (by omega) (by omega),aj (by omega) (by omega)];omega
theorem av1 {r:Nat}(hr:r < 1048576){k:Int->Int->Option α} :
  cK (decide (524288 < (r:Int))) (kT α (w64 (1048576 - (r:Int))) fun x3 x4=>k x4 x3) (kT α (r:Int) fun x5 x6=>k x5 x6)=k (iD r).1 (iD r).2:=by
 unfold iD;by_cases h:524288 < r
 ·rw [decide_eq_true (by omega),ap,aj (by omega) (by omega),show (1048576:Int) - (r:Int)=((1048576 - r:Nat):Int) by omega,Xy (by omega),if_pos h]
 ·rw [decide_eq_false (by omega),al,Xy (by omega),if_neg h]
theorem GO {r:Nat}(hr:r < 1048576){k:Int->Int->Option α}:Bc α (r:Int) k=k (iD r).1 (iD r).2:=by
 simp only [Bc,af,VM];rw [f167_eq (by decide) (by decide) (by omega) (by omega)];have e:w64 ((r:Int) - w64 (4194304*((r:Int) / 4194304)))=(r:Int):=by rw [wj (by omega) (by omega)];omega
 simp only [e];rw [decide_eq_false (by omega),al,decide_eq_false (by omega),al];exact av1 hr
theorem pt {r:Nat}(hr:r < 2097152):dir (r:Int)=if 1048576<=r then CE (iD (r - 1048576)) else iD r:=by
 have hd:(((r:Int) % 4194304).toNat)=r:=by omega
 unfold dir;simp only [hd];rw [if_neg (by omega)]
theorem yx {r:Nat}(hr:r < 2097152){k:Int->Int->Option α}:yB α (r:Int) k=k (dir (r:Int)).1 (dir (r:Int)).2:=by
 have e:w64 ((r:Int) - w64 (4194304*((r:Int) / 4194304)))=(r:Int):=by rw [wj (by omega) (by omega)];omega
 simp only [yB,af,KC,Lr];rw [f167_eq (by decide) (by decide) (by omega) (by omega),pt hr];simp only [e];rw [decide_eq_false (by omega),al];by_cases h:1048576<=r
 ·obtain⟨q,hq⟩:∃ q,q=r - 1048576:=⟨_,rfl⟩
  have hb:=j4 q;rw [decide_eq_true (by omega),ap,if_pos h,aj (by omega) (by omega),show (r:Int) - 1048576=(q:Int) by omega,GO (by omega),f231_1 ⟨hb.h1,hb.h2⟩ ⟨hb.h3,hb.h4⟩,<- hq];simp only [CE]
 ·rw [decide_eq_false (by omega),al,if_neg h]
  exact av1 (by omega)
theorem aoi {m:Int}(h1:-4503599627370496<=m)(h2:m<=4503599627370496){k:Int->Int->Option α}:C0 α m k=k (dir m).1 (dir m).2:=by
 have hm:=wj h1 h2;have hlt:(m % 4194304).toNat < 4194304:=by omega
 simp only [C0,af,UY,Lr];rw [f167_eq (by decide) (by decide) (by omega) (by omega)];simp only [hm];have hdir:dir m=(let r:=(m % 4194304).toNat;if 2097152<=r then Fb (dir ((r - 2097152:Nat):Int)) else dir (r:Int)):=by
  unfold dir;generalize (m % 4194304).toNat=r at *;simp only;by_cases h:2097152<=r
  ·have e1:((((r - 2097152:Nat):Int)) % 4194304).toNat=r - 2097152:=by omega
   rw [if_pos h,if_pos h,e1,if_neg (show ¬ 2097152<=r - 2097152 by omega)];split <;> rfl
  ·have e1:(((r:Int)) % 4194304).toNat=r:=by omega
   rw [if_neg h,if_neg h,e1,if_neg h]
 rw [hdir];generalize (m % 4194304).toNat=r at *;simp only;by_cases h:2097152<=r
 ·have hb:=IU ((r - 2097152:Nat):Int)
  rw [decide_eq_true (by omega),ap,if_pos h,aj (by omega) (by omega),show (r:Int) - 2097152=((r - 2097152:Nat):Int) by omega,yx (by omega),azn ⟨hb.h1,hb.h2⟩ ⟨hb.h3,hb.h4⟩];rfl
 ·have e:=yx (α:=α) (r:=r) (by omega) (k:=k)
  have e':w64 ((r:Int) - w64 (4194304*((r:Int) / 4194304)))=(r:Int):=by rw [wj (by omega) (by omega)];omega
  simp only [yB,af,KC,Lr] at e;rw [f167_eq (by decide) (by decide) (by omega) (by omega)] at e;simp only [e'] at e;rw [decide_eq_false (by omega),al] at e;rw [decide_eq_false (by omega),al,if_neg h,<- e];by_cases h3:1048576<=r
  ·have hb:=j4 (r - 1048576)
   rw [decide_eq_true (by omega),ap,ap,aj (by omega) (by omega),show (r:Int) - 1048576=((r - 1048576:Nat):Int) by omega,yx (by omega),GO (by omega)];have e1:((((r - 1048576:Nat):Int)) % 4194304).toNat=r - 1048576:=by omega
   have:dir ((r - 1048576:Nat):Int)=iD (r - 1048576):=by
    unfold dir;simp only [e1];rw [if_neg (by omega),if_neg (by omega)]
   rw [this]
  ·rw [decide_eq_false (by omega),al,al]
theorem f203_eq {n lo hi:Int}{k:Bool->Option α}:kU α n lo hi k=k (decide (lo<=n/\n<=hi)):=by
 simp only [kU,af,IQ];by_cases h:lo<=n <;> simp [h]
theorem f197_eq {n most:Int}(h1:-1000000000000<=most)(h2:most<=1000000000000){k:Bool->Option α}:jy α n most k=k (decide (-most<=n/\n<=most)):=by
 simp only [jy,af,Yt,f203_eq];rw [aj (by omega) (by omega),show 0 - most=-most by omega]
def okB (x y r:Int):Bool:=decide ((-67108864<=x/\x<=67108864)/\(-67108864<=y/\y<=67108864)/\0<=r/\r<=67108864)
theorem f232_eq {x y r:Int}{k:Nat->Nat->Int->Int->Option α}:gn α x y r k=if okB x y r=true then k (FloatKind.nearest .f64 x) (FloatKind.nearest .f64 y) r 0 else k 0 0 0 8:=by
 simp only [gn,af,Tt,tU,af,HT];rw [f197_eq (by decide) (by decide)];unfold okB;by_cases h1:-67108864<=x/\x<=67108864
 ·rw [decide_eq_true h1,Bool.not_true,al,f197_eq (by decide) (by decide)]
  by_cases h2:-67108864<=y/\y<=67108864
  ·rw [decide_eq_true h2,Bool.not_true,al,f203_eq]
   by_cases h3:0<=r/\r<=67108864
   ·rw [decide_eq_true h3,Bool.not_true,al,if_pos (decide_eq_true ⟨h1,h2,h3⟩)];simp only [K6,af,X1]
   ·rw [decide_eq_false h3,Bool.not_false,ap,if_neg (by rw [decide_eq_false (fun h=>h3 h.2.2)];decide)]
  ·rw [decide_eq_false h2,Bool.not_false,ap,ap,if_neg (by rw [decide_eq_false (fun h=>h2 h.2.1)];decide)]
 ·rw [decide_eq_false h1,Bool.not_false,ap,ap,if_neg (by rw [decide_eq_false (fun h=>h1 h.1)];decide)]
def arcX (lo hi:Int):Int:=rdv (dir ((lo+hi) / 2)).1 64
def arcY (lo hi:Int):Int:=rdv (dir ((lo+hi) / 2)).2 64
def arcR (lo hi:Int):Int:=if lo=hi/\lo % 1048576=0 then 0 else 2+cdv (11*(hi - (lo+hi) / 2)) 7
theorem cdv_bd {n:Int}(h1:0<=n):0<=cdv n 7/\cdv n 7<=n:=by unfold cdv;omega
theorem tmod0 {a:Int}:(Int.tmod a 1048576 == 0)=decide (a % 1048576=0):=by
 rw [Int.tmod_eq_emod];by_cases h:a % 1048576=0
 ·rw [if_pos (.inr (Int.dvd_of_emod_eq_zero h))];simp [h]
 ·have hn:¬ (1048576:Int) ∣ a:=fun hd=>h (Int.emod_eq_zero_of_dvd hd)
  have e1:=Int.emod_nonneg a (show (1048576:Int) ≠ 0 by decide);have e2:=Int.emod_lt_of_pos a (show (0:Int) < 1048576 by decide);rw [decide_eq_false h];apply beq_eq_false_iff_ne.2;split <;> simp <;> omega
theorem f254_eq {lo hi:Int}(h1:-4503599627370496<=lo)(h2:hi<=4503599627370496)(h3:lo<=hi){k:Nat->Nat->Int->Int->Option α} :
  C1 α lo hi k=if okB (arcX lo hi) (arcY lo hi) (arcR lo hi)=true then k (FloatKind.nearest .f64 (arcX lo hi)) (FloatKind.nearest .f64 (arcY lo hi)) (arcR lo hi) 0 else k 0 0 0 8:=by
 simp only [C1,af,Zm];rw [aj (n:=lo+hi) (by omega) (by omega),f167_eq (by decide) (by decide) (by omega) (by omega),aoi (by omega) (by omega)];have hb:=IU ((lo+hi) / 2);have:=hb.h1;have:=hb.h2;have:=hb.h3;have:=hb.h4;rw [f221_eq (by decide) (by decide) (by omega) (by omega),f221_eq (by decide) (by decide) (by omega) (by omega)];rw [aj (n:=hi - (lo+hi) / 2) (by omega) (by omega),aj (n:=11*(hi - (lo+hi) / 2)) (by omega) (by omega),f168_eq (by decide) (by decide) (by omega) (by omega)];have hc:=cdv_bd (n:=11*(hi - (lo+hi) / 2)) (by omega);rw [aj (n:=2+cdv (11*(hi - (lo+hi) / 2)) 7) (by omega) (by omega)];simp only [uo,af,HP,tmod0,f232_eq];have hR:arcR lo hi=if lo=hi/\lo % 1048576=0 then 0 else 2+cdv (11*(hi - (lo+hi) / 2)) 7:=rfl;by_cases h4:lo=hi
 ·have g:(lo == hi)=true:=by rw [h4];exact beq_self_eq_true _
  rw [g,ap];by_cases h5:lo % 1048576=0
  ·rw [if_pos ⟨h4,h5⟩] at hR
   rw [decide_eq_true h5,ap,hR];rfl
  ·rw [if_neg (fun h=>h5 h.2)] at hR
   rw [decide_eq_false h5,al,hR];rfl
 ·have g:(lo == hi)=false:=beq_eq_false_iff_ne.2 h4
  rw [if_neg (fun h=>h4 h.1)] at hR;rw [g,al,hR];rfl
end Go.AM.K.Mb

namespace Go.AM.K
set_option linter.unusedVariables false
set_option linter.unusedSimpArgs false
variable {α:Type}
theorem aeB {n d:Int}(hd:0 < d)(hd2:d<=9223372036854775807)(hn:-9223372036854775807<=n)(hn2:n<=9223372036854775807){k:Int->Option α} :
  (gK (d != 0) (gK (d != 0) (cK (decide ((Int.tmod n d) < 0)) (k (w64 ((w64 (Int.tdiv n d)) - 1))) (k (w64 (Int.tdiv n d))))))=k (n / d):=by
 have h0:(d != 0)=true:=by simp;omega
 simp only [bO h0,aK];have hm:=Int.emod_add_mul_ediv n d;have e1:=Int.emod_nonneg n (Int.ne_of_gt hd);have e2:=Int.emod_lt_of_pos n hd;have e3:=Int.tmod_add_mul_tdiv n d;by_cases hp:0<=n
 ·have q1:Int.tdiv n d=n / d:=Int.tdiv_eq_ediv_of_nonneg hp
  have q2:0<=n / d:=Int.ediv_nonneg hp (by omega);have q9993:n / d<=n:=Int.ediv_le_self _ hp;rw [if_neg (by rw [Int.tmod_eq_emod_of_nonneg hp];omega),q1,aj (by omega) (by omega)]
 ·have t1:Int.tdiv n d=-((-n) / d):=by
   rw [show n=-(-n) by omega,Int.neg_tdiv,Int.tdiv_eq_ediv_of_nonneg (by omega),Int.neg_neg]
  have t2:Int.tmod n d=-((-n) % d):=by
   rw [show n=-(-n) by omega,Int.neg_tmod,Int.tmod_eq_emod_of_nonneg (by omega),Int.neg_neg]
  have q2:0<=(-n) / d:=Int.ediv_nonneg (by omega) (by omega);have q9993:(-n) / d<=-n:=Int.ediv_le_self _ (by omega);have m1:=Int.emod_nonneg (-n) (Int.ne_of_gt hd);have m2:=Int.emod_lt_of_pos (-n) hd;have m3:=Int.emod_add_mul_ediv (-n) d;rw [t1,t2];generalize (-n) / d=q at *;generalize (-n) % d=r at *;rw [aj (n:=-q) (by omega) (by omega),aj (n:=-q - 1) (by omega) (by omega)];by_cases hr:r=0
  ·rw [if_neg (by omega)]
   congr 1;have:=(Int.ediv_emod_unique (a:=n) (q:=-q) (r:=0) hd).2 ⟨by rw [Int.mul_neg];omega,by omega,hd⟩;exact this.1.symm
  ·rw [if_pos (by omega)]
   congr 1;have:=(Int.ediv_emod_unique (a:=n) (q:=-q - 1) (r:=d - r) hd).2 ⟨by rw [Int.mul_sub,Int.mul_neg];omega,by omega,by omega⟩;exact this.1.symm
def inB (n lo hi:Int):Bool:=decide (lo<=n) && decide (n<=hi)
theorem QB {n lo hi:Int}:inB n lo hi=true ↔ lo<=n/\n<=hi:=by simp [inB]
theorem ld {x y A B:Int}(h1:0<=x)(h2:x<=A)(h3:0<=y)(h4:y<=B):0<=x*y/\x*y<=A*B:=
 ⟨Int.mul_nonneg h1 h3,Int.mul_le_mul h2 h4 h3 (by omega)⟩
theorem UR {n:Int}:IntKind.wrap .u64 n=n % 18446744073709551616:=by
 simp [IntKind.wrap,IntKind.signed,IntKind.bits]
theorem eC {n:Int}(h1:0<=n)(h2:n < 18446744073709551616):IntKind.wrap .u64 n=n:=by
 rw [UR];exact Int.emod_eq_of_lt h1 h2
theorem L7 {n:Int}(h1:0<=n)(h2:n < 18446744073709551616):mT .u64 n 4294967295=n % 4294967296:=by
 obtain⟨m,rfl⟩:=Int.eq_ofNat_of_zero_le h1;have hm:m < 18446744073709551616:=by omega
 have e:((BitVec.ofInt 64 (m:Int)) &&& (BitVec.ofInt 64 4294967295)).toNat=m % 4294967296:=by
  rw [BitVec.toNat_and];have e1:(BitVec.ofInt 64 (m:Int)).toNat=m:=by
   rw [BitVec.ofInt_natCast,BitVec.toNat_ofNat];exact Nat.mod_eq_of_lt hm
  have e2:(BitVec.ofInt 64 4294967295).toNat=2 ^ 32 - 1:=by decide
  rw [e1,e2,Nat.and_two_pow_sub_one_eq_mod]
 unfold mT;show IntKind.wrap .u64 (((BitVec.ofInt 64 (m:Int)) &&& (BitVec.ofInt 64 4294967295)).toNat:Int)=_;rw [e,eC (by omega) (by omega)];omega
theorem ais {n:Int}:Int.fdiv n (2 ^ 32)=n / 4294967296:=by
 rw [Int.fdiv_eq_ediv_of_nonneg n (by decide)];rfl
theorem Wq {x y:Int}(hx:0<=x)(hx2:x < 18446744073709551616)(hy:0<=y)(hy2:y < 18446744073709551616){k:Int->Int->Option α} :
  xA α x y k=k (x*y / 18446744073709551616) (x*y % 18446744073709551616):=by
 simp only [xA,af,Ye,ais];have ex:=Int.emod_add_mul_ediv x 4294967296;have ey:=Int.emod_add_mul_ediv y 4294967296;have x0:=Int.emod_nonneg x (b:=4294967296) (by decide);have x1:=Int.emod_lt_of_pos x (b:=4294967296) (by decide);have y0:=Int.emod_nonneg y (b:=4294967296) (by decide);have y1:=Int.emod_lt_of_pos y (b:=4294967296) (by decide);rw [L7 hx hx2,L7 hy hy2];have hxh:0<=x / 4294967296/\x / 4294967296<=4294967295:=by omega
 have hyh:0<=y / 4294967296/\y / 4294967296<=4294967295:=by omega
 have hxy:x*y=(x % 4294967296)*(y % 4294967296)+4294967296*((x / 4294967296)*(y % 4294967296))+4294967296*((x % 4294967296)*(y / 4294967296))+18446744073709551616*((x / 4294967296)*(y / 4294967296)):=by
  conv=>lhs;rw [<- ex,<- ey]
  generalize x % 4294967296=a;generalize x / 4294967296=b;generalize y % 4294967296=c;generalize y / 4294967296=d;rw [Int.add_mul,Int.mul_add,Int.mul_add];have e1:a*(4294967296*d)=4294967296*(a*d):=by rw [Int.mul_left_comm]
  have e2:4294967296*b*c=4294967296*(b*c):=by rw [Int.mul_assoc]
  have e3:4294967296*b*(4294967296*d)=18446744073709551616*(b*d):=by
   rw [Int.mul_assoc,Int.mul_left_comm b,<- Int.mul_assoc];rfl
  rw [e1,e2,e3];omega
 have p00:=ld x0 (show x % 4294967296<=4294967295 by omega) y0 (show y % 4294967296<=4294967295 by omega);have p10:=ld hxh.1 hxh.2 y0 (show y % 4294967296<=4294967295 by omega);have p01:=ld x0 (show x % 4294967296<=4294967295 by omega) hyh.1 hyh.2;have p11:=ld hxh.1 hxh.2 hyh.1 hyh.2;generalize hA:(x % 4294967296)*(y % 4294967296)=A at *;generalize hB:(x / 4294967296)*(y % 4294967296)=B at *;generalize hC:(x % 4294967296)*(y / 4294967296)=C at *;generalize hD:(x / 4294967296)*(y / 4294967296)=D at *;rw [eC (n:=A) (by omega) (by omega),eC (n:=B) (by omega) (by omega),eC (n:=C) (by omega) (by omega),eC (n:=D) (by omega) (by omega)];rw [eC (n:=B+A / 4294967296) (by omega) (by omega)];rw [L7 (n:=B+A / 4294967296) (by omega) (by omega)];rw [eC (n:=(B+A / 4294967296) % 4294967296+C) (by omega) (by omega)];have e3:=Int.emod_add_mul_ediv (B+A / 4294967296) 4294967296;have e4:=Int.emod_add_mul_ediv ((B+A / 4294967296) % 4294967296+C) 4294967296;have e5:=Int.emod_add_mul_ediv A 4294967296;have m1:=Int.emod_nonneg A (b:=4294967296) (by decide);have m2:=Int.emod_lt_of_pos A (b:=4294967296) (by decide);have m3:=Int.emod_nonneg ((B+A / 4294967296) % 4294967296+C) (b:=4294967296) (by decide);have m4:=Int.emod_lt_of_pos ((B+A / 4294967296) % 4294967296+C) (b:=4294967296) (by decide);rw [eC (n:=D+(B+A / 4294967296) / 4294967296) (by omega) (by omega)];have hhi:x*y / 18446744073709551616=D+(B+A / 4294967296) / 4294967296+((B+A / 4294967296) % 4294967296+C) / 4294967296:=by
  rw [hxy];omega
 have hle:x*y<=18446744073709551615*18446744073709551615:=Int.mul_le_mul (by omega) (by omega) hy (by omega);rw [eC (n:=D+(B+A / 4294967296) / 4294967296+((B+A / 4294967296) % 4294967296+C) / 4294967296) (by omega) (by rw [<- hhi];omega),<- hhi,UR]
open Ieee
set_option linter.unusedSectionVars false
theorem PG {n d m:Int}(hd:0 < d):cdv n d<=m ↔ n<=m*d:=by
 unfold cdv;have:=Int.le_ediv_iff_mul_le (a:=-m) (b:=-n) hd;rw [Int.neg_mul] at this;constructor
 ·intro h;have:=this.1 (by omega);omega
 ·intro h;have:=this.2 (by omega);omega
theorem aeU {n m d:Int}(hd:0 < d)(h:n<=m):cdv n d<=cdv m d:=by
 unfold cdv;have:=Int.ediv_le_ediv hd (show -m<=-n by omega);omega
theorem y5 {n:Int}(h:n.natAbs < 9007199254740992){k:Bool->Option α}:Ba α (FloatKind.nearest .f64 n) k=k true:=by
 obtain⟨s,m,i,h1,h2,h3,h4,h5⟩:=kf h;obtain⟨mM,iM,e4,e5,e6⟩:=aIT;obtain⟨t,m',i',g1,g2,g3⟩:=OP h1 h2 h3 h4;simp only [Ba,af,YB,Wt,af,ai8,aye (.inl ⟨s,m,i,h1⟩),al];rw [azF g1 h1 g2 h2,g3,MV h2 h5,h5,decide_eq_true rfl,ap];simp only [WZ,af,adt,yF,af,J5,beq_self_eq_true,ap];have ha:FloatKind.f64.decode (Nn (FloatKind.nearest .f64 n))=.number false m i:=by rw [MY,h1]
 have:((FloatKind.format .f64).order (Nn (FloatKind.nearest .f64 n)) 9218868437227405311 == some Ordering.gt)=false:=by
  rw [aim ha e4 h2 e5,e6];have:=axI h3 h4;exact decide_eq_false (by omega)
 show k (!((FloatKind.format .f64).order (Nn (FloatKind.nearest .f64 n)) 9218868437227405311 == some Ordering.gt))=_;rw [this];rfl
theorem amC {n:Int}(h:n.natAbs < 9007199254740992):∃ m i,FloatKind.f64.decode (Nn (FloatKind.nearest .f64 n))=.number false m i/\-1074<=i/\vl (.number false m i)=(n.natAbs:Int)*(UU:Int):=by
 obtain⟨s,m,i,h1,h2,h3,h4,h5⟩:=kf h;refine⟨m,i,by rw [MY,h1],h2,?_⟩;rw [Pl] at h5 ⊢;have:=congrArg Int.natAbs h5;rw [Vp,Int.natAbs_mul,Int.natAbs_natCast] at this;simp only [sgn,Bool.false_eq_true,if_false];rw [this];push_cast;rfl
theorem k26:∃ m i,FloatKind.f64.decode 4724276009111650304=.number false m i/\-1074<=i/\vl (.number false m i)=67108864*(UU:Int):=by
 obtain⟨s,m,i,h1,h2,h3,h4,h5⟩:=kf (n:=67108864) (by decide);have e:FloatKind.nearest .f64 67108864=4724276009111650304:=by decide +kernel
 rw [e] at h1;have h1':FloatKind.f64.decode 4724276009111650304=.number false 4503599627370496 (-26):=by decide +kernel
 rw [h1'] at h1;injection h1 with a1 a2 a3;subst a1;subst a2;subst a3;exact⟨_,_,h1',h2,h5⟩
def ptB (x:Int):Bool:=inB x (-67108864) 67108864
theorem ij {x:Int}:ptB x=true ↔ -67108864<=x/\x<=67108864:=QB
theorem alD {n:Int}(h:n.natAbs < 9007199254740992):((FloatKind.format .f64).order (Int.toNat (AU .u64 ((FloatKind.nearest .f64 n:Nat):Int) 9223372036854775808)) 4724276009111650304 == some Ordering.gt)=!ptB n:=by
 obtain⟨m0,i0,p1,p2,p3⟩:=k26;obtain⟨m,i,q1,q2,q3⟩:=amC h;show ((FloatKind.format .f64).order (Nn (FloatKind.nearest .f64 n)) 4724276009111650304 == some Ordering.gt)=_;rw [aim q1 p1 q2 p2,q3,p3];cases hh:ptB n with
 | true=>
  have:=ij.1 hh;apply decide_eq_false;rw [VD];omega
 | false=>
  have:¬ (-67108864<=n/\n<=67108864):=fun q=>by rw [ij.2 q] at hh;cases hh
  apply decide_eq_true;rw [VD];omega
theorem ai7 {x y:Int}(hx:x.natAbs < 9007199254740992)(hy:y.natAbs < 9007199254740992){k:Int->Int->Int->Option α} :
  BT α (FloatKind.nearest .f64 x) (FloatKind.nearest .f64 y) 4724276009111650304 k=if ptB x=true/\ptB y=true then k x y 0 else k 0 0 2:=by
 obtain⟨z,hz⟩:∃ z,aE=z+3:=⟨aE - 3,by have:=bz;omega⟩
 have w1:w64 (0+1)=1:=by decide
 have w2:w64 (1+1)=2:=by decide
 have b1:((0:Int) == 1)=false:=by decide
 have b2:((0:Int) == 0)=true:=by decide
 have b3:((1:Int) == 1)=true:=by decide
 have c0:decide ((0:Int) < 2)=true:=by decide
 have c1:decide ((1:Int) < 2)=true:=by decide
 have c2:decide ((2:Int) < 2)=false:=by decide
 simp only [BT,af,WL,tH,af,Ho,s8,af,Gg,hz,vu,tL,wM,wv,fE,af,yG,fE,af,yG,c0,c1,c2,w1,w2,b1,b2,b3,ap,al,y5 hx,y5 hy,Bool.not_true,yF,af,J5,alD hx,alD hy,Ku,af,QG,Gj hx,Gj hy];cases ptB x with
 | false=>rfl
 | true=>cases ptB y <;> rfl
theorem EN {x y r:Int}(hx:x.natAbs < 9007199254740992)(hy:y.natAbs < 9007199254740992)(hr:0<=r/\r<=67108864){k:Int->Int->Int->Option α} :
  fe α (FloatKind.nearest .f64 x) (FloatKind.nearest .f64 y) r k=if ptB x=true/\ptB y=true then k x y 0 else k 0 0 2:=by
 simp only [fe,af,SZ,ai7 hx hy,wJ,af,FE];split
 ·simp only [beq_self_eq_true,ap,kU,af,IQ]
  rw [decide_eq_true hr.1,decide_eq_true hr.2];rfl
 ·rfl
abbrev B3:=Int × Int × Int
def nB (b:B3):Nat × Nat × Int:=(FloatKind.nearest .f64 b.1,FloatKind.nearest .f64 b.2.1,b.2.2)
def okS (s:B3):Bool:=ptB s.1 && ptB s.2.1 && inB s.2.2 0 67108864
theorem dM {s:B3}:okS s=true ↔ (-67108864<=s.1/\s.1<=67108864)/\(-67108864<=s.2.1/\s.2.1<=67108864)/\0<=s.2.2/\s.2.2<=67108864:=by
 unfold okS;rw [Bool.and_eq_true,Bool.and_eq_true,ij,ij,QB,and_assoc]
theorem aix {x y r:Int}:Mb.okB x y r=okS (x,y,r):=by
 apply Bool.eq_iff_iff.2;rw [dM];unfold Mb.okB;rw [decide_eq_true_iff]
def pls (s t:B3):B3:=(s.1+t.1,s.2.1+t.2.1,s.2.2+t.2.2)
theorem ifm {β:Type}{c:Prop}[Decidable c]{u:B3}{x:B3->β}{y:β}:(if c then x u else y)=match (if c then some u else none) with
  | some v=>x v
  | none=>y:=by by_cases h:c <;> simp [h]
theorem nJ {a b A B:Int}(h1:-A<=a)(h2:a<=A)(h3:-B<=b)(h4:b<=B):-(A*B)<=a*b/\a*b<=A*B:=by
 have hA:0<=A:=by omega
 have hB:0<=B:=by omega
 have e1:=Int.mul_nonneg (show 0<=A - a by omega) (show 0<=B+b by omega);have e2:=Int.mul_nonneg (show 0<=A+a by omega) (show 0<=B - b by omega);have e3:=Int.mul_nonneg (show 0<=A - a by omega) (show 0<=B - b by omega);have e4:=Int.mul_nonneg (show 0<=A+a by omega) (show 0<=B+b by omega);rw [Int.sub_mul,Int.mul_add,Int.mul_add] at e1;rw [Int.add_mul,Int.mul_sub,Int.mul_sub] at e2;rw [Int.sub_mul,Int.mul_sub,Int.mul_sub] at e3;rw [Int.add_mul,Int.mul_add,Int.mul_add] at e4;omega
def upq (n:Nat):Int:=if isq n*isq n < n then (isq n:Int)+1 else (isq n:Int)
def sqn (a:B3):Nat:=(a.1*a.1+a.2.1*a.2.1).toNat
def upc (a:B3):Int:=upq (sqn a)
def tmP (a b:B3):Int:=a.1*b.1 - a.2.1*b.2.1
def tmQ (a b:B3):Int:=a.1*b.2.1+a.2.1*b.1
def tmB (a b:B3):B3:=(rdv (tmP a b) 1048576,rdv (tmQ a b) 1048576,cdv (upc a*b.2.2+upc b*a.2.2+a.2.2*b.2.2) 1048576+(if tmP a b % 1048576=0/\tmQ a b % 1048576=0 then 0 else 1))
def tms (a b:B3):Option B3:=if okS (tmB a b)=true then some (tmB a b) else none
theorem JR {β:Type}{U a b:B3}{x:B3->β}{y:β}(h:tmB a b=U):(if okS U=true then x U else y)=match tms a b with
  | some v=>x v
  | none=>y:=by subst h;exact ifm
theorem sq_bd {x:Int}(h1:-67108864<=x)(h2:x<=67108864):0<=x*x/\x*x<=4503599627370496:=by
 have:=nJ (A:=67108864) (B:=67108864) h1 h2 h1 h2;refine⟨?_,by omega⟩;rcases Int.le_total 0 x with h | h
 ·exact Int.mul_nonneg h h
 ·exact Int.mul_nonneg_of_nonpos_of_nonpos h h
theorem Rb {n:Nat}(h:n<=9007199254740992):(isq n:Int)<=94906265:=by
 have:=(mD (n:=n) (by omega)).1;by_cases hh:isq n<=94906265
 ·omega
 ·have:=Nat.mul_le_mul (show 94906266<=isq n by omega) (show 94906266<=isq n by omega)
  omega
theorem ayd {n:Nat}(h:n<=9007199254740992):0<=upq n/\upq n<=94906266:=by
 have:=Rb h;unfold upq;split <;> omega
section
variable {a:B3}(ha:okS a=true)
include ha
theorem nM:(sqn a:Int)=a.1*a.1+a.2.1*a.2.1/\sqn a<=9007199254740992:=by
 have g:=dM.1 ha;have e1:=sq_bd g.1.1 g.1.2;have e2:=sq_bd g.2.1.1 g.2.1.2;unfold sqn;omega
theorem PI:0<=upc a/\upc a<=94906266:=ayd (nM ha).2
theorem wC {k:Int->Option α}:nb α a.1 a.2.1 k=k (upc a):=by
 have g:=dM.1 ha;have e1:=sq_bd g.1.1 g.1.2;have e2:=sq_bd g.2.1.1 g.2.1.2;obtain⟨e3,e4⟩:=nM ha;have e5:=Rb e4;simp only [nb,af,YY,jT,af,sQ,p7,af,Iw];rw [aj (n:=a.1*a.1) (by omega) (by omega),aj (n:=a.2.1*a.2.1) (by omega) (by omega),aj (n:=a.1*a.1+a.2.1*a.2.1) (by omega) (by omega),<- e3,wY (by omega)];have e6:=sq_bd (x:=(isq (sqn a):Int));have e7:w64 ((isq (sqn a):Int)*(isq (sqn a):Int))=((isq (sqn a)*isq (sqn a):Nat):Int):=by
  rw [<- Int.natCast_mul];have:=(mD (n:=sqn a) (by omega)).1;exact aj (by omega) (by omega)
 rw [e7,aj (n:=(isq (sqn a):Int)+1) (by omega) (by omega),aK];unfold upc upq;by_cases h:isq (sqn a)*isq (sqn a) < sqn a
 ·rw [if_pos (by omega),if_pos h]
 ·rw [if_neg (by omega),if_neg h]
end
section
variable {a b:B3}(ha:okS a=true)(hb:okS b=true)
include ha hb
theorem Yx:(-4503599627370496<=a.1*b.1/\a.1*b.1<=4503599627370496)/\(-4503599627370496<=a.2.1*b.2.1/\a.2.1*b.2.1<=4503599627370496)/\(-4503599627370496<=a.1*b.2.1/\a.1*b.2.1<=4503599627370496)/\(-4503599627370496<=a.2.1*b.1/\a.2.1*b.1<=4503599627370496) /\
  (0<=upc a*b.2.2/\upc a*b.2.2<=6369051697741824)/\(0<=upc b*a.2.2/\upc b*a.2.2<=6369051697741824)/\0<=a.2.2*b.2.2/\a.2.2*b.2.2<=4503599627370496:=by
 have g:=dM.1 ha;have h:=dM.1 hb;have u:=PI ha;have v:=PI hb;have e1:=nJ (A:=67108864) (B:=67108864) g.1.1 g.1.2 h.1.1 h.1.2;have e2:=nJ (A:=67108864) (B:=67108864) g.2.1.1 g.2.1.2 h.2.1.1 h.2.1.2;have e3:=nJ (A:=67108864) (B:=67108864) g.1.1 g.1.2 h.2.1.1 h.2.1.2;have e4:=nJ (A:=67108864) (B:=67108864) g.2.1.1 g.2.1.2 h.1.1 h.1.2;have e5:=nJ (a:=upc a) (b:=b.2.2) (A:=94906266) (B:=67108864) (by omega) (by omega) (by omega) (by omega);have e6:=nJ (a:=upc b) (b:=a.2.2) (A:=94906266) (B:=67108864) (by omega) (by omega) (by omega) (by omega);have e7:=nJ (a:=a.2.2) (b:=b.2.2) (A:=67108864) (B:=67108864) (by omega) (by omega) (by omega) (by omega);have f5:=Int.mul_nonneg u.1 h.2.2.1;have f6:=Int.mul_nonneg v.1 g.2.2.1;have f7:=Int.mul_nonneg g.2.2.1 h.2.2.1;refine⟨by omega,by omega,by omega,by omega,by omega,by omega,by omega⟩
theorem aut {k:Nat->Nat->Int->Int->Option α}:xh α (nB a).1 (nB a).2.1 (nB a).2.2 (nB b).1 (nB b).2.1 (nB b).2.2 k=match tms a b with
  | some u=>k (nB u).1 (nB u).2.1 (nB u).2.2 0
  | none=>k 0 0 0 8:=by
 have g:=dM.1 ha;have h:=dM.1 hb;obtain⟨e1,e2,e3,e4,e5,e6,e7⟩:=Yx ha hb;have eP:w64 (w64 (a.1*b.1) - w64 (a.2.1*b.2.1))=tmP a b:=by
  rw [aj (n:=a.1*b.1) (by omega) (by omega),aj (n:=a.2.1*b.2.1) (by omega) (by omega)];exact aj (by omega) (by omega)
 have eQ:w64 (w64 (a.1*b.2.1)+w64 (a.2.1*b.1))=tmQ a b:=by
  rw [aj (n:=a.1*b.2.1) (by omega) (by omega),aj (n:=a.2.1*b.1) (by omega) (by omega)];exact aj (by omega) (by omega)
 have eR:w64 (w64 (w64 (upc a*b.2.2)+w64 (upc b*a.2.2))+w64 (a.2.2*b.2.2))=upc a*b.2.2+upc b*a.2.2+a.2.2*b.2.2:=by
  rw [aj (n:=upc a*b.2.2) (by omega) (by omega),aj (n:=upc b*a.2.2) (by omega) (by omega),aj (n:=a.2.2*b.2.2) (by omega) (by omega),aj (n:=upc a*b.2.2+upc b*a.2.2) (by omega) (by omega)];exact aj (by omega) (by omega)
 have bP:-9007199254740992<=tmP a b/\tmP a b<=9007199254740992:=by unfold tmP;omega
 have bQ:-9007199254740992<=tmQ a b/\tmQ a b<=9007199254740992:=by unfold tmQ;omega
 simp only [xh,af,W6,JO,af,Zf,nB];rw [EN (by omega) (by omega) g.2.2,if_pos ⟨ij.2 g.1,ij.2 g.2.1⟩];simp only [bne_self_eq_false,al,Ke,af,T1];rw [EN (by omega) (by omega) h.2.2,if_pos ⟨ij.2 h.1,ij.2 h.2.1⟩];simp only [bne_self_eq_false,al,Io,af,Ty,Jg,af,Y8,yv,af,I3,wC ha,wC hb];rw [eP,eQ,eR,Mb.f221_eq (by decide) (by decide) (by omega) (by omega),Mb.f221_eq (by decide) (by decide) (by omega) (by omega),Mb.f168_eq (by decide) (by decide) (by omega) (by omega)];have hc:0<=cdv (upc a*b.2.2+upc b*a.2.2+a.2.2*b.2.2) 1048576/\cdv (upc a*b.2.2+upc b*a.2.2+a.2.2*b.2.2) 1048576<=17179869184:=by unfold cdv;omega
 have t1:(Int.tmod (tmP a b) 1048576 != 0)=!decide (tmP a b % 1048576=0):=by rw [bne,Mb.tmod0]
 have t2:(Int.tmod (tmQ a b) 1048576 != 0)=!decide (tmQ a b % 1048576=0):=by rw [bne,Mb.tmod0]
 simp only [jV,af,AR,Mb.f232_eq,aix,t1,t2];by_cases h1:tmP a b % 1048576=0
 ·by_cases h2:tmQ a b % 1048576=0
  ·rw [decide_eq_true h1,decide_eq_true h2,Bool.not_true,al,al,aj (by omega) (by omega)]
   have e:tmB a b=(rdv (tmP a b) 1048576,rdv (tmQ a b) 1048576,cdv (upc a*b.2.2+upc b*a.2.2+a.2.2*b.2.2) 1048576+0):=by unfold tmB;rw [if_pos ⟨h1,h2⟩]
   exact JR e (x:=fun v:B3=>k (FloatKind.nearest .f64 v.1) (FloatKind.nearest .f64 v.2.1) v.2.2 0)
  ·rw [decide_eq_true h1,decide_eq_false h2,Bool.not_true,Bool.not_false,al,ap,aj (by omega) (by omega)]
   have e:tmB a b=(rdv (tmP a b) 1048576,rdv (tmQ a b) 1048576,cdv (upc a*b.2.2+upc b*a.2.2+a.2.2*b.2.2) 1048576+1):=by unfold tmB;rw [if_neg (fun q=>h2 q.2)]
   exact JR e (x:=fun v:B3=>k (FloatKind.nearest .f64 v.1) (FloatKind.nearest .f64 v.2.1) v.2.2 0)
 ·rw [decide_eq_false h1,Bool.not_false,ap,ap,aj (by omega) (by omega)]
  have e:tmB a b=(rdv (tmP a b) 1048576,rdv (tmQ a b) 1048576,cdv (upc a*b.2.2+upc b*a.2.2+a.2.2*b.2.2) 1048576+1):=by unfold tmB;rw [if_neg (fun q=>h1 q.1)]
  exact JR e (x:=fun v:B3=>k (FloatKind.nearest .f64 v.1) (FloatKind.nearest .f64 v.2.1) v.2.2 0)
end
def mis (s t:B3):B3:=(s.1 - t.1,s.2.1 - t.2.1,s.2.2+t.2.2)
end Go.AM.K
