/- Texts of one kind, put together. -/
import Derived.Test.YtmcplmhohldpjaaGreatYX2
namespace Go.AM.K
open Go.AM
set_option linter.unusedVariables false
set_option linter.unusedSimpArgs false
theorem akB {n d:Int}(hd:0 < d)(h1:-4611686018427387904<=n)(h2:n<=4611686018427387904):flr n d=n / d:=by
 have e:=Int.emod_add_mul_ediv n d
 have e1:=Int.emod_nonneg n (show d ≠ 0 by omega)
 have e2:=Int.emod_lt_of_pos n hd
 have b1:-4611686018427387905 < n / d:=by
  rw [<- Int.not_le]
  intro hc
  have:=(Int.ediv_le_iff_le_mul hd).1 hc
  have h3:-4611686018427387905*d<=-4611686018427387905*1:=Int.mul_le_mul_of_nonpos_left (by omega) (by omega)
  omega
 have b2:n / d<=4611686018427387904:=by
  have:n / d < 4611686018427387905:=by
   rw [Int.ediv_lt_iff_lt_mul hd]
   have:4611686018427387905*1<=4611686018427387905*d:=Int.mul_le_mul_of_nonneg_left (by omega) (by omega)
   omega
  omega
 unfold flr
 by_cases hp:0<=n
 ·rw [Int.tmod_eq_emod_of_nonneg hp,if_neg (by omega),Int.tdiv_eq_ediv_of_nonneg hp,ak (by omega) (by omega)]
 ·rw [show n=-(-n) by omega,Int.neg_tmod,Int.neg_tdiv,Int.tmod_eq_emod_of_nonneg (by omega),Int.tdiv_eq_ediv_of_nonneg (by omega),Int.neg_neg]
  have m1:=Int.emod_nonneg (-n) (show d ≠ 0 by omega)
  have m2:=Int.emod_lt_of_pos (-n) hd
  have m3:=Int.emod_add_mul_ediv (-n) d
  have q2:0<=(-n) / d:=Int.ediv_nonneg (by omega) (by omega)
  have q3:(-n) / d<=-n:=Int.ediv_le_self _ (by omega)
  generalize (-n) / d=q at *
  generalize (-n) % d=r at *
  by_cases hr:r=0
  ·rw [if_neg (by omega),ak (by omega) (by omega)]
   exact ((Int.ediv_emod_unique (a:=n) (q:=-q) (r:=0) hd).2 ⟨by rw [Int.mul_neg];omega,by omega,hd⟩).1.symm
  ·rw [if_pos (by omega),ak (n:=-q) (by omega) (by omega),ak (by omega) (by omega)]
   exact ((Int.ediv_emod_unique (a:=n) (q:=-q - 1) (r:=d - r) hd).2 ⟨by rw [Int.mul_sub,Int.mul_neg];omega,by omega,by omega⟩).1.symm
theorem IX {n d:Int}(hd:0 < d):n<=d*cdv n d/\d*cdv n d < n+d:=by
 have e:=Int.emod_add_mul_ediv (-n) d
 have e1:=Int.emod_nonneg (-n) (show d ≠ 0 by omega)
 have e2:=Int.emod_lt_of_pos (-n) hd
 unfold cdv
 rw [Int.mul_neg]
 omega
theorem aiA {n d:Int}(hd:0 < d):d*(n / d)<=n/\n < d*(n / d)+d:=by
 have e:=Int.emod_add_mul_ediv n d
 have e1:=Int.emod_nonneg n (show d ≠ 0 by omega)
 have e2:=Int.emod_lt_of_pos n hd
 omega
theorem SO {x y:Int}(h:x<=y):∀ (m k:Nat),hlv x m k<=hlv y m k:=by
 intro m
 induction m with
 | zero=>intro k;exact Nat.le_refl _
 | succ m ih=>
  intro k
  unfold hlv
  by_cases c:1048576*2 ^ k < x
  ·rw [if_pos c,if_pos (by omega)];exact ih _
  ·rw [if_neg c]
   by_cases c2:1048576*2 ^ k < y
   ·rw [if_pos c2]
    have:∀ (m k:Nat),k<=hlv y m k:=by
     intro m
     induction m with
     | zero=>intro k;exact Nat.le_refl _
     | succ m ih=>intro k;unfold hlv;split;exact Nat.le_trans (Nat.le_succ k) (ih _);exact Nat.le_refl _
    exact Nat.le_trans (Nat.le_succ k) (this _ _)
   ·rw [if_neg c2];exact Nat.le_refl _
theorem aju {x:Int}:∀ (m k:Nat),x<=1048576*2 ^ (k+m)->x<=1048576*2 ^ hlv x m k:=by
 intro m
 induction m with
 | zero=>intro k h;exact h
 | succ m ih=>
  intro k h
  unfold hlv
  by_cases c:1048576*2 ^ k < x
  ·rw [if_pos c];exact ih _ (by rw [show k+1+m=k+(m+1) by omega];exact h)
  ·rw [if_neg c];omega
theorem F5 {x:Int}(h:x<=1099511627776):x<=1048576*2 ^ gj x:=aju 42 0 (by
 rw [show (2:Int) ^ (0+42)=4398046511104 from rfl];omega)
theorem RF {x y:Int}(h:x<=y):gj x<=gj y:=SO h 42 0
abbrev gD (f:Int):Int:=w64 (Int.tdiv (w64 (f*f)) 1073741824)
abbrev gU (f:Int):Int:=cel (w64 (f*f)) 1073741824
def u30 (f:Int):Prop:=0<=f/\f<=1073741824
theorem agY {f:Int}(h:u30 f):u30 (gD f)/\1073741824*gD f<=f*f/\gD f=f*f / 1073741824:=by
 have m:=jq h.1 h.2 h.1 h.2
 have e:gD f=f*f / 1073741824:=by
  unfold gD
  rw [ak (n:=f*f) (by omega) (by omega),Int.tdiv_eq_ediv_of_nonneg m.1,ak (by omega) (by omega)]
 rw [e]
 unfold u30
 omega
theorem aqc {f:Int}(h:u30 f):u30 (gU f)/\f*f<=1073741824*gU f:=by
 have m:=jq h.1 h.2 h.1 h.2
 have e:gU f=cdv (f*f) 1073741824:=by
  unfold gU
  rw [ak (n:=f*f) (by omega) (by omega),j9 (by decide) (by omega) (by omega) (by omega)]
 rw [e]
 unfold u30 cdv
 omega
theorem Kc:∀ (m:Nat) (d u:Int),u30 d->u30 u->d<=u->u30 (itr gD m d)/\u30 (itr gU m u)/\itr gD m d<=itr gU m u:=by
 intro m
 induction m with
 | zero=>intro d u h1 h2 h;exact⟨h1,h2,h⟩
 | succ m ih=>
  intro d u h1 h2 h
  obtain⟨a1,a2,_⟩:=agY h1
  obtain⟨b1,b2⟩:=aqc h2
  refine ih _ _ a1 b1 ?_
  have:d*d<=u*u:=Int.mul_le_mul h h h1.1 h2.1
  omega
theorem acQ (g:Int->Int):∀ (a b:Nat) (f:Int),itr g (a+b) f=itr g b (itr g a f):=by
 intro a
 induction a with
 | zero=>intro b f;rw [Nat.zero_add];rfl
 | succ a ih=>intro b f;rw [show a+1+b=(a+b)+1 by omega];exact ih b (g f)
def qN (t x:Int):Int:=2*(t*t) - 2*(x*t)+x*x
theorem acx {s x:Int}(hs:0 < s)(hx:0<=x)(h8:x<=8*s):qN (2*s) x*qN (2*s) x<=32*(s*s)*qN s x:=by
 have e:32*(s*s)*qN s x - qN (2*s) x*qN (2*s) x=(x*x)*(x*(8*s - x)):=by unfold qN;grind
 have:=Int.mul_nonneg (aZ x) (Int.mul_nonneg hx (show 0<=8*s - x by omega))
 omega
theorem akL {x s:Int}(hs:0 < s)(hx:0<=x)(hxs:x<=s):∀ (j:Nat) (d:Int),u30 d->2*((2 ^ j*s)*(2 ^ j*s))*d<=1073741824*qN (2 ^ j*s) x ->
  u30 (itr gD j d)/\2*(s*s)*itr gD j d<=1073741824*qN s x:=by
 intro j
 induction j with
 | zero=>intro d h1 h2;rw [Int.pow_zero,Int.one_mul] at h2;exact⟨h1,h2⟩
 | succ j ih=>
  intro d h1 h2
  obtain⟨a1,a2,_⟩:=agY h1
  refine ih (gD d) a1 ?_
  have ht:0 < (2:Int) ^ j:=Int.pow_pos (by decide)
  obtain⟨t,rfl⟩:∃ t,t=(2:Int) ^ j*s:=⟨_,rfl⟩
  have et:(2:Int) ^ (j+1)*s=2*(2 ^ j*s):=by rw [Int.pow_succ];grind
  rw [et] at h2
  have hst:s<=2 ^ j*s:=by
   have:=Int.mul_le_mul_of_nonneg_right (show (1:Int)<=2 ^ j by omega) (Int.le_of_lt hs)
   omega
  generalize (2:Int) ^ j*s=t at *
  have h3:=acx (s:=t) (by omega) hx (by omega)
  -- squared
  have hd0:0<=2*(2*t*(2*t))*d:=Int.mul_nonneg (by have:=aZ (2*t);omega) h1.1
  have h4:=Int.mul_le_mul h2 h2 hd0 (by omega)
  have h5:2*(2*t*(2*t))*d*(2*(2*t*(2*t))*d)=64*((t*t)*(t*t))*(d*d):=by grind
  have h6:1073741824*qN (2*t) x*(1073741824*qN (2*t) x)=1152921504606846976*(qN (2*t) x*qN (2*t) x):=by grind
  rw [h5,h6] at h4
  have h7:64*((t*t)*(t*t))*(1073741824*gD d)<=64*((t*t)*(t*t))*(d*d):=Int.mul_le_mul_of_nonneg_left a2 (by have:=aZ (t*t);omega)
  have h8:64*((t*t)*(t*t))*(1073741824*gD d)<=1152921504606846976*(32*(t*t)*qN t x):=by omega
  have htt:0 < t*t:=Int.mul_pos (by omega) (by omega)
  have h9:(34359738368*(t*t))*(2*(t*t)*gD d)<=(34359738368*(t*t))*(1073741824*qN t x):=by
   have e1:(34359738368*(t*t))*(2*(t*t)*gD d)=64*((t*t)*(t*t))*(1073741824*gD d):=by grind
   have e2:(34359738368*(t*t))*(1073741824*qN t x)=1152921504606846976*(32*(t*t)*qN t x):=by grind
   omega
  exact Int.le_of_mul_le_mul_left h9 (by omega)
theorem pw2 (k:Nat):(1:Int)<=2 ^ k:=by
 have:(0:Int) < 2 ^ k:=Int.pow_pos (by decide)
 omega
theorem xW {a b:Int}(h0:0<=a)(h:a<=b):a*a<=b*b:=Int.mul_le_mul h h h0 (Int.le_trans h0 h)
def dnS (u:Int):Int:=1073741824 - u+u*u / 2147483648 - cdv (u*u*u) 6917529027641081856
def upS (u:Int):Int:=1073741824 - u+cdv (u*u) 2147483648
theorem aj4 {u:Int}(h1:0<=u)(h2:u<=1048576):u30 (dnS u)/\2147483648*dnS u<=1152921504606846976+(1073741824 - u)*(1073741824 - u):=by
 have m:=jq h1 h2 h1 h2
 have m3:=jq m.1 m.2 h1 h2
 have e:(1073741824 - u)*(1073741824 - u)=1152921504606846976 - 2147483648*u+u*u:=by grind
 have mu:u*u<=1048576*u:=Int.mul_le_mul_of_nonneg_right h2 h1
 rw [e]
 unfold dnS u30 cdv
 generalize u*u*u=c at *
 generalize u*u=b at *
 omega
theorem akM {u:Int}(h1:0<=u)(h2:u<=1048576):u30 (upS u)/\1152921504606846976+(1073741824 - u)*(1073741824 - u)<=2147483648*upS u:=by
 have m:=jq h1 h2 h1 h2
 have e:(1073741824 - u)*(1073741824 - u)=1152921504606846976 - 2147483648*u+u*u:=by grind
 have mu:u*u<=1048576*u:=Int.mul_le_mul_of_nonneg_right h2 h1
 rw [e]
 unfold upS u30 cdv
 generalize u*u=b at *
 omega
theorem afN {p:Int}(h1:0<=p)(h2:p<=16777216):∃ x u:Int,x=cdv (256*p*62831854) 10000000/\0<=x/\x<=1099511627776/\u=cdv x (2 ^ gj x)/\0<=u/\u<=1048576/\x<=u*2 ^ gj x/\By p=itr gD (gj x) (dnS u):=by
 refine⟨cdv (256*p*62831854) 10000000,cdv (cdv (256*p*62831854) 10000000) (2 ^ gj (cdv (256*p*62831854) 10000000)),rfl,?_⟩
 have hx0:0<=cdv (256*p*62831854) 10000000/\cdv (256*p*62831854) 10000000<=1099511627776:=by unfold cdv;omega
 have ex:cel (w64 ((w64 (256*p))*62831854)) 10000000=cdv (256*p*62831854) 10000000:=by
  rw [ak (n:=256*p) (by omega) (by omega),ak (n:=256*p*62831854) (by omega) (by omega),j9 (by decide) (by omega) (by omega) (by omega)]
 unfold By
 simp only [ex]
 generalize cdv (256*p*62831854) 10000000=x at *
 have hk:=xN x
 have hl:=F5 hx0.2
 have h1k:=pw2 (gj x)
 have h2k:=(pw hk).2.2.2
 generalize gj x=k at *
 have eu:cel x (2 ^ k)=cdv x (2 ^ k):=j9 (by omega) (by omega) (by omega) (by omega)
 rw [eu]
 obtain⟨c1,c2⟩:=IX (n:=x) (d:=2 ^ k) (by omega)
 have hu0:0<=cdv x (2 ^ k):=by
  have:-(2 ^ k) < 2 ^ k*cdv x (2 ^ k)+0:=by omega
  by_cases hc:0<=cdv x (2 ^ k)
  ·exact hc
  ·have h3:2 ^ k*cdv x (2 ^ k)<=2 ^ k*(-1):=Int.mul_le_mul_of_nonneg_left (by omega) (by omega)
   omega
 have hu1:cdv x (2 ^ k)<=1048576:=by
  by_cases hc:cdv x (2 ^ k)<=1048576
  ·exact hc
  ·have h3:2 ^ k*1048577<=2 ^ k*cdv x (2 ^ k):=Int.mul_le_mul_of_nonneg_left (by omega) (by omega)
   omega
 refine⟨hx0.1,hx0.2,trivial,hu0,hu1,by rw [Int.mul_comm];exact c1,?_⟩
 generalize cdv x (2 ^ k)=u at *
 have m:=jq hu0 hu1 hu0 hu1
 have m3:=jq m.1 m.2 hu0 hu1
 have e1:w64 ((w64 ((w64 (1073741824 - u))+(w64 (Int.tdiv (w64 (u*u)) 2147483648)))) - cel (w64 ((w64 (u*u))*u)) 6917529027641081856)=dnS u:=by
  have c3:0<=cdv (u*u*u) 6917529027641081856/\cdv (u*u*u) 6917529027641081856<=1:=by unfold cdv;omega
  rw [ak (n:=u*u) (by omega) (by omega),ak (n:=u*u*u) (by omega) (by omega),j9 (by decide) (by omega) (by omega) (by omega),Int.tdiv_eq_ediv_of_nonneg m.1,ak (n:=1073741824 - u) (by omega) (by omega),ak (n:=u*u / 2147483648) (by omega) (by omega),ak (n:=1073741824 - u+u*u / 2147483648) (by omega) (by omega),ak (by omega) (by omega)]
  rfl
 rw [e1]
theorem acb {p:Int}(h1:0<=p)(h2:p<=16777216):∃ x u:Int,x=256*p*62831853 / 10000000/\0<=x/\x<=1099511627776/\0<=u/\u<=1048576/\u*2 ^ gj x<=x/\yP p=itr gU (gj x) (upS u):=by
 refine⟨_,256*p*62831853 / 10000000 / 2 ^ gj (256*p*62831853 / 10000000),rfl,?_⟩
 have hx0:0<=256*p*62831853 / 10000000/\256*p*62831853 / 10000000<=1099511627776:=by omega
 have ex:w64 (Int.tdiv (w64 ((w64 (256*p))*62831853)) 10000000)=256*p*62831853 / 10000000:=by
  rw [ak (n:=256*p) (by omega) (by omega),ak (n:=256*p*62831853) (by omega) (by omega),Int.tdiv_eq_ediv_of_nonneg (by omega),ak (by omega) (by omega)]
 unfold yP
 simp only [ex]
 generalize 256*p*62831853 / 10000000=x at *
 have hk:=xN x
 have hl:=F5 hx0.2
 have h1k:=pw2 (gj x)
 generalize gj x=k at *
 obtain⟨c1,c2⟩:=aiA (n:=x) (d:=2 ^ k) (by omega)
 have hu0:0<=x / 2 ^ k:=Int.ediv_nonneg hx0.1 (by omega)
 have hu1:x / 2 ^ k<=1048576:=by
  by_cases hc:x / 2 ^ k<=1048576
  ·exact hc
  ·have h3:2 ^ k*1048577<=2 ^ k*(x / 2 ^ k):=Int.mul_le_mul_of_nonneg_left (by omega) (by omega)
   omega
 refine⟨hx0.1,hx0.2,hu0,hu1,by rw [Int.mul_comm];exact c1,?_⟩
 generalize x / 2 ^ k=u at *
 have m:=jq hu0 hu1 hu0 hu1
 have e1:w64 ((w64 (1073741824 - u))+cel (w64 (u*u)) 2147483648)=upS u:=by
  have c3:0<=cdv (u*u) 2147483648/\cdv (u*u) 2147483648<=1048576:=by unfold cdv;omega
  rw [ak (n:=u*u) (by omega) (by omega),j9 (by decide) (by omega) (by omega) (by omega),ak (n:=1073741824 - u) (by omega) (by omega),ak (by omega) (by omega)]
  rfl
 rw [e1]
theorem Ma {lo hi:Int}(h0:0<=lo)(h:lo<=hi)(hh:hi<=16777216):u30 (By hi)/\u30 (yP lo)/\By hi<=yP lo:=by
 obtain⟨x,u,ex,x0,x1,eu,g0,g1,g2,e⟩:=afN (p:=hi) (by omega) hh
 obtain⟨y,v,ey,y0,y1,v0,v1,v2,e'⟩:=acb (p:=lo) h0 (by omega)
 have hyx:y<=x:=by rw [ex,ey];unfold cdv;omega
 rw [e,e']
 have hK:=RF hyx
 have hy:=F5 y1
 obtain⟨j,hj⟩:∃ j,gj x=j+gj y:=⟨gj x - gj y,by omega⟩
 rw [hj,acQ]
 rw [hj] at g2
 have hT':=pw2 (gj y)
 have hT:=pw2 j
 have eT:(2:Int) ^ (j+gj y)=2 ^ j*2 ^ gj y:=Int.pow_add ..
 rw [eT] at g2
 clear e e' ex ey eu hj hK eT
 generalize gj y=k' at *
 generalize hTd:(2:Int) ^ k'=T at *
 obtain⟨a1,a2⟩:=aj4 g0 g1
 obtain⟨b1,b2⟩:=akM v0 v1
 have hs:0 < T*1073741824:=Int.mul_pos (by omega) (by decide)
 have key:=akL (x:=y) (s:=T*1073741824) hs y0 (by omega) j (dnS u) a1 (by
  have h3:y<=u*(2 ^ j*T):=by omega
  have e1:(2:Int) ^ j*(T*1073741824)=(2 ^ j*T)*1073741824:=(Int.mul_assoc ..).symm
  rw [e1]
  have hTT:1<=2 ^ j*T:=by
   have:=Int.mul_le_mul hT hT' (by decide) (by omega)
   omega
  generalize (2:Int) ^ j*T=R at *
  have e2:qN (R*1073741824) y=1152921504606846976*(R*R)+(R*1073741824 - y)*(R*1073741824 - y):=by unfold qN;grind
  have h4:R*u<=R*1073741824:=Int.mul_le_mul_of_nonneg_left (by omega) (by omega)
  have h5:=xW (a:=R*1073741824 - R*u) (b:=R*1073741824 - y) (by omega) (by rw [Int.mul_comm R u];omega)
  have e3:(R*1073741824 - R*u)*(R*1073741824 - R*u)=(R*R)*((1073741824 - u)*(1073741824 - u)):=by grind
  have h6:(R*R)*(2147483648*dnS u)<=(R*R)*(1152921504606846976+(1073741824 - u)*(1073741824 - u)):=Int.mul_le_mul_of_nonneg_left a2 (aZ R)
  have e4:(R*R)*(1152921504606846976+(1073741824 - u)*(1073741824 - u))=1152921504606846976*(R*R)+(R*R)*((1073741824 - u)*(1073741824 - u)):=by grind
  have e5:2*(R*1073741824*(R*1073741824))*dnS u=1073741824*((R*R)*(2147483648*dnS u)):=by grind
  rw [e5,e2]
  omega)
 obtain⟨k1,k2⟩:=key
 refine⟨(Kc k' _ _ k1 k1 (Int.le_refl _)).1,(Kc k' _ _ b1 b1 (Int.le_refl _)).2.1,(Kc k' _ _ k1 b1 ?_).2.2⟩
 generalize itr gD j (dnS u)=D at *
 have e2:qN (T*1073741824) y=1152921504606846976*(T*T)+(T*1073741824 - y)*(T*1073741824 - y):=by unfold qN;grind
 have h4:v*T<=y:=v2
 have h5:=xW (a:=T*1073741824 - y) (b:=T*1073741824 - T*v) (by omega) (by rw [Int.mul_comm T v];omega)
 have e3:(T*1073741824 - T*v)*(T*1073741824 - T*v)=(T*T)*((1073741824 - v)*(1073741824 - v)):=by grind
 have h6:(T*T)*(1152921504606846976+(1073741824 - v)*(1073741824 - v))<=(T*T)*(2147483648*upS v):=Int.mul_le_mul_of_nonneg_left b2 (aZ T)
 have e4:(T*T)*(1152921504606846976+(1073741824 - v)*(1073741824 - v))=1152921504606846976*(T*T)+(T*T)*((1073741824 - v)*(1073741824 - v)):=by grind
 have hTT:0 < T*T:=Int.mul_pos (by omega) (by omega)
 have h7:(2305843009213693952*(T*T))*D<=(2305843009213693952*(T*T))*upS v:=by
  have e5:(2305843009213693952*(T*T))*D=2*(T*1073741824*(T*1073741824))*D:=by grind
  have e6:(2305843009213693952*(T*T))*upS v=1073741824*((T*T)*(2147483648*upS v)):=by grind
  rw [e5,e6]
  omega
 exact Int.le_of_mul_le_mul_left h7 (by omega)
def fLo (hi:Int):Int:=if hi<=16777216 then (if flr (By hi) 1024 > 0 then flr (By hi) 1024 else 0) else 0
def fHi (lo:Int):Int:=if lo<=16777216 then (if cel (yP lo) 1024 < 1048576 then cel (yP lo) 1024 else 1048576) else 1
theorem Dg {lo hi:Int}(h0:0<=lo)(h:lo<=hi):0<=fLo hi/\fLo hi<=fHi lo/\fHi lo<=1048576:=by
 unfold fLo fHi
 by_cases c1:hi<=16777216
 ·rw [if_pos c1,if_pos (show lo<=16777216 by omega)]
  obtain⟨a1,a2,a3⟩:=Ma h0 h c1
  unfold u30 at a1 a2
  rw [akB (by decide) (by omega) (by omega),j9 (by decide) (by omega) (by omega) (by omega)]
  unfold cdv
  generalize By hi=a at *
  generalize yP lo=b at *
  split <;> split <;> omega
 ·rw [if_neg c1]
  by_cases c2:lo<=16777216
  ·rw [if_pos c2]
   obtain⟨a1,a2,a3⟩:=Ma (lo:=lo) (hi:=lo) h0 (Int.le_refl _) c2
   unfold u30 at a2
   rw [j9 (by decide) (by omega) (by omega) (by omega)]
   unfold cdv
   generalize yP lo=b at *
   split <;> omega
  ·rw [if_neg c2];omega
end Go.AM.K

namespace Go.AM.K
open Go.AM
set_option linter.unusedVariables false
set_option linter.unusedSimpArgs false
theorem Ag {a b:Int}(h0:0<=a)(h:a<=b):a*a<=b*b:=Int.mul_le_mul h h h0 (Int.le_trans h0 h)
def rC (x y:Int):Prop:=(67108864 - 2)*(67108864 - 2)<=x*x+y*y/\x*x+y*y<=(67108864+1)*(67108864+1)
def E2 (c D g c':Int):Bool:=decide (2<=D/\3*67108864<=2*(2*67108864 - D)/\4096*((2*67108864+1 - D)*(2*67108864+1 - D))<=4096*(4*((67108864 - 2)*(67108864 - 2))) - c*c /\
 256*(4096*(D*D)+c*c+32768*D)+D*D<=256*(g*g)/\0<=g/\g+182<=2*c')
theorem wS {ax ay bx by_ r c D g c':Int}(ha:rC ax ay)(hb:rC bx by_)(hc:nle (64*(bx - ax)) (64*(by_ - ay)) c)(ho:E2 c D g c'=true)
  (hr0:0<=r) (h1:r*r<=(ax+bx)*(ax+bx)+(ay+by_)*(ay+by_)) (h2:(ax+bx)*(ax+bx)+(ay+by_)*(ay+by_) < (r+1)*(r+1)):2*67108864 - D < r/\r<=2*67108864+2:=by
 obtain⟨o1,o2,o3,o4,o5,o6⟩:=of_decide_eq_true ho
 have e:(ax+bx)*(ax+bx)+(ay+by_)*(ay+by_)=2*(ax*ax+ay*ay)+2*(bx*bx+by_*by_) - ((bx - ax)*(bx - ax)+(by_ - ay)*(by_ - ay)):=by grind
 have ec:64*(bx - ax)*(64*(bx - ax))+64*(by_ - ay)*(64*(by_ - ay))=4096*((bx - ax)*(bx - ax)+(by_ - ay)*(by_ - ay)):=by grind
 have hc2:=hc.2
 rw [ec] at hc2
 have n1:=aZ (bx - ax)
 have n2:=aZ (by_ - ay)
 have a1:=ha.1;have a2:=ha.2;have b1:=hb.1;have b2:=hb.2
 constructor
 ·by_cases hc:2*67108864 - D < r
  ·exact hc
  ·have h3:(r+1)*(r+1)<=(2*67108864+1 - D)*(2*67108864+1 - D):=Int.mul_le_mul (by omega) (by omega) (by omega) (by omega)
   omega
 ·refine eJ (by decide) ?_
  have:(2*67108864+2)*(2*67108864+2)=4*((67108864+1)*(67108864+1)):=by decide
  omega
theorem Bg {ax ay bx by_ r dx dy ex ey c D g c':Int}(ha:rC ax ay)(hb:rC bx by_)(hc:nle (64*(bx - ax)) (64*(by_ - ay)) c)(ho:E2 c D g c'=true)
  (hr0:0<=r) (h1:r*r<=(ax+bx)*(ax+bx)+(ay+by_)*(ay+by_)) (h2:(ax+bx)*(ax+bx)+(ay+by_)*(ay+by_) < (r+1)*(r+1))
  (hx:67108864*(ax+bx)=r*dx+ex) (hx1:0<=ex) (hx2:ex < r) (hy:67108864*(ay+by_)=r*dy+ey) (hy1:0<=ey) (hy2:ey < r) :
  nle (64*(dx - ax)) (64*(dy - ay)) c':=by
 obtain⟨r1,r2⟩:=wS ha hb hc ho hr0 h1 h2
 obtain⟨o1,o2,o3,o4,o5,o6⟩:=of_decide_eq_true ho
 obtain⟨E,hE⟩:∃ E,E=2*67108864 - r:=⟨_,rfl⟩
 have hE1:-D<=E/\E<=D:=by omega
 have ec:64*(bx - ax)*(64*(bx - ax))+64*(by_ - ay)*(64*(by_ - ay))=4096*((bx - ax)*(bx - ax)+(by_ - ay)*(by_ - ay)):=by grind
 have hc2:=hc.2
 rw [ec] at hc2
 -- the scaled direction without its rounding
 have hv:nle (64*(E*(ax+bx)+r*(bx - ax))) (64*(E*(ay+by_)+r*(by_ - ay))) (r*g):=by
  refine⟨Int.mul_nonneg hr0 o5,?_⟩
  have e1:64*(E*(ax+bx)+r*(bx - ax))*(64*(E*(ax+bx)+r*(bx - ax)))+64*(E*(ay+by_)+r*(by_ - ay))*(64*(E*(ay+by_)+r*(by_ - ay)))
    = 4096*(E*E*((ax+bx)*(ax+bx)+(ay+by_)*(ay+by_)))+(r*r)*(4096*((bx - ax)*(bx - ax)+(by_ - ay)*(by_ - ay)))+8192*(r*(E*((bx*bx+by_*by_) - (ax*ax+ay*ay)))):=by grind
  rw [e1]
  have a1:=ha.1;have a2:=ha.2;have b1:=hb.1;have b2:=hb.2
  have hrr:=aZ r
  -- the three parts
  have hEE:0<=E*E/\E*E<=D*D:=⟨aZ E,(dg hE1.1 hE1.2 hE1.1 hE1.2).2⟩
  have p1:E*E*((ax+bx)*(ax+bx)+(ay+by_)*(ay+by_))<=D*D*(r*r+2*r):=by
   have e2:(r+1)*(r+1)=r*r+2*r+1:=by grind
   exact Int.mul_le_mul hEE.2 (by omega) (Int.add_nonneg (aZ _) (aZ _)) (aZ D)
  have p2:=Int.mul_le_mul_of_nonneg_left hc2 hrr
  have hw:E*((bx*bx+by_*by_) - (ax*ax+ay*ay))<=D*(6*67108864):=(dg hE1.1 hE1.2 (b:=(bx*bx+by_*by_) - (ax*ax+ay*ay)) (B:=6*67108864) (by omega) (by omega)).2
  have p3:=Int.mul_le_mul_of_nonneg_left hw hr0
  have p4:r*(D*(6*67108864))<=r*(D*(4*r)):=Int.mul_le_mul_of_nonneg_left (Int.mul_le_mul_of_nonneg_left (by omega) (by omega)) hr0
  have e3:r*(D*(4*r))=4*((r*r)*D):=by grind
  have e4:D*D*(r*r+2*r)=(r*r)*(D*D)+2*(r*(D*D)):=by grind
  have p5:2097152*(r*(D*D))<=(r*r)*(D*D):=by
   have e5:2097152*(r*(D*D))=(2097152*r)*(D*D):=by grind
   rw [e5]
   exact Int.mul_le_mul_of_nonneg_right (Int.mul_le_mul_of_nonneg_right (by omega) hr0) (aZ D)
  have p6:=Int.mul_le_mul_of_nonneg_left o4 hrr
  have e6:r*r*(256*(4096*(D*D)+c*c+32768*D)+D*D)=1048576*((r*r)*(D*D))+256*((r*r)*(c*c))+8388608*((r*r)*D)+(r*r)*(D*D):=by grind
  have e7:r*r*(256*(g*g))=256*(r*g*(r*g)):=by grind
  rw [e6,e7] at p6
  omega
 have he:nle (128*ex) (128*ey) (182*r):=by
  refine⟨by omega,?_⟩
  have q1:=Int.mul_le_mul (show ex<=r by omega) (show ex<=r by omega) hx1 hr0
  have q2:=Int.mul_le_mul (show ey<=r by omega) (show ey<=r by omega) hy1 hr0
  have e1:128*ex*(128*ex)+128*ey*(128*ey)=16384*(ex*ex+ey*ey):=by grind
  have e2:182*r*(182*r)=33124*(r*r):=by grind
  have:=aZ r
  omega
 have h:=r9 hv he
 refine pm (k:=2*r) (by omega) (by omega) (ba (ch h ?_ ?_) ?_)
 ·rw [hE];grind
 ·rw [hE];grind
 ·have:=Int.mul_le_mul_of_nonneg_left o6 hr0
  have e1:r*(g+182)=r*g+182*r:=by grind
  have e2:r*(2*c')=2*r*c':=by grind
  omega
theorem VZ {ax ay bx by_ r dx dy ex ey:Int}(hr:67108864<=r)(hdx:0<=dx)(hdy:0<=dy)
  (h1:r*r<=(ax+bx)*(ax+bx)+(ay+by_)*(ay+by_)) (h2:(ax+bx)*(ax+bx)+(ay+by_)*(ay+by_) < (r+1)*(r+1))
  (hx:67108864*(ax+bx)=r*dx+ex) (hx1:0<=ex) (hx2:ex < r) (hy:67108864*(ay+by_)=r*dy+ey) (hy1:0<=ey) (hy2:ey < r):rC dx dy:=by
 have hr0:0<=r:=by omega
 have es:67108864*(ax+bx)*(67108864*(ax+bx))+67108864*(ay+by_)*(67108864*(ay+by_))=67108864*67108864*((ax+bx)*(ax+bx)+(ay+by_)*(ay+by_)):=by grind
 generalize (ax+bx)*(ax+bx)+(ay+by_)*(ay+by_)=s at *
 constructor
 ·by_cases hc:(67108864 - 2)*(67108864 - 2)<=dx*dx+dy*dy
  ·exact hc
  ·have hd:nle dx dy (67108864 - 2):=⟨by decide,by omega⟩
   have hd2:=bo (2*r) hd
   rw [show (((2*r).natAbs:Nat):Int)=2*r by omega] at hd2
   have he:nle (2*ex) (2*ey) (3*r):=by
    refine⟨by omega,?_⟩
    have q1:=Int.mul_le_mul (show ex<=r by omega) (show ex<=r by omega) hx1 hr0
    have q2:=Int.mul_le_mul (show ey<=r by omega) (show ey<=r by omega) hy1 hr0
    have e1:2*ex*(2*ex)+2*ey*(2*ey)=4*(ex*ex+ey*ey):=by grind
    have e2:3*r*(3*r)=9*(r*r):=by grind
    have:=aZ r
    omega
   have h:=eH hd2 he
   have h3:nle (2*(67108864*(ax+bx))) (2*(67108864*(ay+by_))) (r*(2*67108864 - 1)):=ba (ch h (by rw [hx];grind) (by rw [hy];grind)) (by grind)
   have h4:=h3.2
   have e1:2*(67108864*(ax+bx))*(2*(67108864*(ax+bx)))+2*(67108864*(ay+by_))*(2*(67108864*(ay+by_)))=4*(67108864*(ax+bx)*(67108864*(ax+bx))+67108864*(ay+by_)*(67108864*(ay+by_))):=by grind
   rw [e1,es] at h4
   have e2:r*(2*67108864 - 1)*(r*(2*67108864 - 1))=18014398241046529*(r*r):=by grind
   rw [e2] at h4
   have:=Int.mul_pos (show 0 < r by omega) (show 0 < r by omega)
   omega
 ·have q1:r*dx*(r*dx)<=67108864*(ax+bx)*(67108864*(ax+bx)):=Ag (Int.mul_nonneg hr0 hdx) (by omega)
  have q2:r*dy*(r*dy)<=67108864*(ay+by_)*(67108864*(ay+by_)):=Ag (Int.mul_nonneg hr0 hdy) (by omega)
  have e1:r*dx*(r*dx)+r*dy*(r*dy)=r*r*(dx*dx+dy*dy):=by grind
  have h3:67108864*(r+1)*(67108864*(r+1))<=(67108864+1)*r*((67108864+1)*r):=Ag (by omega) (by omega)
  have e2:67108864*(r+1)*(67108864*(r+1))=67108864*67108864*((r+1)*(r+1)):=by grind
  have e3:(67108864+1)*r*((67108864+1)*r)=r*r*((67108864+1)*(67108864+1)):=by grind
  refine Int.le_of_mul_le_mul_left (a:=r*r) ?_ (Int.mul_pos (by omega) (by omega))
  omega
def cT:List Int:=[6626,13055,25921,51656,103127,206071,411958,823733,1647283,3294382,6588581,13176975,26353736,52707040,105411909,210807754,421488326,841961035,1675813275,3287225626]
def dT:List Int:=[6,6,6,6,6,6,6,8,15,45,163,637,2532,10112,40429,161677,646301,2578962,10216722]
def gT:List Int:=[13069,25928,51660,103129,206072,411959,823734,1647284,3294383,6588582,13176980,26353768,52707290,105413898,210823636,421615325,842976469,1683921888,3351626368]
def GT:List Int:=[1326,2652,3925,5148,6292,7285,7990,8112,8112,8112,8112,8112,8112,8112,8112,8112,8112,8112,8112,8112]
def GTj (j:Nat):Int:=GT.getD j 0
def cTj (j:Nat):Int:=cT.getD j 0
def aix (j:Nat):Bool:=E2 (cTj (j+1)) (dT.getD j 0) (gT.getD j 0) (cTj j) && decide (GTj j<=GTj (j+1)/\GTj j+7*cTj j<=45056*2 ^ j+GTj (j+1)/\0<=GTj j)
theorem UY:∀ j:Fin 19,aix j.val=true:=by decide +kernel
def nd (k:Int)(p q:Nat × Nat)(r:Int):Prop:=nle (k*((p.1:Int) - q.1)) (k*((p.2:Int) - q.2)) r
theorem Jt {k:Int}{p q s:Nat × Nat}{r t u:Int}(h1:nd k p q r)(h2:nd k q s t)(h:r+t<=u):nd k p s u:=
 ba (ch (eH h1 h2) (by rw [<- Int.mul_add];congr 1;omega) (by rw [<- Int.mul_add];congr 1;omega)) h
theorem Fu {k:Int}{p q:Nat × Nat}{r:Int}(h:nd k p q r):nd k q p r:=
 ch (gz h) (by rw [<- Int.mul_neg];congr 1;omega) (by rw [<- Int.mul_neg];congr 1;omega)
theorem WM {k a b c d r:Int}(h:nle (k*(a - b)) (k*(c - d)) r):nle (k*(b - a)) (k*(d - c)) r:=
 ch (gz h) (by rw [<- Int.mul_neg];congr 1;omega) (by rw [<- Int.mul_neg];congr 1;omega)
theorem D2 {k:Int}{p:Nat × Nat}{r:Int}(h:0<=r):nd k p p r:=ch (mw h) (by rw [Int.sub_self,Int.mul_zero]) (by rw [Int.sub_self,Int.mul_zero])
theorem al4 {p q:Nat × Nat}{r:Int}(h:nd 64 p q r):nd 448 p q (7*r):=
 ch (bo 7 h) (by rw [<- Int.mul_assoc];rfl) (by rw [<- Int.mul_assoc];rfl)
theorem Gn (s r:Nat)(hr:0 < r):∃ d e:Int,((s*67108864 / r:Nat):Int)=d/\67108864*(s:Int)=(r:Int)*d+e/\0<=e/\e < r/\0<=d:=by
 refine⟨((s*67108864 / r:Nat):Int),((s*67108864 % r:Nat):Int),rfl,?_,Int.natCast_nonneg _,?_,Int.natCast_nonneg _⟩
 ·have h:=Nat.div_add_mod (s*67108864) r
  rw [<- Int.natCast_mul,<- Int.natCast_add,h]
  omega
 ·have:=Nat.mod_lt (s*67108864) hr
  omega
theorem Ha {a b:Nat × Nat}(ha:hI a)(hb:hI b)(la:rC a.1 a.2)(lb:rC b.1 b.2){c D g c':Int}(hc:nd 64 a b c)(ho:E2 c D g c'=true) :
  rC (btw a b).1 (btw a b).2/\nd 64 a (btw a b) c'/\nd 64 (btw a b) b c':=by
 obtain⟨h1,h2⟩:=Wh ha hb
 have h3:=ha.lo;have h4:=hb.lo;have h5:=ha.le;have h6:=hb.le;have h7:=ha.hi;have h8:=hb.hi
 have hs1:(a.1+b.1)*(a.1+b.1)<=134217728*134217728:=Nat.mul_le_mul (by omega) (by omega)
 have hs2:(a.2+b.2)*(a.2+b.2)<=134217728*134217728:=Nat.mul_le_mul (by omega) (by omega)
 obtain⟨q1,q2⟩:=il (n:=(a.1+b.1)*(a.1+b.1)+(a.2+b.2)*(a.2+b.2)) (by omega)
 have e:btw a b=((a.1+b.1)*67108864 / isq ((a.1+b.1)*(a.1+b.1)+(a.2+b.2)*(a.2+b.2)),(a.2+b.2)*67108864 / isq ((a.1+b.1)*(a.1+b.1)+(a.2+b.2)*(a.2+b.2))):=rfl
 rw [e]
 generalize isq ((a.1+b.1)*(a.1+b.1)+(a.2+b.2)*(a.2+b.2))=r at *
 simp only
 have g1:(r:Int)*r<=((a.1:Int)+b.1)*((a.1:Int)+b.1)+((a.2:Int)+b.2)*((a.2:Int)+b.2):=by exact_mod_cast q1
 have g2:((a.1:Int)+b.1)*((a.1:Int)+b.1)+((a.2:Int)+b.2)*((a.2:Int)+b.2) < ((r:Int)+1)*((r:Int)+1):=by exact_mod_cast q2
 have hr0:0 < r:=by omega
 obtain⟨dx,ex,hdx,i1,x1,x2,x3⟩:=Gn (a.1+b.1) r hr0
 obtain⟨dy,ey,hdy,i2,y1,y2,y3⟩:=Gn (a.2+b.2) r hr0
 rw [Int.natCast_add] at i1 i2
 have hc':nle (64*((b.1:Int) - a.1)) (64*((b.2:Int) - a.2)) c:=Fu hc
 obtain⟨r1,r2⟩:=wS la lb hc' ho (by omega) g1 g2
 obtain⟨o1,o2,_⟩:=of_decide_eq_true ho
 unfold nd
 simp only [hdx,hdy]
 refine⟨VZ (ax:=a.1) (bx:=b.1) (ay:=a.2) (by_:=b.2) (r:=r) (by omega) x3 y3 g1 g2 i1 x1 x2 i2 y1 y2,WM ?_,?_⟩
 ·exact Bg la lb hc' ho (by omega) g1 g2 i1 x1 x2 i2 y1 y2
 ·have s1:((b.1:Int)+a.1)=(a.1:Int)+b.1:=Int.add_comm ..
  have s2:((b.2:Int)+a.2)=(a.2:Int)+b.2:=Int.add_comm ..
  exact Bg (r:=r) (dx:=dx) (dy:=dy) (ex:=ex) (ey:=ey) lb la hc ho (by omega) (by rw [s1,s2];exact g1) (by rw [s1,s2];exact g2) (by rw [s1];exact i1) x1 x2 (by rw [s2];exact i2) y1 y2
theorem nZ {f lo hi:Nat}{a b:Nat × Nat}:eL lo (f+1) lo hi a b=a:=by simp only [eL,if_true]
theorem nT {f lo hi:Nat}{a b:Nat × Nat}(h:lo < hi):eL hi (f+1) lo hi a b=b:=by simp only [eL];rw [if_neg (by omega),if_true]
theorem Cd {f lo hi m:Nat}{a b:Nat × Nat}(h:lo+1 < hi)(h1:lo<=m)(h2:m<=hi) :
  eL m (f+2) lo hi a b=if (lo+hi) / 2<=m then eL m (f+1) ((lo+hi) / 2) hi (btw a b) b else eL m (f+1) lo ((lo+hi) / 2) a (btw a b):=by
 by_cases e1:m=lo
 ·subst e1
  rw [nZ,if_neg (by omega),nZ]
 ·by_cases e2:m=hi
  ·subst e2
   rw [nT (by omega),if_pos (by omega),nT (by omega)]
  ·show (if m=lo then a else if m=hi then b else if (lo+hi) / 2<=m then _ else _)=_
   rw [if_neg e1,if_neg e2]
structure Jj (j:Nat)(lo hi:Nat)(a b:Nat × Nat):Prop where
 h:hi=lo+2 ^ j
 da:hI a
 db:hI b
 la:rC a.1 a.2
 lb:rC b.1 b.2
 c:nd 64 a b (cTj j)
theorem Li:∀ (j lo hi f:Nat) (a b:Nat × Nat),j < 20->Jj j lo hi a b->j<=f ->
  (∀ m,lo<=m->m<=hi->nd 448 (eL m (f+1) lo hi a b) a (45056*((m:Int) - lo)+GTj j)/\nd 448 (eL m (f+1) lo hi a b) b (45056*((hi:Int) - m)+GTj j)) /\
  (∀ p q,lo<=p->p<=q->q<=hi->nd 448 (eL p (f+1) lo hi a b) (eL q (f+1) lo hi a b) (45056*((q:Int) - p)+2*GTj j)):=by
 intro j
 induction j with
 | zero=>
  intro lo hi f a b _ h _
  have hh:=h.h
  rw [Nat.pow_zero] at hh
  have hc:=al4 h.c
  have h0:7*cTj 0<=45056+GTj 0/\0<=GTj 0:=by decide
  have hab:nd 448 a b (45056+GTj 0):=ba hc h0.1
  constructor
  ·intro m h1 h2
   by_cases e:m=lo
   ·subst e
    rw [nZ]
    exact⟨D2 (by omega),ba hab (by omega)⟩
   ·have e2:m=hi:=by omega
    subst e2
    rw [nT (by omega)]
    exact⟨ba (Fu hab) (by omega),D2 (by omega)⟩
  ·intro p q h1 h2 h3
   by_cases e:p=q
   ·subst e;exact D2 (by omega)
   ·have e1:p=lo:=by omega
    have e2:q=hi:=by omega
    subst e1;subst e2
    rw [nZ,nT (by omega)]
    exact ba hab (by omega)
 | succ j ih=>
  intro lo hi f a b hj h hf
  obtain⟨f,rfl⟩:∃ z,f=z+1:=⟨f - 1,by omega⟩
  have hh:=h.h
  rw [Nat.pow_succ] at hh
  have ht:=UY ⟨j,by omega⟩
  unfold aix at ht
  simp only [Bool.and_eq_true] at ht
  obtain⟨ho,ht⟩:=ht
  obtain⟨t1,t2,t3⟩:=of_decide_eq_true ht
  obtain⟨ld,c1,c2⟩:=Ha h.da h.db h.la h.lb h.c ho
  have dd:=qE h.da h.db
  have hp:=Nat.two_pow_pos j
  have hmid:(lo+hi) / 2=lo+2 ^ j:=by omega
  have hcast:(2:Int) ^ j=((2 ^ j:Nat):Int):=by push_cast;rfl
  rw [hcast] at t2
  have hcut:∀ m,lo<=m->m<=hi->eL m (f+2) lo hi a b=if lo+2 ^ j<=m then eL m (f+1) (lo+2 ^ j) hi (btw a b) b else eL m (f+1) lo (lo+2 ^ j) a (btw a b):=by
   intro m h1 h2
   rw [Cd (by omega) h1 h2,hmid]
  obtain⟨l1,l2⟩:=ih lo (lo+2 ^ j) f a (btw a b) (by omega) ⟨rfl,h.da,dd,h.la,ld,c1⟩ (by omega)
  obtain⟨r1,r2⟩:=ih (lo+2 ^ j) hi f (btw a b) b (by omega) ⟨by omega,dd,h.db,ld,h.lb,c2⟩ (by omega)
  have c1':=al4 c1
  have c2':=al4 c2
  generalize 2 ^ j=w at *
  constructor
  ·intro m h1 h2
   rw [hcut m h1 h2]
   by_cases hm:lo+w<=m
   ·rw [if_pos hm]
    obtain⟨k1,k2⟩:=r1 m hm h2
    exact⟨Jt k1 (Fu c1') (by push_cast;omega),ba k2 (by push_cast;omega)⟩
   ·rw [if_neg hm]
    obtain⟨k1,k2⟩:=l1 m h1 (by omega)
    exact⟨ba k1 (by omega),Jt k2 c2' (by push_cast;omega)⟩
  ·intro p q h1 h2 h3
   rw [hcut p h1 (by omega),hcut q (by omega) h3]
   by_cases hp':lo+w<=p
   ·rw [if_pos hp',if_pos (show lo+w<=q by omega)]
    exact ba (r2 p q hp' h2 h3) (by omega)
   ·rw [if_neg hp']
    by_cases hq:lo+w<=q
    ·rw [if_pos hq]
     exact Jt (l1 p h1 (by omega)).2 (Fu (r1 q hq h3).1) (by push_cast;omega)
    ·rw [if_neg hq]
     exact ba (l2 p q h1 h2 (by omega)) (by omega)
theorem yx:Jj 19 0 524288 (67108864,0) (47453132,47453132):=
 ⟨by decide,⟨by simp,by simp,by simp⟩,⟨by simp,by simp,by simp⟩,⟨by decide,by decide⟩,⟨by decide,by decide⟩,⟨by decide,by decide⟩⟩
theorem sE {m:Nat}(h:m<=524288):nd 448 (fir m) (67108864,0) (45056*(m:Int)+8112)/\nd 448 (fir m) (47453132,47453132) (45056*(524288 - (m:Int))+8112):=by
 obtain⟨k1,k2⟩:=(Li 19 0 524288 19 (67108864,0) (47453132,47453132) (by decide) yx (by decide)).1 m (Nat.zero_le _) h
 exact⟨ba k1 (by rw [show GTj 19=8112 by decide];omega),ba k2 (by rw [show GTj 19=8112 by decide];omega)⟩
theorem Ot {p q:Nat}(h1:p<=q)(h2:q<=524288):nd 448 (fir p) (fir q) (45056*((q:Int) - p)+16224):=
 ba ((Li 19 0 524288 19 (67108864,0) (47453132,47453132) (by decide) yx (by decide)).2 p q (Nat.zero_le _) h1 h2) (by rw [show GTj 19=8112 by decide];omega)
end Go.AM.K

namespace Go.AM.K
open Go.AM
set_option linter.unusedVariables false
set_option linter.unusedSimpArgs false
theorem aeU:∀ (j lo hi f m:Nat) (a b:Nat × Nat),j < 20->Jj j lo hi a b->j<=f->lo<=m->m<=hi->rC (eL m (f+1) lo hi a b).1 (eL m (f+1) lo hi a b).2:=by
 intro j
 induction j with
 | zero=>
  intro lo hi f m a b _ h _ h1 h2
  have hh:=h.h
  rw [Nat.pow_zero] at hh
  by_cases e:m=lo
  ·subst e;rw [nZ];exact h.la
  ·have e2:m=hi:=by omega
   subst e2
   rw [nT (by omega)];exact h.lb
 | succ j ih=>
  intro lo hi f m a b hj h hf h1 h2
  obtain⟨f,rfl⟩:∃ z,f=z+1:=⟨f - 1,by omega⟩
  have hh:=h.h
  rw [Nat.pow_succ] at hh
  have ht:=UY ⟨j,by omega⟩
  unfold aix at ht
  simp only [Bool.and_eq_true] at ht
  obtain⟨ld,c1,c2⟩:=Ha h.da h.db h.la h.lb h.c ht.1
  have dd:=qE h.da h.db
  have hp:=Nat.two_pow_pos j
  have hmid:(lo+hi) / 2=lo+2 ^ j:=by omega
  rw [Cd (by omega) h1 h2,hmid]
  by_cases hm:lo+2 ^ j<=m
  ·rw [if_pos hm]
   exact ih (lo+2 ^ j) hi f m (btw a b) b (by omega) ⟨by omega,dd,h.db,ld,h.lb,c2⟩ (by omega) hm h2
  ·rw [if_neg hm]
   exact ih lo (lo+2 ^ j) f m a (btw a b) (by omega) ⟨rfl,h.da,dd,h.la,ld,c1⟩ (by omega) h1 (by omega)
theorem T0 {m:Nat}(h:m<=524288):rC (fir m).1 (fir m).2:=aeU 19 0 524288 19 m (67108864,0) (47453132,47453132) (by decide) yx (by decide) (Nat.zero_le _) h
def ndI (p q:Int × Int)(r:Int):Prop:=nle (448*(p.1 - q.1)) (448*(p.2 - q.2)) r
theorem xY {p q s:Int × Int}{r t u:Int}(h1:ndI p q r)(h2:ndI q s t)(h:r+t<=u):ndI p s u:=
 ba (ch (eH h1 h2) (by rw [<- Int.mul_add];congr 1;omega) (by rw [<- Int.mul_add];congr 1;omega)) h
theorem wW {p q:Int × Int}{r:Int}(h:ndI p q r):ndI q p r:=WM h
theorem nW {a b c d r:Int}(h:ndI (a,b) (c,d) r):ndI (b,a) (d,c) r:=⟨h.1,by have:=h.2;simp only at this ⊢;omega⟩
theorem Cb {p:Nat}(h:p<=1048576):ndI (gJ p) (67108864,0) (45056*(p:Int)+8112)/\ndI (gJ p) (0,67108864) (45056*(1048576 - (p:Int))+8112):=by
 have hx:ndI (47453132,47453132) (67108864,0) 23010579382:=⟨by decide,by decide⟩
 have hy:ndI (47453132,47453132) (0,67108864) 23010579382:=⟨by decide,by decide⟩
 unfold gJ
 by_cases c:524288 < p
 ·rw [if_pos c]
  obtain⟨k1,k2⟩:=sE (m:=1048576 - p) (by omega)
  have k1':ndI (((fir (1048576 - p)).1:Int),((fir (1048576 - p)).2:Int)) (67108864,0) (45056*((1048576 - p:Nat):Int)+8112):=k1
  have k2':ndI (((fir (1048576 - p)).1:Int),((fir (1048576 - p)).2:Int)) (47453132,47453132) (45056*(524288 - ((1048576 - p:Nat):Int))+8112):=k2
  exact⟨xY (nW k2') hx (by omega),ba (nW k1') (by omega)⟩
 ·rw [if_neg c]
  obtain⟨k1,k2⟩:=sE (m:=p) (by omega)
  have k1':ndI (((fir p).1:Int),((fir p).2:Int)) (67108864,0) (45056*(p:Int)+8112):=k1
  have k2':ndI (((fir p).1:Int),((fir p).2:Int)) (47453132,47453132) (45056*(524288 - (p:Int))+8112):=k2
  exact⟨k1',xY k2' hy (by omega)⟩
theorem Uv {p q:Nat}(h1:p<=q)(h2:q<=1048576):ndI (gJ p) (gJ q) (45056*((q:Int) - p)+16224):=by
 unfold gJ
 by_cases c:524288 < p
 ·rw [if_pos c,if_pos (show 524288 < q by omega)]
  have k:ndI (((fir (1048576 - q)).1:Int),((fir (1048576 - q)).2:Int)) (((fir (1048576 - p)).1:Int),((fir (1048576 - p)).2:Int)) _:=Ot (p:=1048576 - q) (q:=1048576 - p) (by omega) (by omega)
  exact ba (wW (nW k)) (by omega)
 ·rw [if_neg c]
  by_cases c2:524288 < q
  ·rw [if_pos c2]
   have k1:ndI (((fir p).1:Int),((fir p).2:Int)) (47453132,47453132) (45056*(524288 - (p:Int))+8112):=(sE (m:=p) (by omega)).2
   have k2:ndI (((fir (1048576 - q)).1:Int),((fir (1048576 - q)).2:Int)) (47453132,47453132) (45056*(524288 - ((1048576 - q:Nat):Int))+8112):=(sE (m:=1048576 - q) (by omega)).2
   exact xY k1 (wW (nW k2)) (by omega)
  ·rw [if_neg c2]
   exact Ot h1 (by omega)
def rt (k:Int)(p:Int × Int):Int × Int:=if k % 4=0 then p else if k % 4=1 then pB p else if k % 4=2 then pF p else pF (pB p)
theorem KM {p q:Int × Int}{r:Int}(h:ndI p q r):ndI (pB p) (pB q) r:=by
 have h1:=nW (a:=p.1) (b:=p.2) (c:=q.1) (d:=q.2) h
 refine⟨h1.1,?_⟩
 have:=h1.2
 unfold pB
 simp only at this ⊢
 have e:448*(-p.2 - -q.2)*(448*(-p.2 - -q.2))=448*(p.2 - q.2)*(448*(p.2 - q.2)):=by grind
 omega
theorem L7 {p q:Int × Int}{r:Int}(h:ndI p q r):ndI (pF p) (pF q) r:=
 ch (gz h) (by unfold pF;simp only;omega) (by unfold pF;simp only;omega)
theorem Zc {k:Int}{p q:Int × Int}{r:Int}(h:ndI p q r):ndI (rt k p) (rt k q) r:=by
 unfold rt
 split
 ·exact h
 ·split
  ·exact KM h
  ·split
   ·exact L7 h
   ·exact L7 (KM h)
theorem Mh (k:Int):rt (k+1) (67108864,0)=rt k (0,67108864):=by
 have h:k % 4=0\/k % 4=1\/k % 4=2\/k % 4=3:=by omega
 unfold rt
 rcases h with h | h | h | h
 ·rw [if_neg (by omega),if_pos (by omega),if_pos h];rfl
 ·rw [if_neg (by omega),if_neg (by omega),if_pos (by omega),if_neg (by omega),if_pos h];rfl
 ·rw [if_neg (by omega),if_neg (by omega),if_neg (by omega),if_neg (by omega),if_neg (by omega),if_pos h];rfl
 ·rw [if_pos (by omega),if_neg (by omega),if_neg (by omega),if_neg (by omega)];rfl
theorem UR:gJ 0=(67108864,0):=by decide +kernel
theorem ajY:gJ 1048576=(0,67108864):=by decide +kernel
theorem P0 {K:Int}{t:Nat}(h:t < 1048576):dir (1048576*K+t)=rt K (gJ t):=by
 have hk:K % 4=0\/K % 4=1\/K % 4=2\/K % 4=3:=by omega
 unfold dir rt
 rcases hk with hk | hk | hk | hk
 ·rw [show ((1048576*K+(t:Int)) % 4194304).toNat=t by omega]
  simp only
  rw [if_neg (by omega),if_neg (by omega),if_pos hk]
 ·rw [show ((1048576*K+(t:Int)) % 4194304).toNat=t+1048576 by omega]
  simp only
  rw [if_neg (by omega),if_pos (by omega),if_neg (by omega),if_pos hk,Nat.add_sub_cancel]
 ·rw [show ((1048576*K+(t:Int)) % 4194304).toNat=t+2097152 by omega]
  simp only
  rw [if_pos (by omega),if_neg (by omega),if_neg (by omega),if_neg (by omega),if_pos hk,Nat.add_sub_cancel]
 ·rw [show ((1048576*K+(t:Int)) % 4194304).toNat=t+3145728 by omega]
  simp only
  rw [if_pos (by omega),if_pos (by omega),if_neg (by omega),if_neg (by omega),if_neg (by omega),show t+3145728 - 2097152 - 1048576=t by omega]
theorem ui {K:Int}{t:Nat}(h:t<=1048576):dir (1048576*K+t)=rt K (gJ t):=by
 by_cases c:t < 1048576
 ·exact P0 c
 ·have e:t=1048576:=by omega
  subst e
  rw [ajY,<- Mh,<- UR,<- P0 (by decide)]
  congr 1
  omega
theorem NH {p q:Int}(h:p<=q)(h2:q<=p+1048576):ndI (dir p) (dir q) (45056*(q - p)+16224):=by
 obtain⟨K,t,hp,ht⟩:∃ (K:Int) (t:Nat),p=1048576*K+t/\t < 1048576:=⟨p / 1048576,(p % 1048576).toNat,by omega,by omega⟩
 subst hp
 by_cases c:q<=1048576*(K+1)
 ·obtain⟨s,hs,hs2⟩:∃ s:Nat,q=1048576*K+s/\s<=1048576:=⟨(q - 1048576*K).toNat,by omega,by omega⟩
  subst hs
  rw [ui (by omega),ui hs2]
  exact ba (Zc (Uv (by omega) hs2)) (by omega)
 ·obtain⟨s,hs,hs2⟩:∃ s:Nat,q=1048576*(K+1)+s/\s<=1048576:=⟨(q - 1048576*(K+1)).toNat,by omega,by omega⟩
  subst hs
  rw [ui (by omega),ui hs2]
  have k1:=Zc (k:=K) (Cb (p:=t) (by omega)).2
  have k2:=Zc (k:=K+1) (Cb (p:=s) hs2).1
  rw [Mh] at k2
  exact xY k1 (wW k2) (by omega)
theorem agF {t:Nat}(h:t<=1048576):rC (gJ t).1 (gJ t).2:=by
 unfold gJ
 by_cases c:524288 < t
 ·rw [if_pos c]
  have k:=T0 (m:=1048576 - t) (by omega)
  exact⟨by have:=k.1;simp only;omega,by have:=k.2;simp only;omega⟩
 ·rw [if_neg c];exact T0 (by omega)
theorem UO (m:Int):rC (dir m).1 (dir m).2:=by
 obtain⟨K,t,hp,ht⟩:∃ (K:Int) (t:Nat),m=1048576*K+t/\t < 1048576:=⟨m / 1048576,(m % 1048576).toNat,by omega,by omega⟩
 rw [hp,ui (by omega)]
 have k:=agF (t:=t) (by omega)
 have n1:∀ x:Int,-x*-x=x*x:=fun x=>Int.neg_mul_neg x x
 unfold rt pF pB
 split
 ·exact k
 ·split
  ·exact⟨by have:=k.1;simp only [n1];omega,by have:=k.2;simp only [n1];omega⟩
  ·split
   ·exact⟨by have:=k.1;simp only [n1];omega,by have:=k.2;simp only [n1];omega⟩
   ·exact⟨by have:=k.1;simp only [n1,Int.neg_neg];omega,by have:=k.2;simp only [n1,Int.neg_neg];omega⟩
theorem aq6 (K:Int):dir (1048576*K)=rt K (67108864,0):=by
 have:=ui (K:=K) (t:=0) (by decide)
 rw [UR] at this
 rw [<- this]
 congr 1
 exact (Int.add_zero _).symm
structure Zq where
 p:Int
 q:Int
 d:Int
 h:0 < d
def Zq.In (b:Bl)(z:Zq):Prop:=nle (z.d*b.b.1 - z.p*1048576) (z.d*b.b.2.1 - z.q*1048576) (z.d*b.b.2.2)
def iH (m:Int):Zq:=if (dir m).1*(dir m).1+(dir m).2*(dir m).2<=67108864*67108864 then ⟨(dir m).1,(dir m).2,67108864,by decide⟩ else ⟨(dir m).1,(dir m).2,67108865,by decide⟩
theorem YE (m:Int):(iH m).p*(iH m).p+(iH m).q*(iH m).q<=(iH m).d*(iH m).d:=by
 have k:=(UO m).2
 unfold iH
 split
 ·assumption
 ·exact k
theorem alv {lo hi a:Int}(h1:lo<=a)(h2:a<=hi)(h3:hi - lo < 1048576)(h:(Gb lo hi).2=0):Zq.In (Gb lo hi).1 (iH a):=by
 unfold Gb at *
 by_cases hk:ckE lo hi (-1099511627776)=0
 ·rw [if_pos hk] at h ⊢
  obtain⟨e,hok⟩:=iC h
  unfold Zq.In
  rw [e]
  unfold Mb.arcX Mb.arcY Mb.arcR
  simp only
  by_cases c:lo=hi/\lo % 1048576=0
  ·obtain⟨c1,c2⟩:=c
   rw [if_pos ⟨c1,c2⟩]
   subst c1
   have ea:a=lo:=by omega
   subst ea
   obtain⟨K,hK⟩:∃ K,a=1048576*K:=⟨a / 1048576,by omega⟩
   have em:(a+a) / 2=a:=by omega
   rw [em]
   unfold iH
   rw [hK,aq6]
   unfold rt pF pB
   split
   ·exact⟨by decide,by decide⟩
   ·split
    ·exact⟨by decide,by decide⟩
    ·split
     ·exact⟨by decide,by decide⟩
     ·exact⟨by decide,by decide⟩
  ·rw [if_neg c]
   have hm1:lo<=(lo+hi) / 2:=by omega
   have hm2:(lo+hi) / 2<=hi:=by omega
   have hm3:(lo+hi) / 2 - lo<=hi - (lo+hi) / 2:=by omega
   generalize hm:(lo+hi) / 2=m at *
   obtain⟨k,hk⟩:∃ k,k=hi - m:=⟨_,rfl⟩
   rw [<- hk]
   have lip:ndI (dir m) (dir a) (45056*k+16224):=by
    by_cases c:m<=a
    ·exact ba (NH c (by omega)) (by omega)
    ·exact ba (wW (NH (p:=a) (q:=m) (by omega) (by omega))) (by omega)
   have hR:11*k<=7*cdv (11*k) 7:=by unfold cdv;omega
   have hD:∃ D:Int,(D=67108864\/D=67108865)/\(iH a).d=D/\(iH a).p=(dir a).1/\(iH a).q=(dir a).2/\nle ((D - 67108864)*(dir a).1) ((D - 67108864)*(dir a).2) D:=by
    unfold iH
    split
    ·exact⟨67108864,.inl rfl,rfl,rfl,rfl,ch (mw (by decide)) (by omega) (by omega)⟩
    ·refine⟨67108865,.inr rfl,rfl,rfl,rfl,ch (a:=(dir a).1) (b:=(dir a).2) ⟨by decide,(UO a).2⟩ (by omega) (by omega)⟩
   obtain⟨D,hD1,e1,e2,e3,hn⟩:=hD
   rw [e1,e2,e3]
   have hr1:nle (64*rdv (dir m).1 64 - (dir m).1) (64*rdv (dir m).2 64 - (dir m).2) 46:=by
    have p1:-32<=64*rdv (dir m).1 64 - (dir m).1/\64*rdv (dir m).1 64 - (dir m).1<=32:=by unfold rdv;omega
    have p2:-32<=64*rdv (dir m).2 64 - (dir m).2/\64*rdv (dir m).2 64 - (dir m).2<=32:=by unfold rdv;omega
    have m1:=dg p1.1 p1.2 p1.1 p1.2
    have m2:=dg p2.1 p2.2 p2.1 p2.2
    exact⟨by decide,by omega⟩
   generalize rdv (dir m).1 64=x at *
   generalize rdv (dir m).2 64=y at *
   generalize cdv (11*k) 7=R at *
   have s1:=bo (448*D) hr1
   have s2:=bo D lip
   have s3:=bo 448 hn
   rw [show (((448*D).natAbs:Nat):Int)=448*D by omega] at s1
   rw [show ((D.natAbs:Nat):Int)=D by omega] at s2
   have s:=eH (eH s1 s2) s3
   have hk0:0<=k:=by omega
   refine pm (k:=28672) (by decide) (Int.mul_nonneg (by omega) (by omega)) (ba (ch s ?_ ?_) ?_)
   ·grind
   ·grind
   ·rcases hD1 with rfl | rfl <;> omega
 ·rw [if_neg hk] at h;exact absurd h hk
end Go.AM.K
