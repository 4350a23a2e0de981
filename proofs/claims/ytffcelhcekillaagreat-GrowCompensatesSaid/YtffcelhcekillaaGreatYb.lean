/- Texts of one kind, put together. -/
import Derived.Test.YtffcelhcekillaaGreatYa
namespace Go.AM.K
set_option linter.unusedVariables false
set_option linter.unusedSimpArgs false
variable {α:Type}
abbrev aed:ByteArray:=⟨#[0,1,2,2,3,3,3,3,4,4,4,4,4,4,4,4,5,5,5,5,5,5,5,5,5,5,5,5,5,5,5,5,6,6,6,6,6,6,6,6,6,6,6,6,6,6,6,6,6,6,6,6,6,6,6,6,6,6,6,6,6,6,6,6,7,7,7,7,7,7,7,7,7,7,7,7,7,7,7,7,7,7,7,7,7,7,7,7,7,7,7,7,7,7,7,7,7,7,7,7,7,7,7,7,7,7,7,7,7,7,7,7,7,7,7,7,7,7,7,7,7,7,7,7,7,7,7,7,8,8,8,8,8,8,8,8,8,8,8,8,8,8,8,8,8,8,8,8,8,8,8,8,8,8,8,8,8,8,8,8,8,8,8,8,8,8,8,8,8,8,8,8,8,8,8,8,8,8,8,8,8,8,8,8,8,8,8,8,8,8,8,8,8,8,8,8,8,8,8,8,8,8,8,8,8,8,8,8,8,8,8,8,8,8,8,8,8,8,8,8,8,8,8,8,8,8,8,8,8,8,8,8,8,8,8,8,8,8,8,8,8,8,8,8,8,8,8,8,8,8,8,8,8,8,8,8]⟩
def avT (x:Nat):Bool:=match aed[x]? with
 | some b=>decide (1<=x->1<=b.toNat/\b.toNat<=8/\2 ^ (b.toNat - 1)<=x/\x < 2 ^ b.toNat)
 | none=>false
theorem an1:∀ x:Fin 256,avT x.val=true:=by decide +kernel
theorem aLa {x:Int}(h1:1<=x)(h2:x < 256):∃ t:Nat,1<=t/\t<=8/\2 ^ (t - 1)<=x.toNat/\x.toNat < 2 ^ t/\∀ {α:Type} (f:UInt8->Option α) (k:Int->Option α),(∀ b:UInt8,b.toNat=t->f b=k t)->nH aed (IntKind.wrap .u8 x) f=k t:=by
 have h:=an1 ⟨x.toNat,by omega⟩;have hw:IntKind.wrap .u8 x=x:=by
  have:IntKind.wrap .u8 x=x % 256:=by simp [IntKind.wrap,IntKind.signed,IntKind.bits]
  rw [this];exact Int.emod_eq_of_lt (by omega) h2
 unfold avT at h;split at h
 ·rename_i b hb
  obtain⟨a1,a2,a3,a4⟩:=of_decide_eq_true h (by show 1<=x.toNat;omega);refine⟨b.toNat,a1,a2,a3,a4,fun f k hf=>?_⟩;unfold nH;rw [hw,if_pos (by omega)];have hb':aed[x.toNat]?=some b:=hb;rw [hb'];exact hf b rfl
 ·cases h
theorem OU {a t:Nat}(ht:1<=t):2 ^ (a+t - 1)=2 ^ a*2 ^ (t - 1)/\2 ^ (a+t)=2 ^ a*2 ^ t:=by
 refine⟨?_,Nat.pow_add 2 a t⟩;rw [<- Nat.pow_add];congr 1;omega
theorem acT {y:Int}(h0:0<=y){a:Nat}(ha:a<=56)(h1:1<=y / 2 ^ a)(h2:y / 2 ^ a < 256):∃ L:Nat,1<=L/\L<=64/\2 ^ (L - 1)<=y.toNat/\y.toNat < 2 ^ L /\
  ∀ {α:Type} (k:Int->Option α),nH aed (IntKind.wrap .u8 (y / 2 ^ a)) (fun x=>k (w64 ((a:Int)+w64 ((x.toNat:Nat):Int))))=k (L:Int):=by
 obtain⟨t,t1,t2,t3,t4,t5⟩:=aLa h1 h2;obtain⟨p1,p2⟩:=OU (a:=a) t1;obtain⟨n,rfl⟩:=Int.eq_ofNat_of_zero_le h0;have e:((n:Int) / 2 ^ a).toNat=n / 2 ^ a:=by
  have:((n:Int) / 2 ^ a)=((n / 2 ^ a:Nat):Int):=by push_cast;rfl
  rw [this];rfl
 rw [e] at t3 t4;have hp:0 < 2 ^ a:=Nat.two_pow_pos a;refine⟨a+t,by omega,by omega,?_,?_,fun k=>?_⟩
 ·rw [p1]
  show _<=n
  calc 2 ^ a*2 ^ (t - 1)<=2 ^ a*(n / 2 ^ a):=Nat.mul_le_mul_left _ t3
   _<=n:=Nat.mul_div_le n _
 ·rw [p2,Nat.mul_comm]
  exact (Nat.div_lt_iff_lt_mul hp).1 t4
 ·refine t5 _ (fun z=>k ((a:Int)+z)) (fun b hb=>?_) |>.trans ?_
  ·show k (w64 ((a:Int)+w64 ((b.toNat:Nat):Int)))=_
   rw [hb,aj (n:=(t:Int)) (by omega) (by omega),aj (by omega) (by omega)]
  ·congr 1
theorem zm {n:Int}{a:Nat}:Int.fdiv n (2 ^ a)=n / 2 ^ a:=Int.fdiv_eq_ediv_of_nonneg n (Int.le_of_lt (Int.pow_pos (by decide)))
section
variable {x c:Int}{p q r s:Int->Int->Option α}{p0:Int->Option α}{z:Bool->Option α}
theorem Ix (h:4294967296<=x):jU α x p0 z=p0 (x / 4294967296):=by
 simp only [jU,af,ye,zm];rw [decide_eq_true h,ap];rfl
theorem KG (h:¬ 4294967296<=x):jU α x p0 z=z false:=by
 simp only [jU,af,ye];rw [decide_eq_false h,al]
theorem ag2 (hc:0<=c/\c<=100)(h:65536<=x):dS α x c p z=p (x / 65536) (c+16):=by
 simp only [dS,af,mn,zm];rw [decide_eq_true h,ap,aj (by omega) (by omega)];rfl
theorem aeX (h:¬ 65536<=x):dS α x c p z=z false:=by
 simp only [dS,af,mn];rw [decide_eq_false h,al]
theorem FG (hc:0<=c/\c<=100)(h:65536<=x):dS α x c p z=p (x / 65536) (c+16):=by
 simp only [dS,af,mn,zm];rw [decide_eq_true h,ap,aj (by omega) (by omega)];rfl
theorem GK (h:¬ 65536<=x):dS α x c p z=z false:=by
 simp only [dS,af,mn];rw [decide_eq_false h,al]
theorem ae1 (hc:0<=c/\c<=100)(h:256<=x):dg α x c p z=p (x / 256) (c+8):=by
 simp only [dg,af,md,zm];rw [decide_eq_true h,ap,aj (by omega) (by omega)];rfl
theorem agb (h:¬ 256<=x):dg α x c p z=z false:=by
 simp only [dg,af,md];rw [decide_eq_false h,al]
theorem FO (hc:0<=c/\c<=100)(h:256<=x):dg α x c p z=p (x / 256) (c+8):=by
 simp only [dg,af,md,zm];rw [decide_eq_true h,ap,aj (by omega) (by omega)];rfl
theorem GA (h:¬ 256<=x):dg α x c p z=z false:=by
 simp only [dg,af,md];rw [decide_eq_false h,al]
end
theorem ar0 {y:Int}(h1:1<=y)(h2:y < 18446744073709551616):∃ L:Nat,1<=L/\L<=64/\2 ^ (L - 1)<=y.toNat/\y.toNat < 2 ^ L/\∀ {α:Type} (k:Int->Option α),gW α y k=k (L:Int):=by
 have fin:∀ (a:Nat) (z:Int),a<=56->z=y / 2 ^ a->1<=z->z < 256->(∀ {α:Type} (k:Int->Option α),gW α y k=nH aed (IntKind.wrap .u8 z) (fun x=>k (w64 ((a:Int)+w64 ((x.toNat:Nat):Int))))) ->
   ∃ L:Nat,1<=L/\L<=64/\2 ^ (L - 1)<=y.toNat/\y.toNat < 2 ^ L/\∀ {α:Type} (k:Int->Option α),gW α y k=k (L:Int):=by
  intro a z ha hz h3 h4 hk;subst hz;obtain⟨L,l1,l2,l3,l4,l5⟩:=acT (y:=y) (by omega) ha h3 h4;exact⟨L,l1,l2,l3,l4,fun k=>(hk k).trans (l5 k)⟩
 by_cases c0:4294967296<=y
 ·by_cases c1:65536<=y / 4294967296
  ·by_cases c2:256<=y / 4294967296 / 65536
   ·exact fin 56 (y / 4294967296 / 65536 / 256) (by omega) (by simp only [Nat.reducePow,Int.reducePow] <;> omega) (by omega) (by omega) fun k=>by rw [gW,af,iO,Ix c0,ag2 ⟨by omega,by omega⟩ c1,ae1 ⟨by omega,by omega⟩ c2];rfl
   ·exact fin 48 (y / 4294967296 / 65536) (by omega) (by simp only [Nat.reducePow,Int.reducePow] <;> omega) (by omega) (by omega) fun k=>by rw [gW,af,iO,Ix c0,ag2 ⟨by omega,by omega⟩ c1,agb c2];rfl
  ·by_cases c2:256<=y / 4294967296
   ·exact fin 40 (y / 4294967296 / 256) (by omega) (by simp only [Nat.reducePow,Int.reducePow] <;> omega) (by omega) (by omega) fun k=>by rw [gW,af,iO,Ix c0,aeX c1,FO ⟨by omega,by omega⟩ c2];rfl
   ·exact fin 32 (y / 4294967296) (by omega) (by simp only [Nat.reducePow,Int.reducePow] <;> omega) (by omega) (by omega) fun k=>by rw [gW,af,iO,Ix c0,aeX c1,GA c2];rfl
 ·by_cases c1:65536<=y
  ·by_cases c2:256<=y / 65536
   ·exact fin 24 (y / 65536 / 256) (by omega) (by simp only [Nat.reducePow,Int.reducePow] <;> omega) (by omega) (by omega) fun k=>by rw [gW,af,iO,KG c0,FG ⟨by omega,by omega⟩ c1,ae1 ⟨by omega,by omega⟩ c2];rfl
   ·exact fin 16 (y / 65536) (by omega) (by simp only [Nat.reducePow,Int.reducePow] <;> omega) (by omega) (by omega) fun k=>by rw [gW,af,iO,KG c0,FG ⟨by omega,by omega⟩ c1,agb c2];rfl
  ·by_cases c2:256<=y
   ·exact fin 8 (y / 256) (by omega) (by simp only [Nat.reducePow,Int.reducePow] <;> omega) (by omega) (by omega) fun k=>by rw [gW,af,iO,KG c0,GK c1,FO ⟨by omega,by omega⟩ c2];rfl
   ·exact fin 0 y (by omega) (by simp only [Nat.reducePow,Int.reducePow] <;> omega) (by omega) (by omega) fun k=>by rw [gW,af,iO,KG c0,GK c1,GA c2];rfl
theorem asL {y:Int}(h1:1<=y)(h2:y < 18446744073709551616):∃ s:Nat,s<=63/\9223372036854775808<=y*2 ^ s/\y*2 ^ s < 18446744073709551616/\∀ {α:Type} (k:Int->Option α),Ci α y k=k (s:Int):=by
 obtain⟨L,l1,l2,l3,l4,l5⟩:=ar0 h1 h2;obtain⟨n,rfl⟩:=Int.eq_ofNat_of_zero_le (show 0<=y by omega);have l3:2 ^ (L - 1)<=n:=l3;have l4:n < 2 ^ L:=l4;refine⟨64 - L,by omega,?_,?_,fun k=>?_⟩
 ·have:2 ^ (L - 1)*2 ^ (64 - L)<=n*2 ^ (64 - L):=Nat.mul_le_mul_right _ l3
  rw [<- Nat.pow_add,show L - 1+(64 - L)=63 by omega,show (2:Nat) ^ 63=9223372036854775808 from rfl] at this;rw [show (n:Int)*2 ^ (64 - L)=((n*2 ^ (64 - L):Nat):Int) by push_cast;rfl];generalize n*2 ^ (64 - L)=z at *;omega
 ·have:n*2 ^ (64 - L) < 2 ^ L*2 ^ (64 - L):=Nat.mul_lt_mul_of_pos_right l4 (Nat.two_pow_pos _)
  rw [<- Nat.pow_add,show L+(64 - L)=64 by omega,show (2:Nat) ^ 64=18446744073709551616 from rfl] at this;rw [show (n:Int)*2 ^ (64 - L)=((n*2 ^ (64 - L):Nat):Int) by push_cast;rfl];generalize n*2 ^ (64 - L)=z at *;omega
 ·simp only [Ci,af,Qs]
  rw [l5,aj (by omega) (by omega)];congr 1;omega
section
variable {a b d U:Int}
theorem Q9 (ha:2147483648<=a)(hb:0<=b)(hd:0<=d/\d < 4294967296)(hU:0<=U)(hUV:U < a*4294967296+b) :
  0<=(U*4294967296+d) / (a*4294967296+b)/\(U*4294967296+d) / (a*4294967296+b) < 4294967296:=by
 refine⟨Int.ediv_nonneg (by omega) (by omega),?_⟩;exact Int.ediv_lt_of_lt_mul (by omega) (by omega)
theorem avf {q r:Int}(ha:2147483648<=a)(hb:0<=b)(hq:q*a+r=U)(h:4294967296*r+d < q*b):(U*4294967296+d) / (a*4294967296+b) < q:=by
 refine Int.ediv_lt_of_lt_mul (by omega) ?_;have:q*(a*4294967296+b)=(q*a)*4294967296+q*b:=by grind
 rw [this];generalize q*a=x at *;generalize q*b=y at *;omega
theorem Tp {q r:Int}(ha:2147483648<=a)(hb:0<=b)(hq:q*a+r=U)(h:q*b<=4294967296*r+d):q<=(U*4294967296+d) / (a*4294967296+b):=by
 refine Int.le_ediv_of_mul_le (by omega) ?_;have:q*(a*4294967296+b)=(q*a)*4294967296+q*b:=by grind
 rw [this];generalize q*a=x at *;generalize q*b=y at *;omega
end
section
variable {a b d U:Int}(ha:2147483648<=a/\a < 4294967296)(hb:0<=b/\b < 4294967296)(hd:0<=d/\d < 4294967296)(hU:0<=U)(hUV:U < a*4294967296+b)
include ha hb hd hU hUV
theorem afr {k1 k2:Int->Int->Bool->Option α}{Y:Option α}(h1:∀ r z,k1 ((U*4294967296+d) / (a*4294967296+b)) r z=Y)(h2:∀ r z,k2 ((U*4294967296+d) / (a*4294967296+b)) r z=Y) :
  ∀ (m n:Nat) (q r:Int),m < n->q*a+r=U->0<=r->r < 4294967296->4294967296<=r+m*2147483648->0<=q->(U*4294967296+d) / (a*4294967296+b)<=q->q<=4294967297->lw α a b d k1 k2 n q r=Y:=by
 have hQ:=Q9 ha.1 hb.1 hd hU hUV;generalize hQQ:(U*4294967296+d) / (a*4294967296+b)=Q at *;intro m
 induction m with
 | zero=>intro n q r hn hq hr hr2 hm;omega
 | succ m ih=>
  intro n q r hn hq hr hr2 hm hq0 hle hmax;obtain⟨n,rfl⟩:∃ n',n=n'+1:=⟨n - 1,by omega⟩
  rw [lw];simp only [t7,mp,af,Hb]
  -- what a round does
  have round:Q < q->cK (decide (4294967296<=IntKind.wrap .u64 (r+a))) (k1 (IntKind.wrap .u64 (q - 1)) (IntKind.wrap .u64 (r+a)) (decide (4294967296<=IntKind.wrap .u64 (r+a)))) (lw α a b d k1 k2 n (IntKind.wrap .u64 (q - 1)) (IntKind.wrap .u64 (r+a)))=Y:=by
   intro hlt;have eq1:(q - 1)*a+(r+a)=U:=by rw [Int.sub_mul];omega
   rw [eC (n:=r+a) (by omega) (by omega),eC (n:=q - 1) (by omega) (by omega)];by_cases hbr:4294967296<=r+a
   ·rw [decide_eq_true hbr,ap]
    have hz:(q - 1)*b<=4294967296*4294967295:=Int.mul_le_mul (by omega) (by omega) hb.1 (by omega);have:=Tp (a:=a) (b:=b) (d:=d) (U:=U) ha.1 hb.1 eq1 (by omega);rw [hQQ] at this;rw [show q - 1=Q by omega];exact h1 _ _
   ·rw [decide_eq_false hbr,al]
    exact ih n (q - 1) (r+a) (by omega) eq1 (by omega) (by omega) (by omega) (by omega) (by omega) (by omega)
  by_cases c1:4294967296<=q
  ·rw [decide_eq_true c1,ap]
   exact round (by omega)
  ·rw [decide_eq_false c1,al]
   have e1:IntKind.wrap .u64 (4294967296*r)=4294967296*r:=eC (by omega) (by omega);have hz:q*b<=4294967295*4294967295:=Int.mul_le_mul (by omega) (by omega) hb.1 (by omega);have hz0:0<=q*b:=Int.mul_nonneg hq0 hb.1;rw [e1,eC (n:=4294967296*r+d) (by omega) (by omega),eC (n:=q*b) hz0 (by omega)];by_cases c2:4294967296*r+d < q*b
   ·rw [decide_eq_true c2,ap]
    have:=avf ha.1 hb.1 hq c2;rw [hQQ] at this;exact round this
   ·rw [decide_eq_false c2,al]
    have:=Tp ha.1 hb.1 hq (show q*b<=4294967296*r+d by omega);rw [hQQ] at this;rw [show q=Q by omega];exact h2 _ _
theorem acX {k1 k2:Int->Int->Bool->Option α}{Y:Option α}(h1:∀ r z,k1 r ((U*4294967296+d) / (a*4294967296+b)) z=Y)(h2:∀ r z,k2 r ((U*4294967296+d) / (a*4294967296+b)) z=Y) :
  ∀ (m n:Nat) (q r:Int),m < n->q*a+r=U->0<=r->r < 4294967296->4294967296<=r+m*2147483648->0<=q->(U*4294967296+d) / (a*4294967296+b)<=q->q<=4294967297->lB α a b d k1 k2 n r q=Y:=by
 have hQ:=Q9 ha.1 hb.1 hd hU hUV;generalize hQQ:(U*4294967296+d) / (a*4294967296+b)=Q at *;intro m
 induction m with
 | zero=>intro n q r hn hq hr hr2 hm;omega
 | succ m ih=>
  intro n q r hn hq hr hr2 hm hq0 hle hmax;obtain⟨n,rfl⟩:∃ n',n=n'+1:=⟨n - 1,by omega⟩
  rw [lB];simp only [vX,lA,af,GL];have round:Q < q->cK (decide (4294967296<=IntKind.wrap .u64 (r+a))) (k1 (IntKind.wrap .u64 (r+a)) (IntKind.wrap .u64 (q - 1)) (decide (4294967296<=IntKind.wrap .u64 (r+a)))) (lB α a b d k1 k2 n (IntKind.wrap .u64 (r+a)) (IntKind.wrap .u64 (q - 1)))=Y:=by
   intro hlt;have eq1:(q - 1)*a+(r+a)=U:=by rw [Int.sub_mul];omega
   rw [eC (n:=r+a) (by omega) (by omega),eC (n:=q - 1) (by omega) (by omega)];by_cases hbr:4294967296<=r+a
   ·rw [decide_eq_true hbr,ap]
    have hz:(q - 1)*b<=4294967296*4294967295:=Int.mul_le_mul (by omega) (by omega) hb.1 (by omega);have:=Tp (a:=a) (b:=b) (d:=d) (U:=U) ha.1 hb.1 eq1 (by omega);rw [hQQ] at this;rw [show q - 1=Q by omega];exact h1 _ _
   ·rw [decide_eq_false hbr,al]
    exact ih n (q - 1) (r+a) (by omega) eq1 (by omega) (by omega) (by omega) (by omega) (by omega) (by omega)
  by_cases c1:4294967296<=q
  ·rw [decide_eq_true c1,ap]
   exact round (by omega)
  ·rw [decide_eq_false c1,al]
   have e1:IntKind.wrap .u64 (4294967296*r)=4294967296*r:=eC (by omega) (by omega);have hz:q*b<=4294967295*4294967295:=Int.mul_le_mul (by omega) (by omega) hb.1 (by omega);have hz0:0<=q*b:=Int.mul_nonneg hq0 hb.1;rw [e1,eC (n:=4294967296*r+d) (by omega) (by omega),eC (n:=q*b) hz0 (by omega)];by_cases c2:4294967296*r+d < q*b
   ·rw [decide_eq_true c2,ap]
    have:=avf ha.1 hb.1 hq c2;rw [hQQ] at this;exact round this
   ·rw [decide_eq_false c2,al]
    have:=Tp ha.1 hb.1 hq (show q*b<=4294967296*r+d by omega);rw [hQQ] at this;rw [show q=Q by omega];exact h2 _ _
theorem Do:(U / a)*a+U % a=U/\0<=U % a/\U % a < 4294967296/\0<=U / a/\(U*4294967296+d) / (a*4294967296+b)<=U / a/\U / a<=4294967297:=by
 have e:=Int.emod_add_mul_ediv U a;have e1:=Int.emod_nonneg U (show a ≠ 0 by omega);have e2:=Int.emod_lt_of_pos U (show 0 < a by omega);have e3:U / a*a=a*(U / a):=Int.mul_comm _ _;refine⟨by omega,e1,by omega,Int.ediv_nonneg hU (by omega),?_,?_⟩
 ·have:(U*4294967296+d) / (a*4294967296+b) < U / a+1:=by
   refine Int.ediv_lt_of_lt_mul (by omega) ?_;have:(U / a+1)*(a*4294967296+b)=(a*(U / a)+a)*4294967296+(U / a+1)*b:=by grind
   have hn:0<=(U / a+1)*b:=Int.mul_nonneg (by have:=Int.ediv_nonneg hU (show 0<=a by omega);omega) hb.1;omega
  omega
 ·have:U / a < 4294967298:=by
   refine Int.ediv_lt_of_lt_mul (by omega) ?_;omega
  omega
end
theorem auA {x y:Int}{s:Nat}(hs:s<=64)(hx:0<=x)(hx2:x*2 ^ s < 18446744073709551616)(hy:0<=y)(hy2:y < 2 ^ s):iOr .u64 (x*2 ^ s) y=x*2 ^ s+y:=by
 obtain⟨m,rfl⟩:=Int.eq_ofNat_of_zero_le hx;obtain⟨n,rfl⟩:=Int.eq_ofNat_of_zero_le hy;have e0:(m:Int)*2 ^ s=((m*2 ^ s:Nat):Int):=by push_cast;rfl
 have hn:n < 2 ^ s:=by exact_mod_cast hy2
 rw [e0] at hx2 ⊢;have hm:m*2 ^ s < 18446744073709551616:=by generalize m*2 ^ s=z at *;omega
 have hp:2 ^ s<=18446744073709551616:=Nat.pow_le_pow_right (n:=2) (by decide) hs;have e:((BitVec.ofInt 64 ((m*2 ^ s:Nat):Int)) ||| (BitVec.ofInt 64 (n:Int))).toNat=m*2 ^ s+n:=by
  rw [BitVec.toNat_or];have e1:(BitVec.ofInt 64 ((m*2 ^ s:Nat):Int)).toNat=m*2 ^ s:=by
   rw [BitVec.ofInt_natCast,BitVec.toNat_ofNat];exact Nat.mod_eq_of_lt hm
  have e2:(BitVec.ofInt 64 (n:Int)).toNat=n:=by
   rw [BitVec.ofInt_natCast,BitVec.toNat_ofNat];exact Nat.mod_eq_of_lt (by omega)
  rw [e1,e2,<- Nat.shiftLeft_eq,<- Nat.shiftLeft_add_eq_or_of_lt hn]
 have hlt:m*2 ^ s+n < 18446744073709551616:=by
  rw [<- e];exact BitVec.isLt _
 unfold iOr;show IntKind.wrap .u64 (((BitVec.ofInt 64 ((m*2 ^ s:Nat):Int)) ||| (BitVec.ofInt 64 (n:Int))).toNat:Int)=_;rw [e];generalize m*2 ^ s=z at *;rw [eC (by omega) (by omega)];omega
section
variable {a b d U:Int}(ha:2147483648<=a/\a < 4294967296)(hb:0<=b/\b < 4294967296)(hd:0<=d/\d < 4294967296)(hU:0<=U)(hUV:U < a*4294967296+b)
include ha hb hd hU hUV
theorem LB:IntKind.wrap .u64 (U.tdiv a)=U / a/\IntKind.wrap .u64 (U - IntKind.wrap .u64 (U / a*a))=U % a:=by
 obtain⟨s1,s2,s3,s4,s5,s6⟩:=Do ha hb hd hU hUV;rw [Int.tdiv_eq_ediv_of_nonneg hU];refine⟨eC s4 (by omega),?_⟩;have s7:0<=U / a*a:=Int.mul_nonneg s4 (by omega);generalize U / a*a=z at *;rw [eC (n:=z) (by omega) (by omega),eC (by omega) (by omega)];omega
theorem akY {k1 k2:Int->Int->Bool->Option α}{Y:Option α}(h1:∀ r z,k1 ((U*4294967296+d) / (a*4294967296+b)) r z=Y)(h2:∀ r z,k2 ((U*4294967296+d) / (a*4294967296+b)) r z=Y) :
  oJ α a b d (IntKind.wrap .u64 (U.tdiv a)) (IntKind.wrap .u64 (U - IntKind.wrap .u64 (IntKind.wrap .u64 (U.tdiv a)*a))) k1 k2=Y:=by
 obtain⟨g1,g2⟩:=LB ha hb hd hU hUV;obtain⟨s1,s2,s3,s4,s5,s6⟩:=Do ha hb hd hU hUV;rw [g1,g2];have hf:2 < aE:=by have:=bz;omega
 rw [oJ,af,FW,pL,af,Hk];exact afr ha hb hd hU hUV h1 h2 2 aE _ _ hf s1 s2 s3 (by omega) s4 s5 s6
theorem abB {k1 k2:Int->Int->Bool->Option α}{Y:Option α}(h1:∀ r z,k1 r ((U*4294967296+d) / (a*4294967296+b)) z=Y)(h2:∀ r z,k2 r ((U*4294967296+d) / (a*4294967296+b)) z=Y) :
  jD α a b d (IntKind.wrap .u64 (U - IntKind.wrap .u64 (IntKind.wrap .u64 (U.tdiv a)*a))) (IntKind.wrap .u64 (U.tdiv a)) k1 k2=Y:=by
 obtain⟨g1,g2⟩:=LB ha hb hd hU hUV;obtain⟨s1,s2,s3,s4,s5,s6⟩:=Do ha hb hd hU hUV;rw [g1,g2];have hf:2 < aE:=by have:=bz;omega
 rw [jD,af,Hy,pC,af,GE];exact acX ha hb hd hU hUV h1 h2 2 aE _ _ hf s1 s2 s3 (by omega) s4 s5 s6
end
theorem Qo {U d V:Int}(hV:0 < V)(hV2:V < 18446744073709551616):IntKind.wrap .u64 (IntKind.wrap .u64 (IntKind.wrap .u64 (U*4294967296)+d) - IntKind.wrap .u64 ((U*4294967296+d) / V*V))=(U*4294967296+d) % V:=by
 have e:=Int.emod_add_mul_ediv (U*4294967296+d) V;have e1:=Int.emod_nonneg (U*4294967296+d) (show V ≠ 0 by omega);have e2:=Int.emod_lt_of_pos (U*4294967296+d) hV;rw [Int.mul_comm V] at e;simp only [UR];generalize (U*4294967296+d) / V*V=z at *;generalize (U*4294967296+d) % V=y at *;omega
theorem VW {x1 x2 x3:Int}(h0:0<=x1)(h1:x1 < x3)(h2:0<=x2)(h2':x2 < 18446744073709551616)(h3:x3 < 18446744073709551616){k:Int->Int->Option α} :
  xU α x1 x2 x3 k=k ((x1*18446744073709551616+x2) / x3) ((x1*18446744073709551616+x2) % x3):=by
 rw [xU,af,Se];rw [show (x3 == 0)=false from beq_eq_false_iff_ne.2 (by omega),al,decide_eq_false (by omega),al];by_cases hz:x1=0
 ·subst hz
  have g:(x3 != 0)=true:=by simp;omega
  rw [show ((0:Int) == 0)=true from rfl,ap,bO g,bO g,Int.tdiv_eq_ediv_of_nonneg h2,Int.tmod_eq_emod_of_nonneg h2,eC (Int.ediv_nonneg h2 (by omega)) (by have:=Int.ediv_le_self x3 h2;omega)];simp
 ·rw [show (x1 == 0)=false from beq_eq_false_iff_ne.2 hz,al]
  obtain⟨s,hs,v1,v2,hl⟩:=asL (y:=x3) (by omega) h3;rw [hl];have ws:IntKind.wrap .u64 (s:Int)=s:=eC (by omega) (by omega);have w6:IntKind.wrap .u64 (64 - (s:Int))=((64 - s:Nat):Int):=by rw [eC (by omega) (by omega)];omega
  simp only [ws,w6,Int.toNat_natCast,Nat.min_eq_left (show s<=64 by omega),Nat.min_eq_left (show 64 - s<=64 by omega)];have hp:(0:Int) < 2 ^ s:=Int.pow_pos (by decide);have hp2:(0:Int) < 2 ^ (64 - s):=Int.pow_pos (by decide);have hpp:(2:Int) ^ (64 - s)*2 ^ s=18446744073709551616:=by rw [<- Int.pow_add,show 64 - s+s=64 by omega];rfl
  -- the dividend,Xw
  have hX:(x1*18446744073709551616+x2)*2 ^ s=(x1*2 ^ s+x2 / 2 ^ (64 - s))*18446744073709551616+x2*2 ^ s % 18446744073709551616:=by
   have e1:=Int.emod_add_mul_ediv (x2*2 ^ s) 18446744073709551616;have e2:x2*2 ^ s / 18446744073709551616=x2 / 2 ^ (64 - s):=by
    rw [<- hpp];exact Int.mul_ediv_mul_of_pos_left x2 _ hp
   rw [e2] at e1;rw [Int.add_mul,Int.add_mul];have e3:x1*18446744073709551616*2 ^ s=x1*2 ^ s*18446744073709551616:=by rw [Int.mul_right_comm]
   rw [e3];omega
  have hx1:x1*2 ^ s < 18446744073709551616:=by
   have:x1*2 ^ s < x3*2 ^ s:=Int.mul_lt_mul_of_pos_right h1 hp;omega
  have hx10:0<=x1*2 ^ s:=Int.mul_nonneg h0 (Int.le_of_lt hp);have hq0:0<=x2 / 2 ^ (64 - s):=Int.ediv_nonneg h2 (Int.le_of_lt hp2);have hq1:x2 / 2 ^ (64 - s) < 2 ^ s:=by
   refine Int.ediv_lt_of_lt_mul hp2 ?_;rw [Int.mul_comm,hpp];exact h2'
  have hlt:(x1*18446744073709551616+x2)*2 ^ s < x3*2 ^ s*18446744073709551616:=by
   have:(x1*18446744073709551616+x2)*2 ^ s < (x3*18446744073709551616)*2 ^ s:=Int.mul_lt_mul_of_pos_right (by omega) hp;rw [Int.mul_right_comm x3] at this;exact this
  have hdiv:(x1*18446744073709551616+x2)*2 ^ s / (x3*2 ^ s)=(x1*18446744073709551616+x2) / x3:=Int.mul_ediv_mul_of_pos_left _ _ hp;have hmod:(x1*18446744073709551616+x2)*2 ^ s % (x3*2 ^ s) / 2 ^ s=(x1*18446744073709551616+x2) % x3:=by
   rw [Int.mul_comm _ (2 ^ s),Int.mul_comm x3,Int.mul_emod_mul_of_pos _ _ hp];exact Int.mul_ediv_cancel_left _ (Int.ne_of_gt hp)
  rw [eC hx10 hx1,zm (n:=x2) (a:=64 - s),auA (by omega) h0 hx1 hq0 hq1,eC (n:=x3*2 ^ s) (by omega) v2,UR (n:=x2*2 ^ s)];generalize x3*2 ^ s=V at *;generalize hXX:(x1*18446744073709551616+x2)*2 ^ s=X at *;have hU0:0<=x1*2 ^ s+x2 / 2 ^ (64 - s):=by omega
  generalize x1*2 ^ s+x2 / 2 ^ (64 - s)=U at *;have hD1:=Int.emod_nonneg (x2*2 ^ s) (show (18446744073709551616:Int) ≠ 0 by decide);have hD2:=Int.emod_lt_of_pos (x2*2 ^ s) (show (0:Int) < 18446744073709551616 by decide);generalize x2*2 ^ s % 18446744073709551616=D at *;rw [<- hdiv,<- hmod];simp only [ais];rw [L7 (n:=V) (by omega) v2,L7 (n:=D) hD1 hD2];have hV:V=V / 4294967296*4294967296+V % 4294967296:=by omega
  have ha:2147483648<=V / 4294967296/\V / 4294967296 < 4294967296:=by omega
  have hb:0<=V % 4294967296/\V % 4294967296 < 4294967296:=by omega
  have hd1:0<=D / 4294967296/\D / 4294967296 < 4294967296:=by omega
  have hd0:0<=D % 4294967296/\D % 4294967296 < 4294967296:=by omega
  have hD:D=D / 4294967296*4294967296+D % 4294967296:=by omega
  generalize D / 4294967296=d1 at *;generalize D % 4294967296=d0 at *;generalize V / 4294967296=a at *;generalize V % 4294967296=b at *;have hUV:U < a*4294967296+b:=by omega
  have ga:(a != 0)=true:=by simp;omega
  have gs:decide (0<=(s:Int))=true:=decide_eq_true (by omega);rw [bO gs,bO gs,bO (decide_eq_true (by omega)),bO gs,bO ga]
  -- what is left
  have hT:=Qo (U:=U) (d:=d1) (V:=V) (by omega) v2;have e:=Int.emod_add_mul_ediv (U*4294967296+d1) V;have e1:=Int.emod_nonneg (U*4294967296+d1) (show V ≠ 0 by omega);have e2:=Int.emod_lt_of_pos (U*4294967296+d1) (show 0 < V by omega);have hQ1:=Q9 (a:=a) (b:=b) (d:=d1) (U:=U) ha.1 hb.1 hd1 hU0 hUV;rw [<- hV] at hQ1;generalize hq1':(U*4294967296+d1) / V=Q1 at *;generalize hT':(U*4294967296+d1) % V=T at *;have hT2:=Qo (U:=T) (d:=d0) (V:=V) (by omega) v2;have f:=Int.emod_add_mul_ediv (T*4294967296+d0) V;have f1:=Int.emod_nonneg (T*4294967296+d0) (show V ≠ 0 by omega);have f2:=Int.emod_lt_of_pos (T*4294967296+d0) (show 0 < V by omega);have hQ0:=Q9 (a:=a) (b:=b) (d:=d0) (U:=T) ha.1 hb.1 hd0 e1 (by omega);rw [<- hV] at hQ0;have hXV:X=V*(Q1*4294967296+(T*4294967296+d0) / V)+(T*4294967296+d0) % V:=by
   rw [Int.mul_add,<- Int.mul_assoc];generalize V*Q1=y at *;generalize V*((T*4294967296+d0) / V)=z at *;omega
  generalize hq0':(T*4294967296+d0) / V=Q0 at *;generalize hR':(T*4294967296+d0) % V=R at *;have hXd:X / V=Q1*4294967296+Q0:=by
   rw [hXV,Int.add_comm,Int.add_mul_ediv_left _ _ (show V ≠ 0 by omega),Int.ediv_eq_zero_of_lt f1 f2,Int.zero_add]
  have hXm:X % V=R:=by
   rw [hXV,Int.add_comm,Int.add_mul_emod_self_left,Int.emod_eq_of_lt f1 f2]
  have body2:gK (decide (0<=(s:Int))) (k (IntKind.wrap .u64 (IntKind.wrap .u64 (Q1*4294967296)+Q0)) (Int.fdiv (IntKind.wrap .u64 (IntKind.wrap .u64 (IntKind.wrap .u64 (T*4294967296)+d0) - IntKind.wrap .u64 (Q0*V))) (2 ^ s)))=k (X / V) (X % V / 2 ^ s):=by
   rw [bO gs,hT2,eC (n:=Q1*4294967296) (by omega) (by omega),eC (n:=Q1*4294967296+Q0) (by omega) (by omega),hXd,hXm,zm]
  have body:∀ (r:Int) (z:Bool),gK (a != 0) (jD α a b d0 (IntKind.wrap .u64 (T - IntKind.wrap .u64 (IntKind.wrap .u64 (T.tdiv a)*a))) (IntKind.wrap .u64 (T.tdiv a))
    (fun x92 x93 x94=>gK (decide (0<=(s:Int))) (k (IntKind.wrap .u64 (IntKind.wrap .u64 (Q1*4294967296)+x93)) (Int.fdiv (IntKind.wrap .u64 (IntKind.wrap .u64 (IntKind.wrap .u64 (T*4294967296)+d0) - IntKind.wrap .u64 (x93*V))) (2 ^ s))))
    (fun x92 x93 x94=>gK (decide (0<=(s:Int))) (k (IntKind.wrap .u64 (IntKind.wrap .u64 (Q1*4294967296)+x93)) (Int.fdiv (IntKind.wrap .u64 (IntKind.wrap .u64 (IntKind.wrap .u64 (T*4294967296)+d0) - IntKind.wrap .u64 (x93*V))) (2 ^ s)))))=k (X / V) (X % V / 2 ^ s):=by
   intro r z;rw [bO ga];have hh:(T*4294967296+d0) / (a*4294967296+b)=Q0:=by rw [<- hV];exact hq0'
   exact abB ha hb hd0 e1 (by omega) (fun _ _=>by rw [hh];exact body2) (fun _ _=>by rw [hh];exact body2)
  have hh:(U*4294967296+d1) / (a*4294967296+b)=Q1:=by rw [<- hV];exact hq1'
  exact akY ha hb hd1 hU0 hUV (fun r z=>by rw [hh];simp only [hT];exact body r z) (fun r z=>by rw [hh];simp only [hT];exact body r z)
structure Bl where
 b:B3
 ok:okS b=true
def Bl.n1 (a:Bl):Nat:=FloatKind.nearest .f64 a.b.1
def Bl.n2 (a:Bl):Nat:=FloatKind.nearest .f64 a.b.2.1
def Bl.r (a:Bl):Int:=a.b.2.2
def Bl0:Bl:=⟨(0,0,0),by decide⟩
theorem aez:FloatKind.nearest .f64 0=0:=by decide +kernel
theorem DH:Bl0.n1=0:=aez
theorem Ew:Bl0.n2=0:=aez
theorem Ow:Bl0.r=0:=rfl
theorem Bl.bd (a:Bl):(-67108864<=a.b.1/\a.b.1<=67108864)/\(-67108864<=a.b.2.1/\a.b.2.1<=67108864)/\0<=a.b.2.2/\a.b.2.2<=67108864:=dM.1 a.ok
def iV (b:B3):Bl × Int:=if h:okS b=true then (⟨b,h⟩,0) else (Bl0,8)
def KB (k:Nat->Nat->Int->Int->Option α)(u:Bl × Int):Option α:=k u.1.n1 u.1.n2 u.1.r u.2
theorem KB0 {k:Nat->Nat->Int->Int->Option α}{e:Int}:k 0 0 0 e=KB k (Bl0,e):=by
 unfold KB;rw [DH,Ew,Ow]
theorem kw {x y r:Int}{k:Nat->Nat->Int->Int->Option α}:gn α x y r k=KB k (iV (x,y,r)):=by
 rw [Mb.f232_eq,aix];unfold iV;by_cases h:okS (x,y,r)=true
 ·rw [if_pos h,dif_pos h];rfl
 ·rw [if_neg h,dif_neg h];exact KB0
theorem nf (a:Bl){k:Int->Int->Int->Option α}:fe α a.n1 a.n2 a.r k=k a.b.1 a.b.2.1 0:=by
 have g:=a.bd;unfold Bl.n1 Bl.n2 Bl.r;rw [EN (by omega) (by omega) g.2.2,if_pos ⟨ij.2 g.1,ij.2 g.2.1⟩]
def fD (a b:Bl):Bl × Int:=iV (pls a.b b.b)
def jW (a b:Bl):Bl × Int:=iV (mis a.b b.b)
def bD (a b:Bl):Bl × Int:=iV (tmB a.b b.b)
theorem anA (a b:Bl){k:Nat->Nat->Int->Int->Option α}:C7 α a.n1 a.n2 a.r b.n1 b.n2 b.r k=KB k (fD a b):=by
 have g:=a.bd;have h:=b.bd;simp only [C7,af,Vi,Kt,af,Yk,nf,bne_self_eq_false,al,JT,af,QC,Iu,af,RK,Kz,af,V0,yc,af,IX];unfold Bl.r;rw [aj (n:=a.b.1+b.b.1) (by omega) (by omega),aj (n:=a.b.2.1+b.b.2.1) (by omega) (by omega),aj (n:=a.b.2.2+b.b.2.2) (by omega) (by omega),kw];rfl
theorem apK (a b:Bl){k:Nat->Nat->Int->Int->Option α}:Ek α a.n1 a.n2 a.r b.n1 b.n2 b.r k=KB k (jW a b):=by
 have g:=a.bd;have h:=b.bd;simp only [Ek,af,WP,Jw,af,Tb,nf,bne_self_eq_false,al,J6,af,Xk,Je,af,QK,IT,af,YM,KY,af,US];unfold Bl.r;rw [aj (n:=a.b.1 - b.b.1) (by omega) (by omega),aj (n:=a.b.2.1 - b.b.2.1) (by omega) (by omega),aj (n:=a.b.2.2+b.b.2.2) (by omega) (by omega),kw];rfl
theorem aqX (a b:Bl){k:Nat->Nat->Int->Int->Option α}:xh α a.n1 a.n2 a.r b.n1 b.n2 b.r k=KB k (bD a b):=by
 have:=aut a.ok b.ok (k:=k);refine this.trans ?_;unfold tms bD iV;by_cases h:okS (tmB a.b b.b)=true
 ·rw [if_pos h,dif_pos h];rfl
 ·rw [if_neg h,dif_neg h];exact KB0
def Bl.lo1 (a:Bl):Int:=a.b.1 - a.b.2.2
def Bl.hi1 (a:Bl):Int:=a.b.1+a.b.2.2
def Bl.lo2 (a:Bl):Int:=a.b.2.1 - a.b.2.2
def Bl.hi2 (a:Bl):Int:=a.b.2.1+a.b.2.2
theorem atu (a:Bl){k:Int->Int->Int->Int->Int->Option α}:Bh α a.n1 a.n2 a.r k=k a.lo1 a.hi1 a.lo2 a.hi2 0:=by
 have g:=a.bd;simp only [Bh,af,RX,nf,bne_self_eq_false,al,Dh,af,Uh];unfold Bl.r;rw [aj (n:=a.b.1 - a.b.2.2) (by omega) (by omega),aj (n:=a.b.1+a.b.2.2) (by omega) (by omega),aj (n:=a.b.2.1 - a.b.2.2) (by omega) (by omega),aj (n:=a.b.2.1+a.b.2.2) (by omega) (by omega)];rfl
def qx (x:Int):Bool:=decide (-67108864<=x/\x<=67108864)
def cL (lo hi:Int):Bl × Int:=
 if qx lo=true/\qx hi=true then (if hi < lo then (Bl0,10) else iV ((lo+hi) / 2,0,hi - (lo+hi) / 2)) else (Bl0,2)
theorem J2 {lo hi:Int}{k:Nat->Nat->Int->Int->Option α}:mu α lo hi k=KB k (cL lo hi):=by
 simp only [mu,af,Zk,tQ,af,FN];rw [Mb.f197_eq (by decide) (by decide)];unfold cL qx;by_cases h1:-67108864<=lo/\lo<=67108864
 ·rw [decide_eq_true h1,Bool.not_true,al,Mb.f197_eq (by decide) (by decide)]
  by_cases h2:-67108864<=hi/\hi<=67108864
  ·rw [decide_eq_true h2,Bool.not_true,al,if_pos ⟨rfl,rfl⟩]
   by_cases h3:hi < lo
   ·rw [decide_eq_true h3,ap,if_pos h3];exact KB0
   ·rw [decide_eq_false h3,al,if_neg h3,aj (n:=lo+hi) (by omega) (by omega),Mb.f167_eq (by decide) (by decide) (by omega) (by omega),aj (n:=hi - (lo+hi) / 2) (by omega) (by omega),kw]
  ·rw [decide_eq_false h2,Bool.not_false,ap,if_neg (fun h=>by cases h.2)];exact KB0
 ·rw [decide_eq_false h1,Bool.not_false,ap,ap,if_neg (fun h=>by cases h.1)];exact KB0
def yZ (n d:Int):Bl × Int:=
 if (-1000000000<=n/\n<=1000000000)/\1<=d/\d<=1000000000 then iV (rdv (n*1048576) d,0,if (n*1048576).tmod d=0 then 0 else 1) else (Bl0,2)
theorem amW {n d:Int}{k:Nat->Nat->Int->Int->Option α}:Ce α n d k=KB k (yZ n d):=by
 simp only [Ce,af,TX];rw [Mb.f197_eq (by decide) (by decide)];unfold yZ;by_cases h1:-1000000000<=n/\n<=1000000000
 ·rw [decide_eq_true h1,Bool.not_true,al,Mb.f203_eq]
  by_cases h2:1<=d/\d<=1000000000
  ·rw [decide_eq_true h2,Bool.not_true,al,if_pos ⟨h1,h2⟩,aj (n:=n*1048576) (by omega) (by omega),Mb.f221_eq (by omega) (by omega) (by omega) (by omega)]
   simp only [jV,af,AR,kw];by_cases h3:(n*1048576).tmod d=0
   ·rw [h3,if_pos rfl];rfl
   ·rw [if_neg h3,show ((n*1048576).tmod d != 0)=true from bne_iff_ne.2 h3,ap]
  ·rw [decide_eq_false h2,Bool.not_false,ap,if_neg (fun h=>h2 h.2)];exact KB0
 ·rw [decide_eq_false h1,Bool.not_false,ap,if_neg (fun h=>h1 h.1)];exact KB0
def Ev (a:Bl):Bl × Int:=iV (-a.b.2.1,a.b.1,a.b.2.2)
theorem VZ (a:Bl){k:Nat->Nat->Int->Int->Option α}:rI α a.n1 a.n2 a.r 1 k=KB k (Ev a):=by
 have g:=a.bd;simp only [rI,af,V1,Ie,af,WU,nf,bne_self_eq_false,al,K4,af,Zp];rw [Mb.f197_eq (by decide) (by decide),show decide ((-1000000000:Int)<=1/\(1:Int)<=1000000000)=true by decide,Bool.not_true,al,show Int.tmod (w64 ((Int.tmod 1 4)+4)) 4=1 by decide,Mb.f231_1 g.1 g.2.1];simp only [bne_self_eq_false,al,kw];rfl
def Bl.dn (a:Bl):Int:=isq (sqn a.b)
def Bl.up (a:Bl):Int:=upc a.b
def Bl.eLo (a:Bl):Int:=let d:=if a.dn - a.b.2.2 > 0 then a.dn - a.b.2.2 else 0;d*d / 1048576
def Bl.eHi (a:Bl):Int:=cdv ((a.up+a.b.2.2)*(a.up+a.b.2.2)) 1048576
theorem Bl.dn_bd (a:Bl):0<=a.dn/\a.dn<=94906265:=by
 have:=Rb (nM a.ok).2;unfold Bl.dn;omega
theorem Bl.up_bd (a:Bl):0<=a.up/\a.up<=94906266:=PI a.ok
theorem zX (a:Bl){k:Int->Option α}:oQ α a.b.1 a.b.2.1 k=k a.dn:=by
 have g:=a.bd;have e1:=sq_bd g.1.1 g.1.2;have e2:=sq_bd g.2.1.1 g.2.1.2;obtain⟨e3,e4⟩:=nM a.ok;simp only [oQ,af,Vn,jT,af,sQ];rw [aj (n:=a.b.1*a.b.1) (by omega) (by omega),aj (n:=a.b.2.1*a.b.2.1) (by omega) (by omega),aj (n:=a.b.1*a.b.1+a.b.2.1*a.b.2.1) (by omega) (by omega),<- e3,wY (by omega)];rfl
theorem auV (a:Bl){k:Int->Int->Int->Option α}:r9 α a.n1 a.n2 a.r k=k a.eLo a.eHi 0:=by
 have g:=a.bd;have d:=a.dn_bd;have u:=a.up_bd;simp only [r9,af,Xu,nf,bne_self_eq_false,al,H5,af,Xp,zX,wC a.ok];unfold Bl.r Bl.eLo Bl.eHi;rw [aj (n:=a.dn - a.b.2.2) (by omega) (by omega),show w64 (upc a.b+a.b.2.2)=a.up+a.b.2.2 from aj (by unfold Bl.up at u;omega) (by unfold Bl.up at u;omega)];have hz:∀ z:Int,0<=z->z<=200000000->0<=z*z/\z*z<=40000000000000000:=fun z h1 h2=>
  ⟨Int.mul_nonneg h1 h1,Int.mul_le_mul h2 h2 h1 (by decide)⟩
 have h1:=hz (if a.dn - a.b.2.2 > 0 then a.dn - a.b.2.2 else 0) (by split <;> omega) (by split <;> omega);have h2:=hz (a.up+a.b.2.2) (by omega) (by omega);simp only [];generalize (if a.dn - a.b.2.2 > 0 then a.dn - a.b.2.2 else 0)=z1 at *;generalize a.up+a.b.2.2=z2 at *;rw [aj (n:=z1*z1) (by omega) (by omega),aj (n:=z2*z2) (by omega) (by omega),Mb.f167_eq (by decide) (by decide) (by omega) (by omega),Mb.f168_eq (by decide) (by decide) (by omega) (by omega)]
def ckE (lo hi least:Int):Int:=
 if (least<=lo/\lo<=1099511627776)/\¬ 1099511627776 < hi/\¬ (least < 0/\hi < least) then (if hi < lo then 10 else 0) else 2
theorem R6 {lo hi least:Int}{k:Int->Option α}:xz α lo hi least k=k (ckE lo hi least):=by
 simp only [xz,af,Vr,wV,af,Hm,Mb.f203_eq];unfold ckE;by_cases h1:least<=lo/\lo<=1099511627776
 ·rw [decide_eq_true h1,Bool.not_true,al]
  by_cases h2:1099511627776 < hi
  ·rw [decide_eq_true h2,ap,ap,if_neg (fun h=>h.2.1 h2)]
  ·rw [decide_eq_false h2,al]
   by_cases h3:least < 0
   ·rw [decide_eq_true h3,ap]
    by_cases h4:hi < least
    ·rw [decide_eq_true h4,ap,if_neg (fun h=>h.2.2 ⟨h3,h4⟩)]
    ·rw [decide_eq_false h4,al,if_pos ⟨h1,h2,fun h=>h4 h.2⟩,aK]
     split <;> rfl
   ·rw [decide_eq_false h3,al,al,if_pos ⟨h1,h2,fun h=>h3 h.1⟩,aK]
    split <;> rfl
 ·rw [decide_eq_false h1,Bool.not_false,ap,ap,if_neg (fun h=>h1 h.1)]
theorem ahW {lo hi least:Int}(h:ckE lo hi least=0):(least<=lo/\lo<=1099511627776)/\hi<=1099511627776/\lo<=hi:=by
 unfold ckE at h;split at h
 ·rename_i g
  split at h
  ·cases h
  ·omega
 ·cases h
def CL (lo hi:Int):Bl × Int:=
 if ckE lo hi (-1099511627776)=0 then iV (Mb.arcX lo hi,Mb.arcY lo hi,Mb.arcR lo hi) else (Bl0,ckE lo hi (-1099511627776))
theorem ao1 {lo hi:Int}{k:Nat->Nat->Int->Int->Option α}:xR α lo hi k=KB k (CL lo hi):=by
 simp only [xR,af,Qw,R6];unfold CL;by_cases h:ckE lo hi (-1099511627776)=0
 ·obtain⟨g1,g2,g3⟩:=ahW h
  rw [h,if_pos rfl,show ((0:Int) != 0)=false from rfl,al,Mb.f254_eq (by omega) (by omega) g3];rw [aix];unfold iV;by_cases ho:okS (Mb.arcX lo hi,Mb.arcY lo hi,Mb.arcR lo hi)=true
  ·rw [if_pos ho,dif_pos ho];rfl
  ·rw [if_neg ho,dif_neg ho];exact KB0
 ·rw [if_neg h,show (ckE lo hi (-1099511627776) != 0)=true from bne_iff_ne.2 h,ap];exact KB0
def flr (n d:Int):Int:=if Int.tmod n d < 0 then w64 (w64 (Int.tdiv n d) - 1) else w64 (Int.tdiv n d)
def cel (n d:Int):Int:=w64 (0 - flr (w64 (0 - n)) d)
theorem Em {n d:Int}(hd:d ≠ 0){k:Int->Option α}:gT α n d k=k (flr n d):=by
 simp only [gT,af,Im];have g:(d != 0)=true:=bne_iff_ne.2 hd;rw [bO g,bO g,aK];unfold flr;split <;> rfl
theorem fR {n d:Int}(hd:d ≠ 0){k:Int->Option α}:cG α n d k=k (cel n d):=by
 simp only [cG,af,Jp,Em hd];rfl
def hlv (n:Int):Nat->Nat->Nat
 | 0,k=>k
 | m+1,k=>if 1048576*2 ^ k < n then hlv n m (k+1) else k
def rM (n:Int):Nat:=hlv n 42 0
theorem ayf {n:Int}:∀ (m k:Nat),k+m<=42->hlv n m k<=42:=by
 intro m
 induction m with
 | zero=>intro k h;exact h
 | succ m ih=>
  intro k h;unfold hlv;split
  ·exact ih _ (by omega)
  ·omega
theorem AX (n:Int):rM n<=42:=ayf 42 0 (by decide)
theorem pw {k:Nat}(h:k<=42):w64 (1048576*2 ^ (min (Int.toNat (k:Int)) 64))=1048576*2 ^ k/\w64 (1*2 ^ (min (Int.toNat (k:Int)) 64))=2 ^ k/\(1:Int)<=2 ^ k/\(2:Int) ^ k<=4398046511104:=by
 rw [Int.toNat_natCast,Nat.min_eq_left (by omega)];have h1:(1:Int)<=2 ^ k:=by
  have:(0:Int) < 2 ^ k:=Int.pow_pos (by decide);omega
 have h2:(2:Int) ^ k<=4398046511104:=by
  have:(2:Nat) ^ k<=2 ^ 42:=Nat.pow_le_pow_right (by decide) h;have e:(2:Nat) ^ 42=4398046511104:=rfl;rw [e] at this;rw [show (2:Int) ^ k=((2 ^ k:Nat):Int) by push_cast;rfl];generalize 2 ^ k=z at *;omega
 obtain⟨z,hz⟩:∃ z,z=(2:Int) ^ k:=⟨_,rfl⟩
 rw [<- hz] at h1 h2 ⊢;exact⟨aj (by omega) (by omega),by rw [Int.one_mul];exact aj (by omega) (by omega),h1,h2⟩
theorem aso {n:Int}(hn:n<=4611686018427387904){k1:Int->Bool->Option α}{y:Int->Option α}(hk:∀ a b,k1 a b=y a) :
  ∀ (m k f:Nat),k+m=42->m < f->l8 α n k1 f (k:Int)=y (hlv n m k:Int):=by
 intro m
 induction m with
 | zero=>
  intro k f h hf;obtain⟨f,rfl⟩:∃ f',f=f'+1:=⟨f - 1,by omega⟩
  rw [l8];simp only [oZ];obtain⟨p1,_⟩:=pw (k:=k) (by omega);have:k=42:=by omega
  subst this;rw [bO (decide_eq_true (by omega)),p1,aK,if_neg (by
   rw [show (2:Int) ^ 42=4398046511104 from rfl];omega),hk]
  rfl
 | succ m ih=>
  intro k f h hf;obtain⟨f,rfl⟩:∃ f',f=f'+1:=⟨f - 1,by omega⟩
  rw [l8];simp only [oZ];obtain⟨p1,_⟩:=pw (k:=k) (by omega);rw [bO (decide_eq_true (by omega)),p1,aK];unfold hlv;by_cases c:1048576*2 ^ k < n
  ·rw [if_pos c,if_pos c,aj (by omega) (by omega)]
   exact ih (k+1) f (by omega) (by omega)
  ·rw [if_neg c,if_neg c,hk]
theorem U2 {n:Int}(hn:n<=4611686018427387904){k:Int->Option α}:yh α n k=k (rM n:Int):=by
 have hf:42 < aE:=by have:=bz;omega
 rw [yh,af,Xm,wa,af,Hc];exact aso (y:=k) hn (fun _ _=>rfl) 42 0 aE (by decide) hf
def itr (g:Int->Int):Nat->Int->Int
 | 0,f=>f
 | m+1,f=>itr g m (g f)
def ahZ (p:Int):Int:=
 let x:=cel (w64 ((w64 (256*p))*62831854)) 10000000
 let u:=cel x (2 ^ rM x)
 itr (fun f=>w64 (Int.tdiv (w64 (f*f)) 1073741824)) (rM x) (w64 ((w64 ((w64 (1073741824 - u))+(w64 (Int.tdiv (w64 (u*u)) 2147483648)))) - cel (w64 ((w64 (u*u))*u)) 6917529027641081856))
def al1 (p:Int):Int:=
 let x:=w64 (Int.tdiv (w64 ((w64 (256*p))*62831853)) 10000000)
 let u:=x / 2 ^ rM x
 itr (fun f=>cel (w64 (f*f)) 1073741824) (rM x) (w64 ((w64 (1073741824 - u))+cel (w64 (u*u)) 2147483648))
theorem asD {K:Nat}(hK:K<=42){k1:Int->Int->Bool->Option α}{y:Int->Option α}(hk:∀ a b c,k1 a b c=y a):∀ (m i n:Nat) (f:Int),i+m=K->m < n ->
  mh α (K:Int) k1 n f (i:Int)=y (itr (fun f=>w64 (Int.tdiv (w64 (f*f)) 1073741824)) m f):=by
 intro m
 induction m with
 | zero=>
  intro i n f h hn;obtain⟨n,rfl⟩:∃ n',n=n'+1:=⟨n - 1,by omega⟩
  rw [mh];simp only [nS];rw [aK,if_neg (by omega),hk];rfl
 | succ m ih=>
  intro i n f h hn;obtain⟨n,rfl⟩:∃ n',n=n'+1:=⟨n - 1,by omega⟩
  rw [mh];simp only [nS];rw [aK,if_pos (by omega),aj (n:=(i:Int)+1) (by omega) (by omega)];exact ih (i+1) n _ (by omega) (by omega)
theorem amG {K:Nat}(hK:K<=42){k1:Int->Int->Bool->Option α}{y:Int->Option α}(hk:∀ a b c,k1 a b c=y a):∀ (m i n:Nat) (f:Int),i+m=K->m < n ->
  lF α (K:Int) k1 n f (i:Int)=y (itr (fun f=>cel (w64 (f*f)) 1073741824) m f):=by
 intro m
 induction m with
 | zero=>
  intro i n f h hn;obtain⟨n,rfl⟩:∃ n',n=n'+1:=⟨n - 1,by omega⟩
  rw [lF];simp only [pI];rw [aK,if_neg (by omega),hk];rfl
 | succ m ih=>
  intro i n f h hn;obtain⟨n,rfl⟩:∃ n',n=n'+1:=⟨n - 1,by omega⟩
  rw [lF];simp only [pI];rw [aK,if_pos (by omega),fR (by decide),aj (n:=(i:Int)+1) (by omega) (by omega)];exact ih (i+1) n _ (by omega) (by omega)
theorem sF {n d:Int}(hd:0 < d)(hd2:d<=9223372036854775807)(hn:-9223372036854775807<=n)(hn2:n<=9223372036854775807):cel n d=cdv n d:=by
 have h1:=fR (n:=n) (d:=d) (by omega) (k:=some);rw [Mb.f168_eq hd hd2 hn hn2] at h1;exact (Option.some.inj h1).symm
theorem avu {p:Int}(h1:0<=p)(h2:p<=16777216):cel (w64 ((w64 (256*p))*62831854)) 10000000<=4611686018427387904:=by
 rw [aj (n:=256*p) (by omega) (by omega),aj (by omega) (by omega),sF (by decide) (by decide) (by omega) (by omega)];unfold cdv;omega
theorem avi {p:Int}(h1:0<=p)(h2:p<=16777216):w64 (Int.tdiv (w64 ((w64 (256*p))*62831853)) 10000000)<=4611686018427387904:=by
 rw [aj (n:=256*p) (by omega) (by omega),aj (n:=256*p*62831853) (by omega) (by omega),Int.tdiv_eq_ediv_of_nonneg (by omega),aj (by omega) (by omega)];omega
theorem UA {p:Int}(hp1:0<=p)(hp2:p<=16777216){k:Int->Option α}:D8 α p k=k (ahZ p):=by
 simp only [D8,af,Wp];rw [fR (by decide),U2 (avu hp1 hp2)];have hb:=AX (cel (w64 ((w64 (256*p))*62831854)) 10000000);obtain⟨_,p2,p3,_⟩:=pw hb;rw [bO (decide_eq_true (by omega)),p2,fR (by omega),fR (by decide)];have hf:rM (cel (w64 ((w64 (256*p))*62831854)) 10000000) < aE:=by have:=bz;omega
 rw [sN,af,Ht];exact asD (y:=k) hb (fun _ _ _=>rfl) _ 0 aE _ (by omega) hf
theorem TH {p:Int}(hp1:0<=p)(hp2:p<=16777216){k:Int->Option α}:xD α p k=k (al1 p):=by
 simp only [xD,af,VG];rw [U2 (avi hp1 hp2)];have hb:=AX (w64 (Int.tdiv (w64 ((w64 (256*p))*62831853)) 10000000));rw [bO (decide_eq_true (by omega)),Int.toNat_natCast,Nat.min_eq_left (by omega),zm,fR (by decide)];have hf:rM (w64 (Int.tdiv (w64 ((w64 (256*p))*62831853)) 10000000)) < aE:=by have:=bz;omega
 rw [uM,af,GJ];exact amG (y:=k) hb (fun _ _ _=>rfl) _ 0 aE _ (by omega) hf
def jx (lo hi:Int):Int × Int × Int:=
 if ckE lo hi 0=0 then
  (if hi<=16777216 then (if flr (ahZ hi) 1024 > 0 then flr (ahZ hi) 1024 else 0) else 0,
   if lo<=16777216 then (if cel (al1 lo) 1024 < 1048576 then cel (al1 lo) 1024 else 1048576) else 1,0)
 else (0,0,ckE lo hi 0)
theorem atK {lo hi:Int}{k:Int->Int->Int->Option α}:si α lo hi k=k (jx lo hi).1 (jx lo hi).2.1 (jx lo hi).2.2:=by
 simp only [si,af,Va,w7,af,HZ,R6];unfold jx;by_cases h:ckE lo hi 0=0
 ·obtain⟨g1,g2,g3⟩:=ahW h
  rw [if_pos h,h,show ((0:Int) != 0)=false from rfl,al];by_cases h1:hi<=16777216 <;> by_cases h2:lo<=16777216
  ·rw [decide_eq_true h1,ap,UA (by omega) h1,Em (by decide),decide_eq_true h2,ap,TH g1.1 h2,fR (by decide),if_pos h1,if_pos h2]
  ·rw [decide_eq_true h1,ap,UA (by omega) h1,Em (by decide),decide_eq_false h2,al,if_pos h1,if_neg h2]
  ·rw [decide_eq_false h1,al,decide_eq_true h2,ap,TH g1.1 h2,fR (by decide),if_neg h1,if_pos h2]
  ·rw [decide_eq_false h1,al,decide_eq_false h2,al,if_neg h1,if_neg h2]
 ·rw [if_neg h,show (ckE lo hi 0 != 0)=true from bne_iff_ne.2 h,ap]
def sz (x:Int):Int:=if 0 - x > x then 0 - x else x
theorem GS {x B:Int}(h1:-B<=x)(h2:x<=B):0<=sz x/\sz x<=B:=by unfold sz;split <;> omega
theorem JF {x:Int}(h1:-4611686018427387904<=x)(h2:x<=4611686018427387904){k:Int->Option α}:oR α x k=k (sz x):=by
 simp only [oR,af,Qd];rw [aj (n:=0 - x) (by omega) (by omega)];rfl
def oo (n d:Int):Int × Bool:=
 if d<=sz n*1048576 / 18446744073709551616 then (2147483647,false) else
 if 2147483647 < sz n*1048576 / d then (2147483647,false) else
 let q:=if d < 2*(sz n*1048576 % d)\/(0<=n/\2*(sz n*1048576 % d)=d) then sz n*1048576 / d+1 else sz n*1048576 / d
 (if n < 0 then 0 - q else q,sz n*1048576 % d != 0)
theorem az0 {n d r:Int}(hd:0 < d)(hd2:d<=36028797018963968)(hr:0<=r)(hr2:r < d){k:Bool->Option α} :
  pX α n d r k=if d < 2*r\/(0<=n/\2*r=d) then k true else k false:=by
 simp only [pX,af,Hr];rw [eC (n:=d) (by omega) (by omega),eC (n:=2*r) (by omega) (by omega),aK,aK];by_cases h1:d < 2*r
 ·rw [if_pos h1,if_pos (Or.inl h1)]
 ·rw [if_neg h1]
  by_cases h2:0<=n
  ·rw [if_pos h2]
   by_cases h3:2*r=d
   ·rw [if_pos (Or.inr ⟨h2,h3⟩),beq_iff_eq.2 h3]
   ·rw [if_neg (by omega),beq_eq_false_iff_ne.2 h3]
  ·rw [if_neg h2,if_neg (by omega)]
theorem Az {n d:Int}(h1:-36028797018963968<=n)(h2:n<=36028797018963968)(hd:0 < d)(hd2:d<=36028797018963968){k:Int->Bool->Option α} :
  mO α n 1048576 d k=k (oo n d).1 (oo n d).2:=by
 have hs:=GS h1 h2;simp only [mO,af,WM];rw [JF (by omega) (by omega),eC (n:=sz n) (by omega) (by omega),eC (n:=1048576) (by decide) (by decide),Wq (by omega) (by omega) (by decide) (by decide),eC (n:=d) (by omega) (by omega),aK];unfold oo;generalize hN:sz n*1048576=N;by_cases c1:d<=N / 18446744073709551616
 ·rw [if_pos c1,if_pos c1]
 ·rw [if_neg c1,if_neg c1,VW (by omega) (by omega) (by omega) (by omega) (by omega),show N / 18446744073709551616*18446744073709551616+N % 18446744073709551616=N by omega,aK]
  have hr1:=Int.emod_nonneg N (show d ≠ 0 by omega);have hr2:=Int.emod_lt_of_pos N hd;have hq:0<=N / d:=Int.ediv_nonneg (by omega) (by omega);generalize N % d=r at *;generalize N / d=u at *;by_cases c2:2147483647 < u
  ·rw [if_pos c2,if_pos c2]
  ·rw [if_neg c2,if_neg c2,az0 hd hd2 hr1 hr2]
   have e1:w64 u=u:=aj (by omega) (by omega);have e2:w64 (u+1)=u+1:=aj (by omega) (by omega);have e3:w64 (0 - u)=0 - u:=aj (by omega) (by omega);have e4:w64 (0 - (u+1))=0 - (u+1):=aj (by omega) (by omega);simp only [ap,al,e1,e2,e3,e4,aK];by_cases c3:d < 2*r\/(0<=n/\2*r=d)
   ·simp only [if_pos c3]
    by_cases c4:n < 0
    ·simp only [if_pos c4]
    ·simp only [if_neg c4]
   ·simp only [if_neg c3]
    by_cases c4:n < 0
    ·simp only [if_pos c4]
    ·simp only [if_neg c4]
def Js (n d:Int):Int:=
 if d<=n*1048576 / 18446744073709551616 then 2147483647 else
 if 2147483647<=n*1048576 / d then 2147483647 else
 if n*1048576 % d ≠ 0 then n*1048576 / d+1 else n*1048576 / d
theorem apS {n d:Int}(h1:0<=n)(h2:n<=36028797018963968)(hd:0 < d)(hd2:d<=36028797018963968){k:Int->Option α} :
  BL α n 1048576 d k=k (Js n d):=by
 simp only [BL,af,Wa];rw [eC (n:=n) (by omega) (by omega),eC (n:=1048576) (by decide) (by decide),Wq (by omega) (by omega) (by decide) (by decide),eC (n:=d) (by omega) (by omega),aK];unfold Js;generalize hN:n*1048576=N;by_cases c1:d<=N / 18446744073709551616
 ·rw [if_pos c1,if_pos c1]
 ·rw [if_neg c1,if_neg c1,VW (by omega) (by omega) (by omega) (by omega) (by omega),show N / 18446744073709551616*18446744073709551616+N % 18446744073709551616=N by omega,aK]
  have hq:0<=N / d:=Int.ediv_nonneg (by omega) (by omega);generalize N % d=r at *;generalize N / d=u at *;by_cases c2:2147483647<=u
  ·rw [if_pos c2,if_pos c2]
  ·rw [if_neg c2,if_neg c2,eC (n:=u+1) (by omega) (by omega),aj (n:=u+1) (by omega) (by omega),aj (n:=u) (by omega) (by omega)]
   by_cases c3:r=0
   ·rw [c3,if_neg (fun h=>h rfl),show ((0:Int) != 0)=false from rfl,al]
   ·rw [if_pos c3,bne_iff_ne.2 c3,ap]
def cjB (a:B3):B3:=(a.1,0 - a.2.1,a.2.2)
def azf (a b:Bl):B3:=
 ((oo (tmP a.b (cjB b.b)) (sqn b.b)).1,(oo (tmQ a.b (cjB b.b)) (sqn b.b)).1,
  w64 (Js (a.b.2.2*b.up+a.up*b.b.2.2) ((b.dn - b.b.2.2)*b.dn)+(if (oo (tmP a.b (cjB b.b)) (sqn b.b)).2 || (oo (tmQ a.b (cjB b.b)) (sqn b.b)).2 then 1 else 0)))
def wO (a b:Bl):Bl × Int:=if b.dn<=b.b.2.2 then (Bl0,9) else iV (azf a b)
theorem azl {b:Bool}{k:Int->Option α}:jV α b k=k (if b then 1 else 0):=by
 rw [jV,af,AR];cases b <;> rfl
theorem O8 {n:Nat}(h:n < 288230376151711744):isq n*isq n<=n:=(mD h).1
theorem asM (a b:Bl){k:Nat->Nat->Int->Int->Option α}:BI α a.n1 a.n2 a.r b.n1 b.n2 b.r k=KB k (wO a b):=by
 have g:=a.bd;have h:=b.bd;have d:=b.dn_bd;have u:=b.up_bd;have v:=a.up_bd;obtain⟨s1,s2⟩:=nM b.ok;simp only [BI,af,TL,J3,af,Qb,nf,bne_self_eq_false,al,Lb,af,Sv,IG,af,UM,IJ,af,VV,zX];show cK (decide (b.dn<=b.b.2.2)) _ _=_;rw [aK];unfold wO;by_cases c:b.dn<=b.b.2.2
 ·rw [if_pos c,if_pos c,show ((9:Int) != 0)=true from rfl,ap]
  exact KB0
 ·rw [if_neg c,if_neg c]
  have hcj:okS (cjB b.b)=true:=dM.2 ⟨h.1,by show -67108864<=0 - b.b.2.1/\0 - b.b.2.1<=67108864;omega,h.2.2⟩;obtain⟨t1,t2,t3,t4,_⟩:=Yx (a:=a.b) (b:=cjB b.b) a.ok hcj;have p1:w64 (0 - b.b.2.1)=(cjB b.b).2.1:=aj (by omega) (by omega);simp only [Kq,af,Rf,p1,yv,af,I3,jT,af,sQ];have q1:w64 (w64 (a.b.1*b.b.1) - w64 (a.b.2.1*(cjB b.b).2.1))=tmP a.b (cjB b.b):=by
   have e:a.b.1*b.b.1=a.b.1*(cjB b.b).1:=rfl;rw [e,aj (n:=a.b.1*(cjB b.b).1) (by omega) (by omega),aj (n:=a.b.2.1*(cjB b.b).2.1) (by omega) (by omega),aj (by omega) (by omega)];rfl
  have q2:w64 (w64 (a.b.1*(cjB b.b).2.1)+w64 (a.b.2.1*b.b.1))=tmQ a.b (cjB b.b):=by
   have e:a.b.2.1*b.b.1=a.b.2.1*(cjB b.b).1:=rfl;rw [e,aj (n:=a.b.1*(cjB b.b).2.1) (by omega) (by omega),aj (n:=a.b.2.1*(cjB b.b).1) (by omega) (by omega),aj (by omega) (by omega)];rfl
  have sq1:=sq_bd h.1.1 h.1.2;have sq2:=sq_bd h.2.1.1 h.2.1.2;have q3:w64 (w64 (b.b.1*b.b.1)+w64 (b.b.2.1*b.b.2.1))=(sqn b.b:Int):=by
   rw [aj (n:=b.b.1*b.b.1) (by omega) (by omega),aj (n:=b.b.2.1*b.b.2.1) (by omega) (by omega),aj (by omega) (by omega),s1]
  have hp:-9007199254740992<=tmP a.b (cjB b.b)/\tmP a.b (cjB b.b)<=9007199254740992:=by unfold tmP;omega
  have hq:-9007199254740992<=tmQ a.b (cjB b.b)/\tmQ a.b (cjB b.b)<=9007199254740992:=by unfold tmQ;omega
  have hpos:0 < (sqn b.b:Int):=by
   have e1:(isq (sqn b.b):Int)=b.dn:=rfl;have e2:=O8 (n:=sqn b.b) (by omega);have e3:1<=isq (sqn b.b):=by omega
   have e4:1*1<=isq (sqn b.b)*isq (sqn b.b):=Nat.mul_le_mul e3 e3;omega
  rw [q1,q2,q3];rw [Az (by omega) (by omega) hpos (by omega),Az (by omega) (by omega) hpos (by omega),wC b.ok,wC a.ok];have m1:=ld (x:=a.b.2.2) (y:=b.up) (by omega) g.2.2.2 u.1 u.2;have m2:=ld (x:=a.up) (y:=b.b.2.2) v.1 v.2 h.2.2.1 h.2.2.2;have m3:=ld (x:=b.dn - b.b.2.2) (y:=b.dn) (A:=94906265) (B:=94906265) (by omega) (by omega) (by omega) (by omega);have m3':0 < (b.dn - b.b.2.2)*b.dn:=Int.mul_pos (by omega) (by omega);have r1:w64 (w64 (a.r*upc b.b)+w64 (upc a.b*b.r))=a.b.2.2*b.up+a.up*b.b.2.2:=by
   show w64 (w64 (a.b.2.2*b.up)+w64 (a.up*b.b.2.2))=_;rw [aj (n:=a.b.2.2*b.up) (by omega) (by omega),aj (n:=a.up*b.b.2.2) (by omega) (by omega),aj (by omega) (by omega)]
  have r2:w64 (w64 (b.dn - b.r)*b.dn)=(b.dn - b.b.2.2)*b.dn:=by
   show w64 (w64 (b.dn - b.b.2.2)*b.dn)=_;rw [aj (n:=b.dn - b.b.2.2) (by omega) (by omega),aj (by omega) (by omega)]
  rw [r1,r2,apS (by omega) (by omega) m3' (by omega)];unfold azf;generalize oo (tmP a.b (cjB b.b)) (sqn b.b)=X;generalize oo (tmQ a.b (cjB b.b)) (sqn b.b)=Y;generalize Js (a.b.2.2*b.up+a.up*b.b.2.2) ((b.dn - b.b.2.2)*b.dn)=Z;simp only [azl];cases hX:X.2 with
  | true=>rw [ap,kw];rfl
  | false=>rw [al,kw];rfl
def rtd (n:Int):Int:=(isq n.toNat:Int)
def rtu (n:Int):Int:=if rtd n*rtd n < n then rtd n+1 else rtd n
theorem po {n:Int}(h1:0<=n)(h2:n < 288230376151711744){k:Int->Option α}:eG α n k=k (rtd n):=by
 obtain⟨m,rfl⟩:∃ m:Nat,n=(m:Int):=⟨n.toNat,by omega⟩
 rw [wY (by omega)];unfold rtd;rw [Int.toNat_natCast]
theorem yH {n:Int}(h1:0<=n)(h2:n < 288230376151711744):0<=rtd n/\rtd n < 536870912:=by
 have:=aje (n:=n.toNat) (by omega);unfold rtd;omega
theorem ajg {n:Int}(h1:0<=n)(h2:n < 288230376151711744):rtd n*rtd n<=n:=by
 have:=O8 (n:=n.toNat) (by omega);have e:((isq n.toNat*isq n.toNat:Nat):Int)=rtd n*rtd n:=by unfold rtd;push_cast;rfl
 rw [<- e];omega
theorem AS {n:Int}(h1:1<=n)(h2:n < 288230376151711744):1<=rtd n:=by
 have:=PQ (n:=n.toNat) (a:=1) (by omega) (by omega);unfold rtd;omega
theorem Qn {n:Int}(h1:0<=n)(h2:n < 288230376151711744){k:Int->Option α}:p7 α n k=k (rtu n):=by
 have h:=yH h1 h2;have q:=ajg h1 h2;have q0:=Int.mul_nonneg h.1 h.1;simp only [p7,af,Iw];rw [po h1 h2];unfold rtu;generalize rtd n=r at *;rw [aj (n:=r*r) (by omega) (by omega),aK,aj (n:=r+1) (by omega) (by omega)];split <;> rfl
def Xx (x y w:Int):Int × Int:=
 if x < 0 then ((oo (sz y) (2*w)).1,if y < 0 then 0 - w else w) else (w,(oo y (2*w)).1)
def CU (x y r m w v:Int):B3:=
 ((Xx x y w).1,(Xx x y w).2,w64 (w64 (cel (r*1048576) v+3)+cel 1048576 w))
def o6 (a:Bl):Bl × Int:=
 if a.dn<=a.b.2.2 then (Bl0,9) else
 if a.b.1 < 0/\(-a.b.2.2<=a.b.2.1/\a.b.2.1<=a.b.2.2)/\a.b.2.2 ≠ 0 then (Bl0,14) else
 iV (CU a.b.1 a.b.2.1 a.b.2.2 a.dn (rtd ((a.dn+sz a.b.1)*524288)) (rtd (a.dn*1048576)))
theorem al8 {x y r m:Int}(hx:-67108864<=x/\x<=67108864)(hy:-67108864<=y/\y<=67108864)(hr:0<=r/\r<=67108864)(hm:r < m)(hm2:m<=94906265)
  {k:Int->Int->Int->Int->Option α} (h101:∀ (f:Int->Option α),oQ α x y f=f m) :
  rF α x y r k=if x < 0/\(-r<=y/\y<=r)/\r ≠ 0 then k x y r 14 else
   (fun (V:B3)=>k V.1 V.2.1 V.2.2 0) (CU x y r m (rtd ((m+sz x)*524288)) (rtd (m*1048576))):=by
 have sx:=GS hx.1 hx.2;have sy:=GS hy.1 hy.2;simp only [rF,af,JD];rw [h101,decide_eq_false (by omega),al];simp only [uQ,af,Gi];rw [Mb.f197_eq (by omega) (by omega),aK];have body:∀ (z:Option α),z=(fun (V:B3)=>k V.1 V.2.1 V.2.2 0) (CU x y r m (rtd ((m+sz x)*524288)) (rtd (m*1048576))) ->
   oR α x (fun x17=>eG α (w64 (w64 (m+x17)*524288)) fun x18=>mO α y 1048576 (w64 (2*x18)) fun x19 x20=>
    pW α x18 x y (fun x35 x36=>eG α (w64 (m*1048576)) fun x41=>cG α (w64 (r*1048576)) x41 fun x42=>cG α 1048576 x18 fun x43=>k x35 x36 (w64 (w64 (x42+3)+x43)) 0)
     (fun x37 x38=>eG α (w64 (m*1048576)) fun x44=>cG α (w64 (r*1048576)) x44 fun x45=>cG α 1048576 x18 fun x46=>k x38 x18 (w64 (w64 (x45+3)+x46)) 0)
     (fun x39=>eG α (w64 (m*1048576)) fun x47=>cG α (w64 (r*1048576)) x47 fun x48=>cG α 1048576 x18 fun x49=>k x18 x19 (w64 (w64 (x48+3)+x49)) 0))=z:=by
  rintro z rfl
  rw [JF (by omega) (by omega),aj (n:=m+sz x) (by omega) (by omega),aj (n:=(m+sz x)*524288) (by omega) (by omega),po (by omega) (by omega)];have hw:=yH (n:=(m+sz x)*524288) (by omega) (by omega);have hw1:=AS (n:=(m+sz x)*524288) (by omega) (by omega);have hv:=yH (n:=m*1048576) (by omega) (by omega);have hv1:=AS (n:=m*1048576) (by omega) (by omega);rw [aj (n:=m*1048576) (by omega) (by omega),aj (n:=r*1048576) (by omega) (by omega)];simp only [po (n:=m*1048576) (by omega) (by omega)];generalize rtd ((m+sz x)*524288)=w at *;generalize rtd (m*1048576)=v at *;rw [aj (n:=2*w) (by omega) (by omega),Az (by omega) (by omega) (by omega) (by omega)];simp only [fR (n:=r*1048576) (d:=v) (by omega),fR (n:=1048576) (d:=w) (by omega)];simp only [pW,af,Hz];rw [aK];unfold CU Xx;by_cases c1:x < 0
  ·rw [if_pos c1,JF (by omega) (by omega),aj (n:=2*w) (by omega) (by omega),Az (by omega) (by omega) (by omega) (by omega),aK,aj (n:=0 - w) (by omega) (by omega)]
   generalize oo (sz y) (2*w)=X;rw [if_pos c1];by_cases c2:y < 0
   ·rw [if_pos c2,if_pos c2]
   ·rw [if_neg c2,if_neg c2]
  ·rw [if_neg c1,if_neg c1]
 by_cases c1:x < 0
 ·rw [if_pos c1,aK]
  by_cases c2:-r<=y/\y<=r
  ·rw [if_pos c2]
   by_cases c3:r=0
   ·rw [show (r != 0)=false by rw [c3];rfl,al,if_neg (fun h=>h.2.2 c3)]
    exact body _ rfl
   ·rw [bne_iff_ne.2 c3,ap,if_pos ⟨c1,c2,c3⟩]
  ·rw [if_neg c2,al,if_neg (fun h=>c2 h.2.1)]
   exact body _ rfl
 ·rw [if_neg c1,al,if_neg (fun h=>c1 h.1)]
  exact body _ rfl
theorem auH (a:Bl){k:Nat->Nat->Int->Int->Option α}:yz α a.n1 a.n2 a.r k=KB k (o6 a):=by
 have g:=a.bd;have d:=a.dn_bd;simp only [yz,af,QJ,IC,af,SY,nf,bne_self_eq_false,al];unfold o6;by_cases c:a.dn<=a.b.2.2
 ·rw [if_pos c]
  simp only [rF,af,JD,zX];show cK (decide (a.dn<=a.b.2.2)) _ _=_;rw [decide_eq_true c,ap,show ((9:Int) != 0)=true from rfl,ap];exact KB0
 ·rw [if_neg c]
  show rF α a.b.1 a.b.2.1 a.b.2.2 _=_;rw [al8 g.1 g.2.1 g.2.2 (m:=a.dn) (by omega) d.2 (fun f=>zX a)];generalize CU a.b.1 a.b.2.1 a.b.2.2 a.dn (rtd ((a.dn+sz a.b.1)*524288)) (rtd (a.dn*1048576))=V;by_cases c2:a.b.1 < 0/\(-a.b.2.2<=a.b.2.1/\a.b.2.1<=a.b.2.2)/\a.b.2.2 ≠ 0
  ·rw [if_pos c2,if_pos c2,show ((14:Int) != 0)=true from rfl,ap]
   exact KB0
  ·rw [if_neg c2,if_neg c2]
   show cK ((0:Int) != 0) _ _=_;rw [show ((0:Int) != 0)=false from rfl,al,kw]
def rr1 (lo hi:Int):Bl × Int:=
 if (cL lo hi).2 ≠ 0 then (Bl0,(cL lo hi).2) else
 if 0<=lo then cL (rtd (lo*1048576)) (rtu (hi*1048576)) else (Bl0,14)
def jX (lo hi:Int):Bl × Int:=
 if (cL lo hi).2 ≠ 0 then (Bl0,(cL lo hi).2) else
 if 0<=lo then cL (rtd (lo*1048576)) (rtu (hi*1048576)) else
 if hi<=0 then (if (rr1 (-hi) (-lo)).2 ≠ 0 then (Bl0,(rr1 (-hi) (-lo)).2) else Ev (rr1 (-hi) (-lo)).1) else (Bl0,14)
theorem yL {lo hi:Int}(h:(cL lo hi).2=0):(-67108864<=lo/\lo<=67108864)/\(-67108864<=hi/\hi<=67108864)/\lo<=hi:=by
 unfold cL qx at h;by_cases c:decide (-67108864<=lo/\lo<=67108864)=true/\decide (-67108864<=hi/\hi<=67108864)=true
 ·rw [if_pos c] at h
  by_cases c2:hi < lo
  ·rw [if_pos c2] at h;cases h
  ·have h1:=of_decide_eq_true c.1
   have h2:=of_decide_eq_true c.2;exact⟨h1,h2,by omega⟩
 ·rw [if_neg c] at h;cases h
theorem aaX {lo hi:Int}(hn:0<=lo\/0 < hi\/(cL lo hi).2 ≠ 0){k:Nat->Nat->Int->Int->Option α}:Bd α lo hi k=KB k (rr1 lo hi):=by
 simp only [Bd,af,XU,J2];unfold rr1;show cK ((cL lo hi).2 != 0) _ _=_;by_cases c:(cL lo hi).2=0
 ·rw [c,if_neg (fun h=>h rfl),show ((0:Int) != 0)=false from rfl,al,aK]
  obtain⟨g1,g2,g3⟩:=yL c;by_cases c2:0<=lo
  ·rw [if_pos c2,if_pos c2,aj (n:=lo*1048576) (by omega) (by omega),aj (n:=hi*1048576) (by omega) (by omega),po (by omega) (by omega),Qn (by omega) (by omega)]
  ·have:¬ hi<=0:=by
    rcases hn with h | h | h
    ·omega
    ·omega
    ·exact absurd c h
   rw [if_neg c2,if_neg c2,decide_eq_false this,al];exact KB0
 ·rw [if_pos c,bne_iff_ne.2 c,ap]
  exact KB0
theorem amr {lo hi:Int}{k:Nat->Nat->Int->Int->Option α}:xx α lo hi k=KB k (jX lo hi):=by
 simp only [xx,af,XK,J2];unfold jX;show cK ((cL lo hi).2 != 0) _ _=_;by_cases c:(cL lo hi).2=0
 ·rw [c,if_neg (fun h=>h rfl),show ((0:Int) != 0)=false from rfl,al,aK]
  obtain⟨g1,g2,g3⟩:=yL c;by_cases c2:0<=lo
  ·rw [if_pos c2,if_pos c2,aj (n:=lo*1048576) (by omega) (by omega),aj (n:=hi*1048576) (by omega) (by omega),po (by omega) (by omega),Qn (by omega) (by omega)]
  ·rw [if_neg c2,if_neg c2,aK]
   by_cases c3:hi<=0
   ·rw [if_pos c3,if_pos c3,aj (n:=0 - hi) (by omega) (by omega),aj (n:=0 - lo) (by omega) (by omega),Int.zero_sub,Int.zero_sub,aaX (Or.inl (by omega))]
    generalize rr1 (-hi) (-lo)=u;show cK (u.2 != 0) _ _=_;by_cases c4:u.2=0
    ·rw [c4,if_neg (fun h=>h rfl),show ((0:Int) != 0)=false from rfl,al]
     exact VZ u.1
    ·rw [if_pos c4,bne_iff_ne.2 c4,ap]
     exact KB0
   ·rw [if_neg c3,if_neg c3]
    exact KB0
 ·rw [if_pos c,bne_iff_ne.2 c,ap]
  exact KB0
end Go.AM.K
