/- Quotients of numbers of two words, as math/bits has them. -/
import Derived.Test.YtmcplmhohldpjaaGreatYW6
namespace Go.AM.K
set_option linter.unusedVariables false
set_option linter.unusedSimpArgs false
variable {α:Type}
abbrev VS:ByteArray:=⟨#[0,1,2,2,3,3,3,3,4,4,4,4,4,4,4,4,5,5,5,5,5,5,5,5,5,5,5,5,5,5,5,5,6,6,6,6,6,6,6,6,6,6,6,6,6,6,6,6,6,6,6,6,6,6,6,6,6,6,6,6,6,6,6,6,7,7,7,7,7,7,7,7,7,7,7,7,7,7,7,7,7,7,7,7,7,7,7,7,7,7,7,7,7,7,7,7,7,7,7,7,7,7,7,7,7,7,7,7,7,7,7,7,7,7,7,7,7,7,7,7,7,7,7,7,7,7,7,7,8,8,8,8,8,8,8,8,8,8,8,8,8,8,8,8,8,8,8,8,8,8,8,8,8,8,8,8,8,8,8,8,8,8,8,8,8,8,8,8,8,8,8,8,8,8,8,8,8,8,8,8,8,8,8,8,8,8,8,8,8,8,8,8,8,8,8,8,8,8,8,8,8,8,8,8,8,8,8,8,8,8,8,8,8,8,8,8,8,8,8,8,8,8,8,8,8,8,8,8,8,8,8,8,8,8,8,8,8,8,8,8,8,8,8,8,8,8,8,8,8,8,8,8,8,8,8,8]⟩
def ahS (x:Nat):Bool:=match VS[x]? with
 | some b=>decide (1<=x->1<=b.toNat/\b.toNat<=8/\2 ^ (b.toNat - 1)<=x/\x < 2 ^ b.toNat)
 | none=>false
theorem acB:∀ x:Fin 256,ahS x.val=true:=by decide +kernel
theorem ar2 {x:Int}(h1:1<=x)(h2:x < 256):∃ t:Nat,1<=t/\t<=8/\2 ^ (t - 1)<=x.toNat/\x.toNat < 2 ^ t/\∀ {α:Type} (f:UInt8->Option α) (k:Int->Option α),(∀ b:UInt8,b.toNat=t->f b=k t)->l7 VS (IntKind.wrap .u8 x) f=k t:=by
 have h:=acB ⟨x.toNat,by omega⟩
 have hw:IntKind.wrap .u8 x=x:=by
  have:IntKind.wrap .u8 x=x % 256:=by simp [IntKind.wrap,IntKind.signed,IntKind.bits]
  rw [this];exact Int.emod_eq_of_lt (by omega) h2
 unfold ahS at h
 split at h
 ·rename_i b hb
  obtain⟨a1,a2,a3,a4⟩:=of_decide_eq_true h (by show 1<=x.toNat;omega)
  refine⟨b.toNat,a1,a2,a3,a4,fun f k hf=>?_⟩
  unfold l7
  rw [hw,if_pos (by omega)]
  have hb':VS[x.toNat]?=some b:=hb
  rw [hb']
  exact hf b rfl
 ·cases h
theorem IV {a t:Nat}(ht:1<=t):2 ^ (a+t - 1)=2 ^ a*2 ^ (t - 1)/\2 ^ (a+t)=2 ^ a*2 ^ t:=by
 refine⟨?_,Nat.pow_add 2 a t⟩
 rw [<- Nat.pow_add];congr 1;omega
theorem Vn {y:Int}(h0:0<=y){a:Nat}(ha:a<=56)(h1:1<=y / 2 ^ a)(h2:y / 2 ^ a < 256):∃ L:Nat,1<=L/\L<=64/\2 ^ (L - 1)<=y.toNat/\y.toNat < 2 ^ L /\
  ∀ {α:Type} (k:Int->Option α),l7 VS (IntKind.wrap .u8 (y / 2 ^ a)) (fun x=>k (w64 ((a:Int)+w64 ((x.toNat:Nat):Int))))=k (L:Int):=by
 obtain⟨t,t1,t2,t3,t4,t5⟩:=ar2 h1 h2
 obtain⟨p1,p2⟩:=IV (a:=a) t1
 obtain⟨n,rfl⟩:=Int.eq_ofNat_of_zero_le h0
 have e:((n:Int) / 2 ^ a).toNat=n / 2 ^ a:=by
  have:((n:Int) / 2 ^ a)=((n / 2 ^ a:Nat):Int):=by push_cast;rfl
  rw [this];rfl
 rw [e] at t3 t4
 have hp:0 < 2 ^ a:=Nat.two_pow_pos a
 refine⟨a+t,by omega,by omega,?_,?_,fun k=>?_⟩
 ·rw [p1]
  show _<=n
  calc 2 ^ a*2 ^ (t - 1)<=2 ^ a*(n / 2 ^ a):=Nat.mul_le_mul_left _ t3
   _<=n:=Nat.mul_div_le n _
 ·rw [p2,Nat.mul_comm]
  exact (Nat.div_lt_iff_lt_mul hp).1 t4
 ·refine t5 _ (fun z=>k ((a:Int)+z)) (fun b hb=>?_) |>.trans ?_
  ·show k (w64 ((a:Int)+w64 ((b.toNat:Nat):Int)))=_
   rw [hb,ak (n:=(t:Int)) (by omega) (by omega),ak (by omega) (by omega)]
  ·congr 1
theorem vC {n:Int}{a:Nat}:Int.fdiv n (2 ^ a)=n / 2 ^ a:=Int.fdiv_eq_ediv_of_nonneg n (Int.le_of_lt (Int.pow_pos (by decide)))
section
variable {x c:Int}{p q r s:Int->Int->Option α}{p0:Int->Option α}{z:Bool->Option α}
theorem EU (h:4294967296<=x):jn α x p0 z=p0 (x / 4294967296):=by
 simp only [jn,af,uB,vC];rw [decide_eq_true h,aq];rfl
theorem E4 (h:¬ 4294967296<=x):jn α x p0 z=z false:=by
 simp only [jn,af,uB];rw [decide_eq_false h,ap]
theorem Xw (hc:0<=c/\c<=100)(h:65536<=x):ji α x c p z=p (x / 65536) (c+16):=by
 simp only [ji,af,u7,vC];rw [decide_eq_true h,aq,ak (by omega) (by omega)];rfl
theorem Z0 (h:¬ 65536<=x):ji α x c p z=z false:=by
 simp only [ji,af,u7];rw [decide_eq_false h,ap]
theorem Wn (hc:0<=c/\c<=100)(h:65536<=x):je α x c p z=p (x / 65536) (c+16):=by
 simp only [je,af,ut,vC];rw [decide_eq_true h,aq,ak (by omega) (by omega)];rfl
theorem XV (h:¬ 65536<=x):je α x c p z=z false:=by
 simp only [je,af,ut];rw [decide_eq_false h,ap]
theorem U3 (hc:0<=c/\c<=100)(h:256<=x):ie α x c p z=p (x / 256) (c+8):=by
 simp only [ie,af,ud,vC];rw [decide_eq_true h,aq,ak (by omega) (by omega)];rfl
theorem XM (h:¬ 256<=x):ie α x c p z=z false:=by
 simp only [ie,af,ud];rw [decide_eq_false h,ap]
theorem Cf (hc:0<=c/\c<=100)(h:256<=x):g7 α x c p z=p (x / 256) (c+8):=by
 simp only [g7,af,vg,vC];rw [decide_eq_true h,aq,ak (by omega) (by omega)];rfl
theorem Dl (h:¬ 256<=x):g7 α x c p z=z false:=by
 simp only [g7,af,vg];rw [decide_eq_false h,ap]
end
theorem ae5 {y:Int}(h1:1<=y)(h2:y < 18446744073709551616):∃ L:Nat,1<=L/\L<=64/\2 ^ (L - 1)<=y.toNat/\y.toNat < 2 ^ L/\∀ {α:Type} (k:Int->Option α),gq α y k=k (L:Int):=by
 have fin:∀ (a:Nat) (z:Int),a<=56->z=y / 2 ^ a->1<=z->z < 256->(∀ {α:Type} (k:Int->Option α),gq α y k=l7 VS (IntKind.wrap .u8 z) (fun x=>k (w64 ((a:Int)+w64 ((x.toNat:Nat):Int))))) ->
   ∃ L:Nat,1<=L/\L<=64/\2 ^ (L - 1)<=y.toNat/\y.toNat < 2 ^ L/\∀ {α:Type} (k:Int->Option α),gq α y k=k (L:Int):=by
  intro a z ha hz h3 h4 hk
  subst hz
  obtain⟨L,l1,l2,l3,l4,l5⟩:=Vn (y:=y) (by omega) ha h3 h4
  exact⟨L,l1,l2,l3,l4,fun k=>(hk k).trans (l5 k)⟩
 by_cases c0:4294967296<=y
 ·by_cases c1:65536<=y / 4294967296
  ·by_cases c2:256<=y / 4294967296 / 65536
   ·exact fin 56 (y / 4294967296 / 65536 / 256) (by omega) (by simp only [Nat.reducePow,Int.reducePow] <;> omega) (by omega) (by omega) fun k=>by rw [gq,af,iE,EU c0,Xw ⟨by omega,by omega⟩ c1,U3 ⟨by omega,by omega⟩ c2];rfl
   ·exact fin 48 (y / 4294967296 / 65536) (by omega) (by simp only [Nat.reducePow,Int.reducePow] <;> omega) (by omega) (by omega) fun k=>by rw [gq,af,iE,EU c0,Xw ⟨by omega,by omega⟩ c1,XM c2];rfl
  ·by_cases c2:256<=y / 4294967296
   ·exact fin 40 (y / 4294967296 / 256) (by omega) (by simp only [Nat.reducePow,Int.reducePow] <;> omega) (by omega) (by omega) fun k=>by rw [gq,af,iE,EU c0,Z0 c1,Cf ⟨by omega,by omega⟩ c2];rfl
   ·exact fin 32 (y / 4294967296) (by omega) (by simp only [Nat.reducePow,Int.reducePow] <;> omega) (by omega) (by omega) fun k=>by rw [gq,af,iE,EU c0,Z0 c1,Dl c2];rfl
 ·by_cases c1:65536<=y
  ·by_cases c2:256<=y / 65536
   ·exact fin 24 (y / 65536 / 256) (by omega) (by simp only [Nat.reducePow,Int.reducePow] <;> omega) (by omega) (by omega) fun k=>by rw [gq,af,iE,E4 c0,Wn ⟨by omega,by omega⟩ c1,U3 ⟨by omega,by omega⟩ c2];rfl
   ·exact fin 16 (y / 65536) (by omega) (by simp only [Nat.reducePow,Int.reducePow] <;> omega) (by omega) (by omega) fun k=>by rw [gq,af,iE,E4 c0,Wn ⟨by omega,by omega⟩ c1,XM c2];rfl
  ·by_cases c2:256<=y
   ·exact fin 8 (y / 256) (by omega) (by simp only [Nat.reducePow,Int.reducePow] <;> omega) (by omega) (by omega) fun k=>by rw [gq,af,iE,E4 c0,XV c1,Cf ⟨by omega,by omega⟩ c2];rfl
   ·exact fin 0 y (by omega) (by simp only [Nat.reducePow,Int.reducePow] <;> omega) (by omega) (by omega) fun k=>by rw [gq,af,iE,E4 c0,XV c1,Dl c2];rfl
theorem agt {y:Int}(h1:1<=y)(h2:y < 18446744073709551616):∃ s:Nat,s<=63/\9223372036854775808<=y*2 ^ s/\y*2 ^ s < 18446744073709551616/\∀ {α:Type} (k:Int->Option α),yN α y k=k (s:Int):=by
 obtain⟨L,l1,l2,l3,l4,l5⟩:=ae5 h1 h2
 obtain⟨n,rfl⟩:=Int.eq_ofNat_of_zero_le (show 0<=y by omega)
 have l3:2 ^ (L - 1)<=n:=l3
 have l4:n < 2 ^ L:=l4
 refine⟨64 - L,by omega,?_,?_,fun k=>?_⟩
 ·have:2 ^ (L - 1)*2 ^ (64 - L)<=n*2 ^ (64 - L):=Nat.mul_le_mul_right _ l3
  rw [<- Nat.pow_add,show L - 1+(64 - L)=63 by omega,show (2:Nat) ^ 63=9223372036854775808 from rfl] at this
  rw [show (n:Int)*2 ^ (64 - L)=((n*2 ^ (64 - L):Nat):Int) by push_cast;rfl]
  generalize n*2 ^ (64 - L)=z at *
  omega
 ·have:n*2 ^ (64 - L) < 2 ^ L*2 ^ (64 - L):=Nat.mul_lt_mul_of_pos_right l4 (Nat.two_pow_pos _)
  rw [<- Nat.pow_add,show L+(64 - L)=64 by omega,show (2:Nat) ^ 64=18446744073709551616 from rfl] at this
  rw [show (n:Int)*2 ^ (64 - L)=((n*2 ^ (64 - L):Nat):Int) by push_cast;rfl]
  generalize n*2 ^ (64 - L)=z at *
  omega
 ·simp only [yN,af,Ql]
  rw [l5,ak (by omega) (by omega)]
  congr 1;omega
section
variable {a b d U:Int}
theorem PQ (ha:2147483648<=a)(hb:0<=b)(hd:0<=d/\d < 4294967296)(hU:0<=U)(hUV:U < a*4294967296+b) :
  0<=(U*4294967296+d) / (a*4294967296+b)/\(U*4294967296+d) / (a*4294967296+b) < 4294967296:=by
 refine⟨Int.ediv_nonneg (by omega) (by omega),?_⟩
 exact Int.ediv_lt_of_lt_mul (by omega) (by omega)
theorem ahs {q r:Int}(ha:2147483648<=a)(hb:0<=b)(hq:q*a+r=U)(h:4294967296*r+d < q*b):(U*4294967296+d) / (a*4294967296+b) < q:=by
 refine Int.ediv_lt_of_lt_mul (by omega) ?_
 have:q*(a*4294967296+b)=(q*a)*4294967296+q*b:=by grind
 rw [this]
 generalize q*a=x at *
 generalize q*b=y at *
 omega
theorem Kx {q r:Int}(ha:2147483648<=a)(hb:0<=b)(hq:q*a+r=U)(h:q*b<=4294967296*r+d):q<=(U*4294967296+d) / (a*4294967296+b):=by
 refine Int.le_ediv_of_mul_le (by omega) ?_
 have:q*(a*4294967296+b)=(q*a)*4294967296+q*b:=by grind
 rw [this]
 generalize q*a=x at *
 generalize q*b=y at *
 omega
end
section
variable {a b d U:Int}(ha:2147483648<=a/\a < 4294967296)(hb:0<=b/\b < 4294967296)(hd:0<=d/\d < 4294967296)(hU:0<=U)(hUV:U < a*4294967296+b)
include ha hb hd hU hUV
theorem ZP {k1 k2:Int->Int->Bool->Option α}{Y:Option α}(h1:∀ r z,k1 ((U*4294967296+d) / (a*4294967296+b)) r z=Y)(h2:∀ r z,k2 ((U*4294967296+d) / (a*4294967296+b)) r z=Y) :
  ∀ (m n:Nat) (q r:Int),m < n->q*a+r=U->0<=r->r < 4294967296->4294967296<=r+m*2147483648->0<=q->(U*4294967296+d) / (a*4294967296+b)<=q->q<=4294967297->li α a b d k1 k2 n q r=Y:=by
 have hQ:=PQ ha.1 hb.1 hd hU hUV
 generalize hQQ:(U*4294967296+d) / (a*4294967296+b)=Q at *
 intro m
 induction m with
 | zero=>intro n q r hn hq hr hr2 hm;omega
 | succ m ih=>
  intro n q r hn hq hr hr2 hm hq0 hle hmax
  obtain⟨n,rfl⟩:∃ n',n=n'+1:=⟨n - 1,by omega⟩
  rw [li]
  simp only [tj,kN,af,C8]
  -- what a round does
  have round:Q < q->cK (decide (4294967296<=IntKind.wrap .u64 (r+a))) (k1 (IntKind.wrap .u64 (q - 1)) (IntKind.wrap .u64 (r+a)) (decide (4294967296<=IntKind.wrap .u64 (r+a)))) (li α a b d k1 k2 n (IntKind.wrap .u64 (q - 1)) (IntKind.wrap .u64 (r+a)))=Y:=by
   intro hlt
   have eq1:(q - 1)*a+(r+a)=U:=by rw [Int.sub_mul];omega
   rw [eC (n:=r+a) (by omega) (by omega),eC (n:=q - 1) (by omega) (by omega)]
   by_cases hbr:4294967296<=r+a
   ·rw [decide_eq_true hbr,aq]
    have hz:(q - 1)*b<=4294967296*4294967295:=Int.mul_le_mul (by omega) (by omega) hb.1 (by omega)
    have:=Kx (a:=a) (b:=b) (d:=d) (U:=U) ha.1 hb.1 eq1 (by omega)
    rw [hQQ] at this
    rw [show q - 1=Q by omega]
    exact h1 _ _
   ·rw [decide_eq_false hbr,ap]
    exact ih n (q - 1) (r+a) (by omega) eq1 (by omega) (by omega) (by omega) (by omega) (by omega) (by omega)
  by_cases c1:4294967296<=q
  ·rw [decide_eq_true c1,aq]
   exact round (by omega)
  ·rw [decide_eq_false c1,ap]
   have e1:IntKind.wrap .u64 (4294967296*r)=4294967296*r:=eC (by omega) (by omega)
   have hz:q*b<=4294967295*4294967295:=Int.mul_le_mul (by omega) (by omega) hb.1 (by omega)
   have hz0:0<=q*b:=Int.mul_nonneg hq0 hb.1
   rw [e1,eC (n:=4294967296*r+d) (by omega) (by omega),eC (n:=q*b) hz0 (by omega)]
   by_cases c2:4294967296*r+d < q*b
   ·rw [decide_eq_true c2,aq]
    have:=ahs ha.1 hb.1 hq c2
    rw [hQQ] at this
    exact round this
   ·rw [decide_eq_false c2,ap]
    have:=Kx ha.1 hb.1 hq (show q*b<=4294967296*r+d by omega)
    rw [hQQ] at this
    rw [show q=Q by omega]
    exact h2 _ _
theorem Yv {k1 k2:Int->Int->Bool->Option α}{Y:Option α}(h1:∀ r z,k1 r ((U*4294967296+d) / (a*4294967296+b)) z=Y)(h2:∀ r z,k2 r ((U*4294967296+d) / (a*4294967296+b)) z=Y) :
  ∀ (m n:Nat) (q r:Int),m < n->q*a+r=U->0<=r->r < 4294967296->4294967296<=r+m*2147483648->0<=q->(U*4294967296+d) / (a*4294967296+b)<=q->q<=4294967297->kR α a b d k1 k2 n r q=Y:=by
 have hQ:=PQ ha.1 hb.1 hd hU hUV
 generalize hQQ:(U*4294967296+d) / (a*4294967296+b)=Q at *
 intro m
 induction m with
 | zero=>intro n q r hn hq hr hr2 hm;omega
 | succ m ih=>
  intro n q r hn hq hr hr2 hm hq0 hle hmax
  obtain⟨n,rfl⟩:∃ n',n=n'+1:=⟨n - 1,by omega⟩
  rw [kR]
  simp only [tR,kH,af,Dd]
  have round:Q < q->cK (decide (4294967296<=IntKind.wrap .u64 (r+a))) (k1 (IntKind.wrap .u64 (r+a)) (IntKind.wrap .u64 (q - 1)) (decide (4294967296<=IntKind.wrap .u64 (r+a)))) (kR α a b d k1 k2 n (IntKind.wrap .u64 (r+a)) (IntKind.wrap .u64 (q - 1)))=Y:=by
   intro hlt
   have eq1:(q - 1)*a+(r+a)=U:=by rw [Int.sub_mul];omega
   rw [eC (n:=r+a) (by omega) (by omega),eC (n:=q - 1) (by omega) (by omega)]
   by_cases hbr:4294967296<=r+a
   ·rw [decide_eq_true hbr,aq]
    have hz:(q - 1)*b<=4294967296*4294967295:=Int.mul_le_mul (by omega) (by omega) hb.1 (by omega)
    have:=Kx (a:=a) (b:=b) (d:=d) (U:=U) ha.1 hb.1 eq1 (by omega)
    rw [hQQ] at this
    rw [show q - 1=Q by omega]
    exact h1 _ _
   ·rw [decide_eq_false hbr,ap]
    exact ih n (q - 1) (r+a) (by omega) eq1 (by omega) (by omega) (by omega) (by omega) (by omega) (by omega)
  by_cases c1:4294967296<=q
  ·rw [decide_eq_true c1,aq]
   exact round (by omega)
  ·rw [decide_eq_false c1,ap]
   have e1:IntKind.wrap .u64 (4294967296*r)=4294967296*r:=eC (by omega) (by omega)
   have hz:q*b<=4294967295*4294967295:=Int.mul_le_mul (by omega) (by omega) hb.1 (by omega)
   have hz0:0<=q*b:=Int.mul_nonneg hq0 hb.1
   rw [e1,eC (n:=4294967296*r+d) (by omega) (by omega),eC (n:=q*b) hz0 (by omega)]
   by_cases c2:4294967296*r+d < q*b
   ·rw [decide_eq_true c2,aq]
    have:=ahs ha.1 hb.1 hq c2
    rw [hQQ] at this
    exact round this
   ·rw [decide_eq_false c2,ap]
    have:=Kx ha.1 hb.1 hq (show q*b<=4294967296*r+d by omega)
    rw [hQQ] at this
    rw [show q=Q by omega]
    exact h2 _ _
theorem z7:(U / a)*a+U % a=U/\0<=U % a/\U % a < 4294967296/\0<=U / a/\(U*4294967296+d) / (a*4294967296+b)<=U / a/\U / a<=4294967297:=by
 have e:=Int.emod_add_mul_ediv U a
 have e1:=Int.emod_nonneg U (show a ≠ 0 by omega)
 have e2:=Int.emod_lt_of_pos U (show 0 < a by omega)
 have e3:U / a*a=a*(U / a):=Int.mul_comm _ _
 refine⟨by omega,e1,by omega,Int.ediv_nonneg hU (by omega),?_,?_⟩
 ·have:(U*4294967296+d) / (a*4294967296+b) < U / a+1:=by
   refine Int.ediv_lt_of_lt_mul (by omega) ?_
   have:(U / a+1)*(a*4294967296+b)=(a*(U / a)+a)*4294967296+(U / a+1)*b:=by grind
   have hn:0<=(U / a+1)*b:=Int.mul_nonneg (by have:=Int.ediv_nonneg hU (show 0<=a by omega);omega) hb.1
   omega
  omega
 ·have:U / a < 4294967298:=by
   refine Int.ediv_lt_of_lt_mul (by omega) ?_
   omega
  omega
end
end Go.AM.K
