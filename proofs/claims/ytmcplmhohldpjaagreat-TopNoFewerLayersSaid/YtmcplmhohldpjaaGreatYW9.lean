/- Quotients of numbers of two words: Div64. -/
import Derived.Test.YtmcplmhohldpjaaGreatYW8
namespace Go.AM.K
set_option linter.unusedVariables false
set_option linter.unusedSimpArgs false
variable {α:Type}
theorem afx {x y:Int}{s:Nat}(hs:s<=64)(hx:0<=x)(hx2:x*2 ^ s < 18446744073709551616)(hy:0<=y)(hy2:y < 2 ^ s):iOr .u64 (x*2 ^ s) y=x*2 ^ s+y:=by
 obtain⟨m,rfl⟩:=Int.eq_ofNat_of_zero_le hx
 obtain⟨n,rfl⟩:=Int.eq_ofNat_of_zero_le hy
 have e0:(m:Int)*2 ^ s=((m*2 ^ s:Nat):Int):=by push_cast;rfl
 have hn:n < 2 ^ s:=by exact_mod_cast hy2
 rw [e0] at hx2 ⊢
 have hm:m*2 ^ s < 18446744073709551616:=by generalize m*2 ^ s=z at *;omega
 have hp:2 ^ s<=18446744073709551616:=Nat.pow_le_pow_right (n:=2) (by decide) hs
 have e:((BitVec.ofInt 64 ((m*2 ^ s:Nat):Int)) ||| (BitVec.ofInt 64 (n:Int))).toNat=m*2 ^ s+n:=by
  rw [BitVec.toNat_or]
  have e1:(BitVec.ofInt 64 ((m*2 ^ s:Nat):Int)).toNat=m*2 ^ s:=by
   rw [BitVec.ofInt_natCast,BitVec.toNat_ofNat]
   exact Nat.mod_eq_of_lt hm
  have e2:(BitVec.ofInt 64 (n:Int)).toNat=n:=by
   rw [BitVec.ofInt_natCast,BitVec.toNat_ofNat]
   exact Nat.mod_eq_of_lt (by omega)
  rw [e1,e2,<- Nat.shiftLeft_eq,<- Nat.shiftLeft_add_eq_or_of_lt hn]
 have hlt:m*2 ^ s+n < 18446744073709551616:=by
  rw [<- e];exact BitVec.isLt _
 unfold iOr
 show IntKind.wrap .u64 (((BitVec.ofInt 64 ((m*2 ^ s:Nat):Int)) ||| (BitVec.ofInt 64 (n:Int))).toNat:Int)=_
 rw [e]
 generalize m*2 ^ s=z at *
 rw [eC (by omega) (by omega)];omega
section
variable {a b d U:Int}(ha:2147483648<=a/\a < 4294967296)(hb:0<=b/\b < 4294967296)(hd:0<=d/\d < 4294967296)(hU:0<=U)(hUV:U < a*4294967296+b)
include ha hb hd hU hUV
theorem HW:IntKind.wrap .u64 (U.tdiv a)=U / a/\IntKind.wrap .u64 (U - IntKind.wrap .u64 (U / a*a))=U % a:=by
 obtain⟨s1,s2,s3,s4,s5,s6⟩:=z7 ha hb hd hU hUV
 rw [Int.tdiv_eq_ediv_of_nonneg hU]
 refine⟨eC s4 (by omega),?_⟩
 have s7:0<=U / a*a:=Int.mul_nonneg s4 (by omega)
 generalize U / a*a=z at *
 rw [eC (n:=z) (by omega) (by omega),eC (by omega) (by omega)]
 omega
theorem UD {k1 k2:Int->Int->Bool->Option α}{Y:Option α}(h1:∀ r z,k1 ((U*4294967296+d) / (a*4294967296+b)) r z=Y)(h2:∀ r z,k2 ((U*4294967296+d) / (a*4294967296+b)) r z=Y) :
  nM α a b d (IntKind.wrap .u64 (U.tdiv a)) (IntKind.wrap .u64 (U - IntKind.wrap .u64 (IntKind.wrap .u64 (U.tdiv a)*a))) k1 k2=Y:=by
 obtain⟨g1,g2⟩:=HW ha hb hd hU hUV
 obtain⟨s1,s2,s3,s4,s5,s6⟩:=z7 ha hb hd hU hUV
 rw [g1,g2]
 have hf:2 < aN:=by have:=cB;omega
 rw [nM,af,Cg,oa,af,Cn]
 exact ZP ha hb hd hU hUV h1 h2 2 aN _ _ hf s1 s2 s3 (by omega) s4 s5 s6
theorem Su {k1 k2:Int->Int->Bool->Option α}{Y:Option α}(h1:∀ r z,k1 r ((U*4294967296+d) / (a*4294967296+b)) z=Y)(h2:∀ r z,k2 r ((U*4294967296+d) / (a*4294967296+b)) z=Y) :
  jf α a b d (IntKind.wrap .u64 (U - IntKind.wrap .u64 (IntKind.wrap .u64 (U.tdiv a)*a))) (IntKind.wrap .u64 (U.tdiv a)) k1 k2=Y:=by
 obtain⟨g1,g2⟩:=HW ha hb hd hU hUV
 obtain⟨s1,s2,s3,s4,s5,s6⟩:=z7 ha hb hd hU hUV
 rw [g1,g2]
 have hf:2 < aN:=by have:=cB;omega
 rw [jf,af,CC,mP,af,DA]
 exact Yv ha hb hd hU hUV h1 h2 2 aN _ _ hf s1 s2 s3 (by omega) s4 s5 s6
end
theorem NK {U d V:Int}(hV:0 < V)(hV2:V < 18446744073709551616):IntKind.wrap .u64 (IntKind.wrap .u64 (IntKind.wrap .u64 (U*4294967296)+d) - IntKind.wrap .u64 ((U*4294967296+d) / V*V))=(U*4294967296+d) % V:=by
 have e:=Int.emod_add_mul_ediv (U*4294967296+d) V
 have e1:=Int.emod_nonneg (U*4294967296+d) (show V ≠ 0 by omega)
 have e2:=Int.emod_lt_of_pos (U*4294967296+d) hV
 rw [Int.mul_comm V] at e
 simp only [Oq]
 generalize (U*4294967296+d) / V*V=z at *
 generalize (U*4294967296+d) % V=y at *
 omega
theorem Oc {x1 x2 x3:Int}(h0:0<=x1)(h1:x1 < x3)(h2:0<=x2)(h2':x2 < 18446744073709551616)(h3:x3 < 18446744073709551616){k:Int->Int->Option α} :
  uE α x1 x2 x3 k=k ((x1*18446744073709551616+x2) / x3) ((x1*18446744073709551616+x2) % x3):=by
 rw [uE,af,O2]
 rw [show (x3 == 0)=false from beq_eq_false_iff_ne.2 (by omega),ap,decide_eq_false (by omega),ap]
 by_cases hz:x1=0
 ·subst hz
  have g:(x3 != 0)=true:=by simp;omega
  rw [show ((0:Int) == 0)=true from rfl,aq,cJ g,cJ g,Int.tdiv_eq_ediv_of_nonneg h2,Int.tmod_eq_emod_of_nonneg h2,eC (Int.ediv_nonneg h2 (by omega)) (by have:=Int.ediv_le_self x3 h2;omega)]
  simp
 ·rw [show (x1 == 0)=false from beq_eq_false_iff_ne.2 hz,ap]
  obtain⟨s,hs,v1,v2,hl⟩:=agt (y:=x3) (by omega) h3
  rw [hl]
  have ws:IntKind.wrap .u64 (s:Int)=s:=eC (by omega) (by omega)
  have w6:IntKind.wrap .u64 (64 - (s:Int))=((64 - s:Nat):Int):=by rw [eC (by omega) (by omega)];omega
  simp only [ws,w6,Int.toNat_natCast,Nat.min_eq_left (show s<=64 by omega),Nat.min_eq_left (show 64 - s<=64 by omega)]
  have hp:(0:Int) < 2 ^ s:=Int.pow_pos (by decide)
  have hp2:(0:Int) < 2 ^ (64 - s):=Int.pow_pos (by decide)
  have hpp:(2:Int) ^ (64 - s)*2 ^ s=18446744073709551616:=by rw [<- Int.pow_add,show 64 - s+s=64 by omega];rfl
  -- the dividend,LN
  have hX:(x1*18446744073709551616+x2)*2 ^ s=(x1*2 ^ s+x2 / 2 ^ (64 - s))*18446744073709551616+x2*2 ^ s % 18446744073709551616:=by
   have e1:=Int.emod_add_mul_ediv (x2*2 ^ s) 18446744073709551616
   have e2:x2*2 ^ s / 18446744073709551616=x2 / 2 ^ (64 - s):=by
    rw [<- hpp];exact Int.mul_ediv_mul_of_pos_left x2 _ hp
   rw [e2] at e1
   rw [Int.add_mul,Int.add_mul]
   have e3:x1*18446744073709551616*2 ^ s=x1*2 ^ s*18446744073709551616:=by rw [Int.mul_right_comm]
   rw [e3]
   omega
  have hx1:x1*2 ^ s < 18446744073709551616:=by
   have:x1*2 ^ s < x3*2 ^ s:=Int.mul_lt_mul_of_pos_right h1 hp
   omega
  have hx10:0<=x1*2 ^ s:=Int.mul_nonneg h0 (Int.le_of_lt hp)
  have hq0:0<=x2 / 2 ^ (64 - s):=Int.ediv_nonneg h2 (Int.le_of_lt hp2)
  have hq1:x2 / 2 ^ (64 - s) < 2 ^ s:=by
   refine Int.ediv_lt_of_lt_mul hp2 ?_
   rw [Int.mul_comm,hpp];exact h2'
  have hlt:(x1*18446744073709551616+x2)*2 ^ s < x3*2 ^ s*18446744073709551616:=by
   have:(x1*18446744073709551616+x2)*2 ^ s < (x3*18446744073709551616)*2 ^ s:=Int.mul_lt_mul_of_pos_right (by omega) hp
   rw [Int.mul_right_comm x3] at this
   exact this
  have hdiv:(x1*18446744073709551616+x2)*2 ^ s / (x3*2 ^ s)=(x1*18446744073709551616+x2) / x3:=Int.mul_ediv_mul_of_pos_left _ _ hp
  have hmod:(x1*18446744073709551616+x2)*2 ^ s % (x3*2 ^ s) / 2 ^ s=(x1*18446744073709551616+x2) % x3:=by
   rw [Int.mul_comm _ (2 ^ s),Int.mul_comm x3,Int.mul_emod_mul_of_pos _ _ hp];exact Int.mul_ediv_cancel_left _ (Int.ne_of_gt hp)
  rw [eC hx10 hx1,vC (n:=x2) (a:=64 - s),afx (by omega) h0 hx1 hq0 hq1,eC (n:=x3*2 ^ s) (by omega) v2,Oq (n:=x2*2 ^ s)]
  generalize x3*2 ^ s=V at *
  generalize hXX:(x1*18446744073709551616+x2)*2 ^ s=X at *
  have hU0:0<=x1*2 ^ s+x2 / 2 ^ (64 - s):=by omega
  generalize x1*2 ^ s+x2 / 2 ^ (64 - s)=U at *
  have hD1:=Int.emod_nonneg (x2*2 ^ s) (show (18446744073709551616:Int) ≠ 0 by decide)
  have hD2:=Int.emod_lt_of_pos (x2*2 ^ s) (show (0:Int) < 18446744073709551616 by decide)
  generalize x2*2 ^ s % 18446744073709551616=D at *
  rw [<- hdiv,<- hmod]
  simp only [Ux]
  rw [Ib (n:=V) (by omega) v2,Ib (n:=D) hD1 hD2]
  have hV:V=V / 4294967296*4294967296+V % 4294967296:=by omega
  have ha:2147483648<=V / 4294967296/\V / 4294967296 < 4294967296:=by omega
  have hb:0<=V % 4294967296/\V % 4294967296 < 4294967296:=by omega
  have hd1:0<=D / 4294967296/\D / 4294967296 < 4294967296:=by omega
  have hd0:0<=D % 4294967296/\D % 4294967296 < 4294967296:=by omega
  have hD:D=D / 4294967296*4294967296+D % 4294967296:=by omega
  generalize D / 4294967296=d1 at *
  generalize D % 4294967296=d0 at *
  generalize V / 4294967296=a at *
  generalize V % 4294967296=b at *
  have hUV:U < a*4294967296+b:=by omega
  have ga:(a != 0)=true:=by simp;omega
  have gs:decide (0<=(s:Int))=true:=decide_eq_true (by omega)
  rw [cJ gs,cJ gs,cJ (decide_eq_true (by omega)),cJ gs,cJ ga]
  -- what is left
  have hT:=NK (U:=U) (d:=d1) (V:=V) (by omega) v2
  have e:=Int.emod_add_mul_ediv (U*4294967296+d1) V
  have e1:=Int.emod_nonneg (U*4294967296+d1) (show V ≠ 0 by omega)
  have e2:=Int.emod_lt_of_pos (U*4294967296+d1) (show 0 < V by omega)
  have hQ1:=PQ (a:=a) (b:=b) (d:=d1) (U:=U) ha.1 hb.1 hd1 hU0 hUV
  rw [<- hV] at hQ1
  generalize hq1':(U*4294967296+d1) / V=Q1 at *
  generalize hT':(U*4294967296+d1) % V=T at *
  have hT2:=NK (U:=T) (d:=d0) (V:=V) (by omega) v2
  have f:=Int.emod_add_mul_ediv (T*4294967296+d0) V
  have f1:=Int.emod_nonneg (T*4294967296+d0) (show V ≠ 0 by omega)
  have f2:=Int.emod_lt_of_pos (T*4294967296+d0) (show 0 < V by omega)
  have hQ0:=PQ (a:=a) (b:=b) (d:=d0) (U:=T) ha.1 hb.1 hd0 e1 (by omega)
  rw [<- hV] at hQ0
  have hXV:X=V*(Q1*4294967296+(T*4294967296+d0) / V)+(T*4294967296+d0) % V:=by
   rw [Int.mul_add,<- Int.mul_assoc]
   generalize V*Q1=y at *
   generalize V*((T*4294967296+d0) / V)=z at *
   omega
  generalize hq0':(T*4294967296+d0) / V=Q0 at *
  generalize hR':(T*4294967296+d0) % V=R at *
  have hXd:X / V=Q1*4294967296+Q0:=by
   rw [hXV,Int.add_comm,Int.add_mul_ediv_left _ _ (show V ≠ 0 by omega),Int.ediv_eq_zero_of_lt f1 f2,Int.zero_add]
  have hXm:X % V=R:=by
   rw [hXV,Int.add_comm,Int.add_mul_emod_self_left,Int.emod_eq_of_lt f1 f2]
  have body2:gK (decide (0<=(s:Int))) (k (IntKind.wrap .u64 (IntKind.wrap .u64 (Q1*4294967296)+Q0)) (Int.fdiv (IntKind.wrap .u64 (IntKind.wrap .u64 (IntKind.wrap .u64 (T*4294967296)+d0) - IntKind.wrap .u64 (Q0*V))) (2 ^ s)))=k (X / V) (X % V / 2 ^ s):=by
   rw [cJ gs,hT2,eC (n:=Q1*4294967296) (by omega) (by omega),eC (n:=Q1*4294967296+Q0) (by omega) (by omega),hXd,hXm,vC]
  have body:∀ (r:Int) (z:Bool),gK (a != 0) (jf α a b d0 (IntKind.wrap .u64 (T - IntKind.wrap .u64 (IntKind.wrap .u64 (T.tdiv a)*a))) (IntKind.wrap .u64 (T.tdiv a))
    (fun x92 x93 x94=>gK (decide (0<=(s:Int))) (k (IntKind.wrap .u64 (IntKind.wrap .u64 (Q1*4294967296)+x93)) (Int.fdiv (IntKind.wrap .u64 (IntKind.wrap .u64 (IntKind.wrap .u64 (T*4294967296)+d0) - IntKind.wrap .u64 (x93*V))) (2 ^ s))))
    (fun x92 x93 x94=>gK (decide (0<=(s:Int))) (k (IntKind.wrap .u64 (IntKind.wrap .u64 (Q1*4294967296)+x93)) (Int.fdiv (IntKind.wrap .u64 (IntKind.wrap .u64 (IntKind.wrap .u64 (T*4294967296)+d0) - IntKind.wrap .u64 (x93*V))) (2 ^ s)))))=k (X / V) (X % V / 2 ^ s):=by
   intro r z
   rw [cJ ga]
   have hh:(T*4294967296+d0) / (a*4294967296+b)=Q0:=by rw [<- hV];exact hq0'
   exact Su ha hb hd0 e1 (by omega) (fun _ _=>by rw [hh];exact body2) (fun _ _=>by rw [hh];exact body2)
  have hh:(U*4294967296+d1) / (a*4294967296+b)=Q1:=by rw [<- hV];exact hq1'
  exact UD ha hb hd1 hU0 hUV (fun r z=>by rw [hh];simp only [hT];exact body r z) (fun r z=>by rw [hh];simp only [hT];exact body r z)
end Go.AM.K
