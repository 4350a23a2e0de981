/- Fractions in lowest terms, as chapter 4 and the document have them. -/
import Derived.Test.YtaondhhdefbfkaaGreatYX7
import Derived.Test.YtaondhhdefbfkaaGreatYB1
namespace Go.AM.K
open Go.AM
set_option linter.unusedVariables false
set_option linter.unusedSimpArgs false
variable {α:Type}
def dvs:Nat->Int->Int->Int
 | 0,a,_=>a
 | m+1,a,b=>if b=0 then a else dvs m b (Int.tmod a b)
theorem dvs_abs:∀ (m:Nat) (a b:Int),b.natAbs < m->(dvs m a b).natAbs=Int.gcd a b:=by
 intro m
 induction m with
 | zero=>intro a b h;omega
 | succ m ih=>
  intro a b h
  unfold dvs
  by_cases c:b=0
  ·rw [if_pos c,c];simp [Int.gcd]
  ·rw [if_neg c]
   have hb:0 < b.natAbs:=by omega
   have hm:(Int.tmod a b).natAbs=a.natAbs % b.natAbs:=Int.natAbs_tmod ..
   have hlt:=Nat.mod_lt a.natAbs hb
   rw [ih b (Int.tmod a b) (by omega)]
   unfold Int.gcd
   rw [hm,Nat.gcd_comm b.natAbs,<- Nat.gcd_rec,Nat.gcd_comm]
def dv (a b:Int):Int:=dvs (b.natAbs+1) a b
theorem dv_abs (a b:Int):(dv a b).natAbs=Int.gcd a b:=dvs_abs _ a b (Nat.lt_succ_self _)
theorem R46_go {k1:Int->Int->Bool->Option α}{Y:Int->Option α}(hk:∀ a b c,k1 a b c=Y a):∀ (m n:Nat) (a b:Int),b.natAbs < m->m<=n->R46_0_0 α k1 n a b=Y (dvs m a b):=by
 intro m
 induction m with
 | zero=>intro n a b h;omega
 | succ m ih=>
  intro n a b h hn
  obtain⟨n,rfl⟩:∃ n',n=n'+1:=⟨n - 1,by omega⟩
  rw [R46_0_0]
  simp only [S46_0_0,S46_0_0g]
  unfold dvs
  by_cases c:b=0
  ·rw [cK_bne,if_pos c,if_pos c,hk]
  ·have hb:0 < b.natAbs:=by omega
   have hm:(Int.tmod a b).natAbs=a.natAbs % b.natAbs:=Int.natAbs_tmod ..
   have hlt:=Nat.mod_lt a.natAbs hb
   rw [cK_bne,if_neg c,if_neg c,gK_of (bne_iff_ne.2 c)]
   exact ih n b (Int.tmod a b) (by omega) (by omega)
theorem R15_go {k1:Int->Int->Bool->Option α}{Y:Int->Option α}(hk:∀ a b c,k1 a b c=Y a):∀ (m n:Nat) (a b:Int),b.natAbs < m->m<=n->R15_0_0 α k1 n a b=Y (dvs m a b):=by
 intro m
 induction m with
 | zero=>intro n a b h;omega
 | succ m ih=>
  intro n a b h hn
  obtain⟨n,rfl⟩:∃ n',n=n'+1:=⟨n - 1,by omega⟩
  rw [R15_0_0]
  simp only [S15_0_0,S15_0_0g]
  unfold dvs
  by_cases c:b=0
  ·rw [cK_bne,if_pos c,if_pos c,hk]
  ·have hb:0 < b.natAbs:=by omega
   have hm:(Int.tmod a b).natAbs=a.natAbs % b.natAbs:=Int.natAbs_tmod ..
   have hlt:=Nat.mod_lt a.natAbs hb
   rw [cK_bne,if_neg c,if_neg c,gK_of (bne_iff_ne.2 c)]
   exact ih n b (Int.tmod a b) (by omega) (by omega)
theorem f46_eq {a b:Int}(hb:b.natAbs < 9223372036854775807){k:Int->Option α}:f46_0 α a b k=k (dv a b):=by
 simp only [f46_0,f46_0g,L46_0_0]
 exact R46_go (Y:=k) (fun _ _ _=>rfl) (b.natAbs+1) fuel a b (by omega) (by have:=fuel_ge;omega)
theorem f15_eq {a b:Int}(hb:b.natAbs < 9223372036854775807)(hg:Int.gcd a b < 9223372036854775807){k:Int->Option α}:f15_0 α a b k=k (Int.gcd a b:Int):=by
 simp only [f15_0,f15_0g,L15_0_0,f42_0,f42_0g]
 refine (R15_go (Y:=fun x=>k (if w64 (0 - x) > x then w64 (0 - x) else x)) (fun _ _ _=>rfl) (b.natAbs+1) fuel a b (by omega) (by have:=fuel_ge;omega)).trans ?_
 have h:=dv_abs a b
 unfold dv at h
 generalize dvs (b.natAbs+1) a b=x at *
 rw [w64_in (n:=0 - x) (by omega) (by omega)]
 congr 1
 split <;> omega
def ovr (n d:Int):Int × Int:=(n / (Int.gcd n d:Int),d / (Int.gcd n d:Int))
theorem ovr_ok {n d:Int}(hd:0 < d):0 < (ovr n d).2/\(ovr n d).1*d=n*(ovr n d).2/\Int.gcd (ovr n d).1 (ovr n d).2=1/\(ovr n d).2<=d/\(0<=n->0<=(ovr n d).1/\(ovr n d).1<=n)/\(0 < n->0 < (ovr n d).1):=by
 have hg:0 < Int.gcd n d:=Nat.pos_of_ne_zero fun h=>by
  have:=(Int.gcd_eq_zero_iff.1 h).2
  omega
 have h1:((Int.gcd n d:Nat):Int) ∣ n:=Int.gcd_dvd_left ..
 have h2:((Int.gcd n d:Nat):Int) ∣ d:=Int.gcd_dvd_right ..
 have hc:=Int.gcd_ediv_gcd_ediv_gcd (i:=n) (j:=d) hg
 unfold ovr
 simp only
 generalize hG:((Int.gcd n d:Nat):Int)=G at *
 have hG0:0 < G:=by omega
 obtain⟨x,hx⟩:=h1
 obtain⟨y,hy⟩:=h2
 have e1:n / G=x:=by rw [hx];exact Int.mul_ediv_cancel_left _ (by omega)
 have e2:d / G=y:=by rw [hy];exact Int.mul_ediv_cancel_left _ (by omega)
 rw [e1,e2] at hc ⊢
 have hy0:0 < y:=by
  rcases Int.lt_trichotomy y 0 with h | h | h
  ·have:=Int.mul_neg_of_pos_of_neg hG0 h;omega
  ·rw [h] at hy;omega
  ·exact h
 have hyd:y<=d:=by
  have:=Int.mul_le_mul_of_nonneg_right (show 1<=G by omega) (Int.le_of_lt hy0)
  omega
 refine⟨hy0,?_,hc,hyd,fun hn=>?_,fun hn=>?_⟩
 ·rw [hx,hy];grind
 ·have hx0:0<=x:=by
   by_cases h:0<=x
   ·exact h
   ·have:=Int.mul_neg_of_pos_of_neg hG0 (show x < 0 by omega);omega
  have:=Int.mul_le_mul_of_nonneg_right (show 1<=G by omega) hx0
  exact⟨hx0,by omega⟩
 ·rcases Int.lt_trichotomy x 0 with h | h | h
  ·have:=Int.mul_neg_of_pos_of_neg hG0 h;omega
  ·rw [h] at hx;omega
  ·exact h
theorem tdiv_dvd {n G x:Int}(hG:G ≠ 0)(h:n=G*x):Int.tdiv n G=x:=by
 rw [h];exact Int.mul_tdiv_cancel_left _ hG
theorem gcd_le {n d:Int}(hd:0 < d):0 < Int.gcd n d/\((Int.gcd n d:Nat):Int)<=d:=by
 have hg:0 < Int.gcd n d:=Nat.pos_of_ne_zero fun h=>by
  have:=(Int.gcd_eq_zero_iff.1 h).2
  omega
 exact⟨hg,Int.le_of_dvd hd (Int.gcd_dvd_right ..)⟩
theorem w64_div {n G x:Int}(hn:-4611686018427387904<=n)(hn2:n<=4611686018427387904)(hG:0 < G)(h:n=G*x):w64 x=x:=by
 have h1:-4611686018427387904<=x/\x<=4611686018427387904:=by
  rcases Int.le_total 0 x with hx | hx
  ·have:=Int.mul_le_mul_of_nonneg_right (show 1<=G by omega) hx
   omega
  ·have:=Int.mul_le_mul_of_nonneg_right (show 1<=G by omega) (show 0<=-x by omega)
   rw [Int.mul_neg,Int.mul_neg] at this
   omega
 exact w64_in (by omega) (by omega)
theorem f6_eq {n d:Int}(hn:-4611686018427387904<=n)(hn2:n<=4611686018427387904)(hd:0 < d)(hd2:d<=4611686018427387904){k:Int->Int->Option α}:f6_0 α n d k=k (ovr n d).1 (ovr n d).2:=by
 obtain⟨g0,g1⟩:=gcd_le (n:=n) hd
 simp only [f6_0,f6_0g,J6_0_0,J6_0_0g]
 rw [f15_eq (by omega) (by omega),decide_eq_false (by omega),cK_false]
 have hne:((Int.gcd n d:Nat):Int) ≠ 0:=by omega
 have hG0:(0:Int) < ((Int.gcd n d:Nat):Int):=by omega
 rw [gK_of (bne_iff_ne.2 hne),gK_of (bne_iff_ne.2 hne)]
 obtain⟨x,hx⟩:((Int.gcd n d:Nat):Int) ∣ n:=Int.gcd_dvd_left ..
 obtain⟨y,hy⟩:((Int.gcd n d:Nat):Int) ∣ d:=Int.gcd_dvd_right ..
 unfold ovr
 simp only
 generalize ((Int.gcd n d:Nat):Int)=G at *
 rw [tdiv_dvd hne hx,tdiv_dvd hne hy,w64_div hn hn2 hG0 hx,w64_div (by omega) hd2 hG0 hy]
 have e1:n / G=x:=by rw [hx];exact Int.mul_ediv_cancel_left _ hne
 have e2:d / G=y:=by rw [hy];exact Int.mul_ediv_cancel_left _ hne
 rw [e1,e2]
theorem f25_eq {n d:Int}(hn:-4611686018427387904<=n)(hn2:n<=4611686018427387904)(hd:0 < d)(hd2:d<=4611686018427387904){k:Int->Int->Option α}:f25_0 α n d k=k (ovr n d).1 (ovr n d).2:=by
 obtain⟨g0,g1⟩:=gcd_le (n:=n) hd
 have hdv:=dv_abs n d
 simp only [f25_0,f25_0g,J25_0_0,J25_0_0g]
 rw [f46_eq (by omega)]
 obtain⟨x,hx⟩:((Int.gcd n d:Nat):Int) ∣ n:=Int.gcd_dvd_left ..
 obtain⟨y,hy⟩:((Int.gcd n d:Nat):Int) ∣ d:=Int.gcd_dvd_right ..
 unfold ovr
 simp only
 generalize hg:dv n d=g at *
 generalize hG:Int.gcd n d=G at *
 have hG0:(0:Int) < (G:Int):=by omega
 have hne:g ≠ 0:=by omega
 have e1:n / (G:Int)=x:=by rw [hx];exact Int.mul_ediv_cancel_left _ (by omega)
 have e2:d / (G:Int)=y:=by rw [hy];exact Int.mul_ediv_cancel_left _ (by omega)
 have wx:=w64_div hn hn2 hG0 hx
 have wy:=w64_div (by omega) hd2 hG0 hy
 have hy0:0 < y:=by
  rcases Int.lt_trichotomy y 0 with h | h | h
  ·have:=Int.mul_neg_of_pos_of_neg hG0 h;omega
  ·rw [h] at hy;omega
  ·exact h
 rw [gK_of (bne_iff_ne.2 hne),cK_dec,e1,e2]
 rcases Int.natAbs_eq g with hs | hs
 ·have hgG:g=(G:Int):=by omega
  rw [hgG,tdiv_dvd (by omega) hy,wy,if_neg (by omega),gK_of (bne_iff_ne.2 (by omega)),gK_of (bne_iff_ne.2 (by omega)),tdiv_dvd (by omega) hx,wx]
 ·have hgG:g=-(G:Int):=by omega
  have hwn:w64 (0 - -(G:Int))=(G:Int):=by rw [w64_in (by omega) (by omega)];omega
  have hdn:Int.tdiv d (-(G:Int))=-y:=tdiv_dvd (by omega) (by rw [hy];grind)
  have hwy:w64 (-y) < 0:=by
   have:y<=d:=by
    have:=Int.mul_le_mul_of_nonneg_right (show 1<=(G:Int) by omega) (Int.le_of_lt hy0)
    omega
   rw [w64_in (by omega) (by omega)];omega
  rw [hgG,hdn,if_pos hwy,hwn,gK_of (bne_iff_ne.2 (by omega)),gK_of (bne_iff_ne.2 (by omega)),tdiv_dvd (by omega) hx,wx,tdiv_dvd (by omega) hy,wy]
end Go.AM.K
