/- A medium without loss, light that falls straight: its normal index contains its index. -/
import Derived.Test.YtmcplmhohldpjaaGreatYX2
namespace Go.AM.K
set_option linter.unusedVariables false
set_option linter.unusedSimpArgs false
theorem A1 {op:Bl->Bl->Bl × Int}{e:Int}{a b:Bl}(h:(two op e a b).2=0):e=0/\two op e a b=op a b/\(op a b).2=0:=by
 unfold two at *
 by_cases c:e=0
 ·rw [if_pos c] at *;exact⟨c,rfl,h⟩
 ·rw [if_neg c] at h;exact absurd h c
theorem zi {e lo hi:Int}(h:(jg e lo hi).2=0):e=0/\jg e lo hi=cq lo hi/\(cq lo hi).2=0:=by
 unfold jg at *
 by_cases c:e=0
 ·rw [if_pos c] at *;exact⟨c,rfl,h⟩
 ·rw [if_neg c] at h;exact absurd h c
theorem Hz {e n d:Int}(h:(wc e n d).2=0):e=0/\wc e n d=vU n d/\(vU n d).2=0:=by
 unfold wc at *
 by_cases c:e=0
 ·rw [if_pos c] at *;exact⟨c,rfl,h⟩
 ·rw [if_neg c] at h;exact absurd h c
theorem xa {e:Int}{a:Bl}(h:(fJ e a).2=0):e=0/\fJ e a=((a.lo1,a.hi1,a.lo2,a.hi2),0):=by
 unfold fJ at *
 by_cases c:e=0
 ·rw [if_pos c] at *;exact⟨c,rfl⟩
 ·rw [if_neg c] at h;exact absurd h c
theorem FV {n d:Int}(h0:0<=n)(h1:n<=4611686018427387904)(hd:0 < d):dnI n d=n / d:=by
 unfold dnI
 rw [Int.tdiv_eq_ediv_of_nonneg h0]
 have a:=Int.ediv_nonneg h0 (Int.le_of_lt hd)
 have b:=Int.ediv_le_self d h0
 rw [ak (by omega) (by omega)]
theorem EM {n d:Int}(h0:0<=n)(h1:n<=4611686018427387904)(hd:0 < d)(hd2:d<=1000000000):upI n d=(n+d - 1) / d:=by
 unfold upI
 rw [ak (n:=n+d) (by omega) (by omega),ak (n:=n+d - 1) (by omega) (by omega),Int.tdiv_eq_ediv_of_nonneg (by omega)]
 have a:=Int.ediv_nonneg (a:=n+d - 1) (by omega) (Int.le_of_lt hd)
 have b:=Int.ediv_le_self (a:=n+d - 1) d (by omega)
 rw [ak (by omega) (by omega)]
theorem Jf {n:Int}(h1:0<=n)(h2:n < 288230376151711744):n < (rtd n+1)*(rtd n+1):=by
 have:=(il (n:=n.toNat) (by omega)).2
 have e:(((isq n.toNat+1)*(isq n.toNat+1):Nat):Int)=(rtd n+1)*(rtd n+1):=by unfold rtd;push_cast;rfl
 rw [<- e]
 omega
theorem amU:Con ⟨(0,0,0),by decide⟩ 0 1:=⟨by decide,by show (0:Int)<=1*0/\(1*0 - 0*1048576)*(1*0 - 0*1048576)+1*0*(1*0)<=(1*0:Int)*(1*0);decide⟩
end Go.AM.K
