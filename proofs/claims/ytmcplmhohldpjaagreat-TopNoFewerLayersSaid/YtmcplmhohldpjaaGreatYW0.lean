/- Chapter 2: quotients, great products, comparisons of fractions, roots. -/
import Derived.Test.YtmcplmhohldpjaaGreatRe
import Derived.Test.YtmcplmhohldpjaaGreatKNa
namespace Go.AM.K
set_option linter.unusedVariables false
set_option linter.unusedSimpArgs false
variable {α:Type}
def inB (n lo hi:Int):Bool:=decide (lo<=n) && decide (n<=hi)
theorem QE {n lo hi:Int}:inB n lo hi=true ↔ lo<=n/\n<=hi:=by simp [inB]
theorem jq {x y A B:Int}(h1:0<=x)(h2:x<=A)(h3:0<=y)(h4:y<=B):0<=x*y/\x*y<=A*B:=
 ⟨Int.mul_nonneg h1 h3,Int.mul_le_mul h2 h4 h3 (by omega)⟩
theorem Oq {n:Int}:IntKind.wrap .u64 n=n % 18446744073709551616:=by
 simp [IntKind.wrap,IntKind.signed,IntKind.bits]
theorem eC {n:Int}(h1:0<=n)(h2:n < 18446744073709551616):IntKind.wrap .u64 n=n:=by
 rw [Oq];exact Int.emod_eq_of_lt h1 h2
theorem Ib {n:Int}(h1:0<=n)(h2:n < 18446744073709551616):lI .u64 n 4294967295=n % 4294967296:=by
 obtain⟨m,rfl⟩:=Int.eq_ofNat_of_zero_le h1
 have hm:m < 18446744073709551616:=by omega
 have e:((BitVec.ofInt 64 (m:Int)) &&& (BitVec.ofInt 64 4294967295)).toNat=m % 4294967296:=by
  rw [BitVec.toNat_and]
  have e1:(BitVec.ofInt 64 (m:Int)).toNat=m:=by
   rw [BitVec.ofInt_natCast,BitVec.toNat_ofNat]
   exact Nat.mod_eq_of_lt hm
  have e2:(BitVec.ofInt 64 4294967295).toNat=2 ^ 32 - 1:=by decide
  rw [e1,e2,Nat.and_two_pow_sub_one_eq_mod]
 unfold lI
 show IntKind.wrap .u64 (((BitVec.ofInt 64 (m:Int)) &&& (BitVec.ofInt 64 4294967295)).toNat:Int)=_
 rw [e,eC (by omega) (by omega)]
 omega
theorem Ux {n:Int}:Int.fdiv n (2 ^ 32)=n / 4294967296:=by
 rw [Int.fdiv_eq_ediv_of_nonneg n (by decide)]
 rfl
theorem ON {x y:Int}(hx:0<=x)(hx2:x < 18446744073709551616)(hy:0<=y)(hy2:y < 18446744073709551616){k:Int->Int->Option α} :
  uI α x y k=k (x*y / 18446744073709551616) (x*y % 18446744073709551616):=by
 simp only [uI,af,Kv,Ux]
 have ex:=Int.emod_add_mul_ediv x 4294967296
 have ey:=Int.emod_add_mul_ediv y 4294967296
 have x0:=Int.emod_nonneg x (b:=4294967296) (by decide)
 have x1:=Int.emod_lt_of_pos x (b:=4294967296) (by decide)
 have y0:=Int.emod_nonneg y (b:=4294967296) (by decide)
 have y1:=Int.emod_lt_of_pos y (b:=4294967296) (by decide)
 rw [Ib hx hx2,Ib hy hy2]
 have hxh:0<=x / 4294967296/\x / 4294967296<=4294967295:=by omega
 have hyh:0<=y / 4294967296/\y / 4294967296<=4294967295:=by omega
 have hxy:x*y=(x % 4294967296)*(y % 4294967296)+4294967296*((x / 4294967296)*(y % 4294967296))+4294967296*((x % 4294967296)*(y / 4294967296))+18446744073709551616*((x / 4294967296)*(y / 4294967296)):=by
  conv=>lhs;rw [<- ex,<- ey]
  generalize x % 4294967296=a
  generalize x / 4294967296=b
  generalize y % 4294967296=c
  generalize y / 4294967296=d
  rw [Int.add_mul,Int.mul_add,Int.mul_add]
  have e1:a*(4294967296*d)=4294967296*(a*d):=by rw [Int.mul_left_comm]
  have e2:4294967296*b*c=4294967296*(b*c):=by rw [Int.mul_assoc]
  have e3:4294967296*b*(4294967296*d)=18446744073709551616*(b*d):=by
   rw [Int.mul_assoc,Int.mul_left_comm b,<- Int.mul_assoc]
   rfl
  rw [e1,e2,e3]
  omega
 have p00:=jq x0 (show x % 4294967296<=4294967295 by omega) y0 (show y % 4294967296<=4294967295 by omega)
 have p10:=jq hxh.1 hxh.2 y0 (show y % 4294967296<=4294967295 by omega)
 have p01:=jq x0 (show x % 4294967296<=4294967295 by omega) hyh.1 hyh.2
 have p11:=jq hxh.1 hxh.2 hyh.1 hyh.2
 generalize hA:(x % 4294967296)*(y % 4294967296)=A at *
 generalize hB:(x / 4294967296)*(y % 4294967296)=B at *
 generalize hC:(x % 4294967296)*(y / 4294967296)=C at *
 generalize hD:(x / 4294967296)*(y / 4294967296)=D at *
 rw [eC (n:=A) (by omega) (by omega),eC (n:=B) (by omega) (by omega),eC (n:=C) (by omega) (by omega),eC (n:=D) (by omega) (by omega)]
 rw [eC (n:=B+A / 4294967296) (by omega) (by omega)]
 rw [Ib (n:=B+A / 4294967296) (by omega) (by omega)]
 rw [eC (n:=(B+A / 4294967296) % 4294967296+C) (by omega) (by omega)]
 have e3:=Int.emod_add_mul_ediv (B+A / 4294967296) 4294967296
 have e4:=Int.emod_add_mul_ediv ((B+A / 4294967296) % 4294967296+C) 4294967296
 have e5:=Int.emod_add_mul_ediv A 4294967296
 have m1:=Int.emod_nonneg A (b:=4294967296) (by decide)
 have m2:=Int.emod_lt_of_pos A (b:=4294967296) (by decide)
 have m3:=Int.emod_nonneg ((B+A / 4294967296) % 4294967296+C) (b:=4294967296) (by decide)
 have m4:=Int.emod_lt_of_pos ((B+A / 4294967296) % 4294967296+C) (b:=4294967296) (by decide)
 rw [eC (n:=D+(B+A / 4294967296) / 4294967296) (by omega) (by omega)]
 have hhi:x*y / 18446744073709551616=D+(B+A / 4294967296) / 4294967296+((B+A / 4294967296) % 4294967296+C) / 4294967296:=by
  rw [hxy];omega
 have hle:x*y<=18446744073709551615*18446744073709551615:=Int.mul_le_mul (by omega) (by omega) hy (by omega)
 rw [eC (n:=D+(B+A / 4294967296) / 4294967296+((B+A / 4294967296) % 4294967296+C) / 4294967296) (by omega) (by rw [<- hhi];omega),<- hhi,Oq]
end Go.AM.K
