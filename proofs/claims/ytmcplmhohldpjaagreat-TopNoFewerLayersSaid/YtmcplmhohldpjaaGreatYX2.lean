/- Balls that contain fractions: quotients, energies. -/
import Derived.Test.YtmcplmhohldpjaaGreatYX1
namespace Go.AM.K
set_option linter.unusedVariables false
set_option linter.unusedSimpArgs false
theorem DW {n d:Int}(hd:0 < d)(h1:-67108864<=(dC n d).1)(h2:(dC n d).1<=67108864) :
  (2*(d*(dC n d).1 - 1048576*n)<=d/\-d<=2*(d*(dC n d).1 - 1048576*n))/\((dC n d).2=false->d*(dC n d).1 - 1048576*n=0):=by
 unfold dC at *
 by_cases c1:d<=sz n*1048576 / 18446744073709551616
 ·rw [if_pos c1] at h2;exact absurd h2 (by decide)
 ·rw [if_neg c1] at h1 h2 ⊢
  by_cases c2:2147483647 < sz n*1048576 / d
  ·rw [if_pos c2] at h2;exact absurd h2 (by decide)
  ·rw [if_neg c2] at h1 h2 ⊢
   simp only at h1 h2 ⊢
   have e0:=Int.emod_add_mul_ediv (sz n*1048576) d
   have e1:=Int.emod_nonneg (sz n*1048576) (show d ≠ 0 by omega)
   have e2:=Int.emod_lt_of_pos (sz n*1048576) hd
   have es:(n < 0/\sz n=0 - n)\/(0<=n/\sz n=n):=by unfold sz;split <;> omega
   clear h1 h2 c1 c2
   generalize hu:sz n*1048576 / d=u at *
   generalize hr:sz n*1048576 % d=r at *
   have em:d*(u+1)=d*u+d:=by rw [Int.mul_add,Int.mul_one]
   have en:∀ x:Int,d*(0 - x)=0 - d*x:=fun x=>by rw [Int.zero_sub,Int.mul_neg,Int.zero_sub]
   refine⟨?_,fun hz=>?_⟩
   ·by_cases c3:d < 2*r\/(0<=n/\2*r=d)
    ·rw [if_pos c3]
     rcases es with ⟨es1,es2⟩ | ⟨es1,es2⟩
     ·rw [if_pos es1,en,em];omega
     ·rw [if_neg (show ¬ n < 0 by omega),em];omega
    ·rw [if_neg c3]
     rcases es with ⟨es1,es2⟩ | ⟨es1,es2⟩
     ·rw [if_pos es1,en];omega
     ·rw [if_neg (show ¬ n < 0 by omega)];omega
   ·have hr0:r=0:=by simpa using hz
    rw [if_neg (show ¬ (d < 2*r\/(0<=n/\2*r=d)) by omega)]
    rcases es with ⟨es1,es2⟩ | ⟨es1,es2⟩
    ·rw [if_pos es1,en];omega
    ·rw [if_neg (show ¬ n < 0 by omega)];omega
theorem al8 {n d:Int}(hn:0<=n)(hd:0 < d):0<=zw n d/\(zw n d=2147483647\/(1048576*n<=zw n d*d/\zw n d<=2147483647)):=by
 unfold zw
 have h0:0<=n*1048576 / d:=Int.ediv_nonneg (by omega) (by omega)
 by_cases c1:d<=n*1048576 / 18446744073709551616
 ·rw [if_pos c1];exact⟨by decide,.inl rfl⟩
 ·rw [if_neg c1]
  by_cases c2:2147483647<=n*1048576 / d
  ·rw [if_pos c2];exact⟨by decide,.inl rfl⟩
  ·rw [if_neg c2]
   have e0:=Int.emod_add_mul_ediv (n*1048576) d
   have e2:=Int.emod_lt_of_pos (n*1048576) hd
   generalize n*1048576 / d=u at *
   generalize n*1048576 % d=r at *
   have em:(u+1)*d=d*u+d:=by rw [Int.add_mul,Int.one_mul,Int.mul_comm]
   by_cases c3:r=0
   ·rw [if_neg (fun h=>h c3)]
    refine⟨h0,.inr ⟨?_,by omega⟩⟩
    rw [Int.mul_comm u d];omega
   ·rw [if_pos c3]
    exact⟨by omega,.inr ⟨by omega,by omega⟩⟩
end Go.AM.K
