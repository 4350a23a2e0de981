/- Unit numbers of sixteenths: their table; how far sums of products of them are from what they would be. -/
import Derived.Test.YtehamglokkjipaaGreatQM1
namespace Go.AM.K
open Ieee
set_option linter.unusedVariables false
set_option linter.unusedSimpArgs false
set_option linter.unusedSectionVars false
variable {α:Type}
def tabU:List B3:=[(1048576,0,0),(968758,401273,2),(741455,741455,2),(401273,968758,2),(0,1048576,0),(-401273,968758,2),(-741455,741455,2),(-968758,401273,2),(-1048576,0,0),(-968758,-401273,2),(-741455,-741455,2),(-401273,-968758,2),(0,-1048576,0),(401273,-968758,2),(741455,-741455,2),(968758,-401273,2)]
def tu (j:Int):B3:=tabU.getD (j % 16).toNat z3
def utb (j:Int):Int:=if j % 2=0 then 1048576 else 1048577
theorem uB_16 (j:Int):uB j 16=uB (j % 16) 16:=by
 have h1:Mb.uLo j 16=j*262144:=by unfold Mb.uLo;omega
 have h2:Mb.uHi j 16=j*262144:=by unfold Mb.uHi cdv;omega
 have h3:Mb.uLo (j % 16) 16=j % 16*262144:=by unfold Mb.uLo;omega
 have h4:Mb.uHi (j % 16) 16=j % 16*262144:=by unfold Mb.uHi cdv;omega
 have e1:(j*262144+j*262144) / 2=j*262144:=by omega
 have e2:(j % 16*262144+j % 16*262144) / 2=j % 16*262144:=by omega
 have e3:j % 16*262144=j*262144 - (j / 16)*4194304:=by omega
 have e4:dir (j % 16*262144)=dir (j*262144):=by rw [e3,Mb.dir_turn]
 have e5:(j % 16*262144) % 1048576=(j*262144) % 1048576:=by omega
 unfold uB Mb.uX Mb.uY Mb.uR Mb.arcX Mb.arcY Mb.arcR
 rw [h1,h2,h3,h4,e1,e2,e4,e5]
 simp only [Int.sub_self,true_and]
theorem tab_ok:∀ k:Fin 16,uB ((k.val:Nat):Int) 16=tu ((k.val:Nat):Int)/\upc (tu ((k.val:Nat):Int))=utb ((k.val:Nat):Int):=by decide +kernel
theorem uB_tab (j:Int):uB j 16=tu j/\upc (tu j)=utb j:=by
 have h:=tab_ok ⟨(j % 16).toNat,by omega⟩
 simp only at h
 have e:(((j % 16).toNat:Nat):Int)=j % 16:=by omega
 rw [e] at h
 have e2:tu (j % 16)=tu j:=by unfold tu;rw [Int.emod_emod_of_dvd j (by decide)]
 have e3:utb (j % 16)=utb j:=by unfold utb;rw [show j % 16 % 2=j % 2 by omega]
 rw [e2,e3] at h
 exact⟨(uB_16 j).trans h.1,h.2⟩
theorem uB_q {k n q:Int}(hn:1<=n)(hq:n*q=16):uB k n=tu (q*k):=by
 rw [<- (uB_tab (q*k)).1]
 have hnq:n=1/\q=16\/n=2/\q=8\/n=4/\q=4\/n=8/\q=2\/n=16/\q=1:=by
  have hq1:1<=q:=by
   by_cases h:1<=q
   ·exact h
   ·have:=Int.mul_nonneg (show 0<=n by omega) (show 0<=-q by omega)
    rw [Int.mul_neg] at this;omega
  have h16:n<=16:=by
   have:=Int.mul_nonneg (show 0<=n by omega) (show 0<=q - 1 by omega)
   rw [Int.mul_sub] at this;omega
  have:n=1\/n=2\/n=3\/n=4\/n=5\/n=6\/n=7\/n=8\/n=9\/n=10\/n=11\/n=12\/n=13\/n=14\/n=15\/n=16:=by omega
  rcases this with rfl | rfl | rfl | rfl | rfl | rfl | rfl | rfl | rfl | rfl | rfl | rfl | rfl | rfl | rfl | rfl <;> omega
 have e1:Mb.uLo k n=Mb.uLo (q*k) 16:=by
  unfold Mb.uLo
  rcases hnq with ⟨rfl,rfl⟩ | ⟨rfl,rfl⟩ | ⟨rfl,rfl⟩ | ⟨rfl,rfl⟩ | ⟨rfl,rfl⟩ <;> omega
 have e2:Mb.uHi k n=Mb.uHi (q*k) 16:=by
  unfold Mb.uHi cdv
  rcases hnq with ⟨rfl,rfl⟩ | ⟨rfl,rfl⟩ | ⟨rfl,rfl⟩ | ⟨rfl,rfl⟩ | ⟨rfl,rfl⟩ <;> omega
 unfold uB Mb.uX Mb.uY Mb.uR
 rw [e1,e2]
theorem tu_small:∀ k:Fin 16,(tu ((k.val:Nat):Int)).2.2<=2/\0<=(tu ((k.val:Nat):Int)).2.2:=by decide +kernel
theorem tu_r (j:Int):0<=(tu j).2.2/\(tu j).2.2<=2:=by
 have h:=tu_small ⟨(j % 16).toNat,by omega⟩
 simp only at h
 have e:(((j % 16).toNat:Nat):Int)=j % 16:=by omega
 have e2:tu (j % 16)=tu j:=by unfold tu;rw [Int.emod_emod_of_dvd j (by decide)]
 rw [e,e2] at h
 exact⟨h.2,h.1⟩
def eRe (q n t s:Nat):Int:=sumI (fun m=>tmP (tu ((q:Int)*((m*s:Nat):Int))) (tu ((q:Int)*(-1*((t*m:Nat):Int))))) n - if s=t then (n:Int)*1099511627776 else 0
def eIm (q n t s:Nat):Int:=sumI (fun m=>tmQ (tu ((q:Int)*((m*s:Nat):Int))) (tu ((q:Int)*(-1*((t*m:Nat):Int))))) n
def eG (q n t s:Nat):Int:=sumI (fun m=>utb ((q:Int)*(-1*((t*m:Nat):Int)))*(tu ((q:Int)*((m*s:Nat):Int))).2.2) n
def eOk (q n t s:Nat):Bool:=decide (0<=eG q n t s) && decide (eRe q n t s*eRe q n t s+eIm q n t s*eIm q n t s<=eG q n t s*eG q n t s)
def eAll (q n:Nat):Bool:=(List.range n).all fun t=>(List.range n).all fun s=>eOk q n t s
theorem e2:eAll 8 2=true:=by decide +kernel
theorem e4:eAll 4 4=true:=by decide +kernel
theorem e8:eAll 2 8=true:=by decide +kernel
theorem e16:eAll 1 16=true:=by decide +kernel
theorem e_of {q n:Nat}(h:eAll q n=true){t s:Nat}(ht:t < n)(hs:s < n):nle (eRe q n t s) (eIm q n t s) (eG q n t s):=by
 have h1:=List.all_eq_true.1 (List.all_eq_true.1 h t (List.mem_range.2 ht)) s (List.mem_range.2 hs)
 unfold eOk at h1
 rw [Bool.and_eq_true,decide_eq_true_iff,decide_eq_true_iff] at h1
 exact h1
end Go.AM.K
