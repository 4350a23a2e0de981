/- Chapter 6: small functions; sums and ratios. -/
import Derived.Test.YtnhkllkecbmchaaGreatDoorXU
import Derived.Test.YtnhkllkecbmchaaGreatDoorXB2
import Derived.Test.YtnhkllkecbmchaaGreatDoorKNa
namespace Go.AM.K
set_option linter.unusedVariables false
set_option linter.unusedSimpArgs false
variable {α:Type}
theorem f215_eq {n lo hi:Int}{k:Bool->Option α}:f215_0 α n lo hi k=k (decide (lo<=n/\n<=hi)):=f295_eq
theorem f44_eq {n lo hi:Int}{k:Bool->Option α}:f44_0 α n lo hi k=k (decide (lo<=n/\n<=hi)):=f295_eq
theorem f276_eq {n most:Int}(h1:-1000000000000<=most)(h2:most<=1000000000000){k:Bool->Option α}:f276_0 α n most k=k (decide (-most<=n/\n<=most)):=f294_eq h1 h2
def rgE (most lo hi:Int):Int:=if (-most<=lo/\lo<=most)/\-most<=hi/\hi<=most then (if hi < lo then 10 else 0) else 2
def fst3 (a b c:Int):Int:=if a ≠ 0 then a else if b ≠ 0 then b else c
theorem rgE_cases (most lo hi:Int):(rgE most lo hi=0/\(-most<=lo/\lo<=most)/\(-most<=hi/\hi<=most)/\lo<=hi)\/rgE most lo hi=10\/rgE most lo hi=2:=by
 unfold rgE
 split
 ·split
  ·exact .inr (.inl rfl)
  ·exact .inl ⟨rfl,by omega⟩
 ·exact .inr (.inr rfl)
theorem f245_eq {lo hi most:Int}(h1:-1000000000000<=most)(h2:most<=1000000000000){k:Int->Option α}:f245_0 α lo hi most k=k (rgE most lo hi):=by
 simp only [f245_0,f245_0g,J245_0_0,J245_0_0g,f276_eq h1 h2]
 unfold rgE
 by_cases a:-most<=lo/\lo<=most
 ·by_cases b:-most<=hi/\hi<=most
  ·rw [decide_eq_true a,decide_eq_true b,if_pos ⟨a,b⟩]
   by_cases c:hi < lo
   ·rw [decide_eq_true c,if_pos c];rfl
   ·rw [decide_eq_false c,if_neg c];rfl
  ·rw [decide_eq_true a,decide_eq_false b,if_neg (fun h=>b h.2)];rfl
 ·rw [decide_eq_false a,if_neg (fun h=>a h.1)];rfl
theorem f174_3 {a b c d e f most:Int}(h1:-1000000000000<=most)(h2:most<=1000000000000){k:Int->Option α} :
  f174_0 α most [[.v (.int .i64 a),.v (.int .i64 b)],[.v (.int .i64 c),.v (.int .i64 d)],[.v (.int .i64 e),.v (.int .i64 f)]] k=k (fst3 (rgE most a b) (rgE most c d) (rgE most e f)):=by
 obtain⟨z,hz⟩:∃ z,fuel=z+4:=⟨fuel - 4,by have:=fuel_ge;omega⟩
 simp only [f174_0,f174_0g,L174_0_0,hz,R174_0_0,S174_0_0,S174_0_0g]
 have r0:∀ g:Int->Int->Option α,rowK [[.v (.int .i64 a),.v (.int .i64 b)],[.v (.int .i64 c),.v (.int .i64 d)],[.v (.int .i64 e),.v (.int .i64 f)]] 0 [.int .i64,.int .i64] g=g a b:=fun g=>rfl
 have r1:∀ g:Int->Int->Option α,rowK [[.v (.int .i64 a),.v (.int .i64 b)],[.v (.int .i64 c),.v (.int .i64 d)],[.v (.int .i64 e),.v (.int .i64 f)]] 1 [.int .i64,.int .i64] g=g c d:=fun g=>rfl
 have r2:∀ g:Int->Int->Option α,rowK [[.v (.int .i64 a),.v (.int .i64 b)],[.v (.int .i64 c),.v (.int .i64 d)],[.v (.int .i64 e),.v (.int .i64 f)]] 2 [.int .i64,.int .i64] g=g e f:=fun g=>rfl
 have l3:((List.length [[DC.v (.int .i64 a),.v (.int .i64 b)],[.v (.int .i64 c),.v (.int .i64 d)],[.v (.int .i64 e),.v (.int .i64 f)]]:Nat):Int)=3:=rfl
 rw [l3,show decide ((0:Int) < 3)=true by decide,show w64 (0+1)=1 by decide,show decide ((1:Int) < 3)=true by decide,show w64 (1+1)=2 by decide,show decide ((2:Int) < 3)=true by decide,show w64 (2+1)=3 by decide,show decide ((3:Int) < 3)=false by decide]
 simp only [cK_true,cK_false,r0,r1,r2,f245_eq h1 h2]
 unfold fst3
 by_cases h:rgE most a b=0
 ·rw [h,bne_self_eq_false,cK_false,if_neg (by simp)]
  by_cases h':rgE most c d=0
  ·rw [h',bne_self_eq_false,cK_false,if_neg (by simp)]
   by_cases h'':rgE most e f=0
   ·rw [h'',bne_self_eq_false,cK_false]
   ·rw [bne_iff_ne.2 h'',cK_true]
  ·rw [bne_iff_ne.2 h',cK_true,if_pos h']
 ·rw [bne_iff_ne.2 h,cK_true,if_pos h]
theorem cK_ne {n:Int}{x y:Option α}:cK (n != 0) x y=if n ≠ 0 then x else y:=by
 by_cases h:n=0
 ·rw [h];rfl
 ·rw [bne_iff_ne.2 h,if_pos h];rfl
end Go.AM.K
