/- Lengths of pairs of whole numbers; sums; products of balls contain the products. -/
import Derived.Test.YtehamglokkjipaaGreatQL13
namespace Go.AM.K
open Ieee
set_option linter.unusedVariables false
set_option linter.unusedSimpArgs false
set_option linter.unusedSectionVars false
variable {α:Type}
def nle (x y r:Int):Prop:=0<=r/\x*x+y*y<=r*r
theorem sq_nn (x:Int):0<=x*x:=by
 rcases Int.le_total 0 x with h | h
 ·exact Int.mul_nonneg h h
 ·exact Int.mul_nonneg_of_nonpos_of_nonpos h h
theorem le_of_sq {a b:Int}(hb:0<=b)(h:a*a<=b*b):a<=b:=by
 by_cases hc:a<=b
 ·exact hc
 ·have h1:0<=a - b - 1:=by omega
  have e1:=Int.mul_nonneg h1 (show 0<=a+b by omega)
  have e2:(a - b - 1)*(a+b)=a*a - b*b - (a+b):=by grind
  omega
theorem nle_dot {a b c d r q:Int}(h1:nle a b r)(h2:nle c d q):a*c+b*d<=r*q:=by
 refine le_of_sq (Int.mul_nonneg h1.1 h2.1) ?_
 have e1:=sq_nn (a*d - b*c)
 have e2:(a*a+b*b)*(c*c+d*d) - (a*c+b*d)*(a*c+b*d)=(a*d - b*c)*(a*d - b*c):=by grind
 have e3:=Int.mul_le_mul h1.2 h2.2 (Int.add_nonneg (sq_nn c) (sq_nn d)) (sq_nn r)
 have e4:r*q*(r*q)=r*r*(q*q):=by grind
 omega
theorem nle_add {a b c d r q:Int}(h1:nle a b r)(h2:nle c d q):nle (a+c) (b+d) (r+q):=by
 refine⟨Int.add_nonneg h1.1 h2.1,?_⟩
 have e:=nle_dot h1 h2
 have e1:(a+c)*(a+c)+(b+d)*(b+d)=(a*a+b*b)+(c*c+d*d)+2*(a*c+b*d):=by grind
 have e2:(r+q)*(r+q)=r*r+q*q+2*(r*q):=by grind
 have:=h1.2;have:=h2.2
 omega
theorem nle_mono {a b r q:Int}(h:nle a b r)(hq:r<=q):nle a b q:=by
 refine⟨Int.le_trans h.1 hq,Int.le_trans h.2 ?_⟩
 exact Int.mul_le_mul hq hq h.1 (Int.le_trans h.1 hq)
theorem nle_mul {a b c d r q:Int}(h1:nle a b r)(h2:nle c d q):nle (a*c - b*d) (a*d+b*c) (r*q):=by
 refine⟨Int.mul_nonneg h1.1 h2.1,?_⟩
 have e1:(a*c - b*d)*(a*c - b*d)+(a*d+b*c)*(a*d+b*c)=(a*a+b*b)*(c*c+d*d):=by grind
 have e2:=Int.mul_le_mul h1.2 h2.2 (Int.add_nonneg (sq_nn c) (sq_nn d)) (sq_nn r)
 have e3:r*q*(r*q)=r*r*(q*q):=by grind
 omega
theorem nle_neg {a b r:Int}(h:nle a b r):nle (-a) (-b) r:=⟨h.1,by rw [Int.neg_mul_neg,Int.neg_mul_neg];exact h.2⟩
theorem nle_eq {a b a' b' r:Int}(h:nle a b r)(h1:a'=a)(h2:b'=b):nle a' b' r:=by rw [h1,h2];exact h
theorem nle_sub {a b c d r q:Int}(h1:nle a b r)(h2:nle c d q):nle (a - c) (b - d) (r+q):=nle_eq (nle_add h1 (nle_neg h2)) (by omega) (by omega)
theorem nle_scale {a b r:Int}(k:Int)(h:nle a b r):nle (k*a) (k*b) (k.natAbs*r):=by
 have h2:nle k 0 k.natAbs:=⟨by omega,by
  rw [Int.mul_zero,Int.add_zero]
  have:((k.natAbs:Nat):Int)*((k.natAbs:Nat):Int)=k*k:=by
   rcases Int.natAbs_eq k with e | e
   ·rw [<- e]
   ·rw [show ((k.natAbs:Nat):Int)=-k by omega,Int.neg_mul_neg]
  omega⟩
 exact nle_eq (nle_mul h2 h) (by rw [Int.zero_mul,Int.sub_zero]) (by rw [Int.zero_mul,Int.add_zero])
theorem nle_zero {r:Int}(h:0<=r):nle 0 0 r:=⟨h,by have:=sq_nn r;omega⟩
theorem nle_x {a b r:Int}(h:nle a b r):-r<=a/\a<=r:=by
 have h1:=sq_nn b
 have h2:=h.2
 constructor
 ·have:-a<=r:=le_of_sq h.1 (by rw [Int.neg_mul_neg];omega)
  omega
 ·exact le_of_sq h.1 (by omega)
theorem nle_y {a b r:Int}(h:nle a b r):-r<=b/\b<=r:=by
 have h1:=sq_nn a
 have h2:=h.2
 constructor
 ·have:-b<=r:=le_of_sq h.1 (by rw [Int.neg_mul_neg];omega)
  omega
 ·exact le_of_sq h.1 (by omega)
theorem nle_div {a b r k:Int}(hk:0 < k)(hr:0<=r)(h:nle (k*a) (k*b) (k*r)):nle a b r:=by
 refine⟨hr,?_⟩
 have e1:(k*a)*(k*a)+(k*b)*(k*b)=(k*k)*(a*a+b*b):=by grind
 have e2:(k*r)*(k*r)=(k*k)*(r*r):=by grind
 have h2:=h.2
 rw [e1,e2] at h2
 exact Int.le_of_mul_le_mul_left h2 (Int.mul_pos hk hk)
theorem nle_up {a:B3}(ha:okS a=true):nle a.1 a.2.1 (upc a):=by
 obtain⟨e1,e2⟩:=sqn_eq ha
 refine⟨(upc_bd ha).1,?_⟩
 rw [<- e1]
 unfold upc upq
 have h:=isq_bd (n:=sqn a) (by omega)
 split
 ·have h2:((isq (sqn a)+1)*(isq (sqn a)+1):Nat)=((isq (sqn a):Int)+1)*((isq (sqn a):Int)+1):=by push_cast;rfl
  omega
 ·have h2:((isq (sqn a)*isq (sqn a):Nat):Int)=(isq (sqn a):Int)*(isq (sqn a):Int):=by push_cast;rfl
  omega
theorem upc_le {a:B3}(ha:okS a=true){r:Int}(h:nle a.1 a.2.1 r):upc a<=r:=by
 obtain⟨e1,e2⟩:=sqn_eq ha
 have h3:=h.2
 rw [<- e1] at h3
 unfold upc upq
 have hb:=isq_bd (n:=sqn a) (by omega)
 have h2:((isq (sqn a)*isq (sqn a):Nat):Int)=(isq (sqn a):Int)*(isq (sqn a):Int):=by push_cast;rfl
 have hle:(isq (sqn a):Int)<=r:=le_of_sq h.1 (by omega)
 split
 ·by_cases e:(isq (sqn a):Int)=r
  ·rw [<- e] at h3;omega
  ·omega
 ·exact hle
def tmW (a b:B3):Int:=upc a*b.2.2+upc b*a.2.2+a.2.2*b.2.2
theorem cdv_up {n:Int}:n<=1048576*cdv n 1048576/\1048576*cdv n 1048576 < n+1048576:=by unfold cdv;omega
theorem tm_cov {a b:B3}:nle (1048576*(tmB a b).1 - tmP a b) (1048576*(tmB a b).2.1 - tmQ a b) (1048576*(tmB a b).2.2 - tmW a b):=by
 have hc:=cdv_up (n:=tmW a b)
 unfold tmB
 simp only
 change nle (1048576*rdv (tmP a b) 1048576 - tmP a b) (1048576*rdv (tmQ a b) 1048576 - tmQ a b) (1048576*(cdv (tmW a b) 1048576+_) - tmW a b)
 have p1:1048576*rdv (tmP a b) 1048576 - tmP a b<=524288/\-524288<=1048576*rdv (tmP a b) 1048576 - tmP a b:=by unfold rdv;omega
 have q1:1048576*rdv (tmQ a b) 1048576 - tmQ a b<=524288/\-524288<=1048576*rdv (tmQ a b) 1048576 - tmQ a b:=by unfold rdv;omega
 by_cases h:tmP a b % 1048576=0/\tmQ a b % 1048576=0
 ·rw [if_pos h]
  have p2:1048576*rdv (tmP a b) 1048576 - tmP a b=0:=by unfold rdv;omega
  have q2:1048576*rdv (tmQ a b) 1048576 - tmQ a b=0:=by unfold rdv;omega
  rw [p2,q2]
  exact nle_zero (by omega)
 ·rw [if_neg h]
  refine nle_mono (r:=1048576) ⟨by decide,?_⟩ (by omega)
  have e1:=mul_bd (A:=524288) (B:=524288) p1.2 p1.1 p1.2 p1.1
  have e2:=mul_bd (A:=524288) (B:=524288) q1.2 q1.1 q1.2 q1.1
  omega
def sumI (f:Nat->Int):Nat->Int
 | 0=>0
 | n+1=>sumI f n+f n
theorem sumI_congr {f g:Nat->Int}:∀ {n:Nat},(∀ i,i < n->f i=g i)->sumI f n=sumI g n
 | 0,_=>rfl
 | n+1,h=>by simp only [sumI];rw [sumI_congr fun i hi=>h i (by omega),h n (by omega)]
theorem sumI_add {f g:Nat->Int}:∀ {n:Nat},sumI (fun i=>f i+g i) n=sumI f n+sumI g n
 | 0=>rfl
 | n+1=>by simp only [sumI];rw [sumI_add];omega
theorem sumI_mul {f:Nat->Int}{k:Int}:∀ {n:Nat},sumI (fun i=>k*f i) n=k*sumI f n
 | 0=>by simp [sumI]
 | n+1=>by simp only [sumI];rw [sumI_mul,Int.mul_add]
theorem sumI_mulr {f:Nat->Int}{k:Int}:∀ {n:Nat},sumI (fun i=>f i*k) n=sumI f n*k
 | 0=>by simp [sumI]
 | n+1=>by simp only [sumI];rw [sumI_mulr,Int.add_mul]
theorem sumI_zero:∀ {n:Nat},sumI (fun _=>0) n=0
 | 0=>rfl
 | n+1=>by simp only [sumI];rw [sumI_zero];rfl
theorem sumI_swap {f:Nat->Nat->Int}:∀ {n m:Nat},sumI (fun i=>sumI (fun j=>f i j) m) n=sumI (fun j=>sumI (fun i=>f i j) n) m
 | 0,m=>by simp only [sumI];rw [sumI_zero]
 | n+1,m=>by simp only [sumI];rw [sumI_swap,<- sumI_add]
theorem sumI_sub {f g:Nat->Int}:∀ {n:Nat},sumI (fun i=>f i - g i) n=sumI f n - sumI g n
 | 0=>rfl
 | n+1=>by simp only [sumI];rw [sumI_sub];omega
theorem sumI_le {f g:Nat->Int}:∀ {n:Nat},(∀ i,i < n->f i<=g i)->sumI f n<=sumI g n
 | 0,_=>Int.le_refl _
 | n+1,h=>by
  simp only [sumI]
  have:=sumI_le (n:=n) fun i hi=>h i (by omega)
  have:=h n (by omega)
  omega
theorem sumI_nn {f:Nat->Int}{n:Nat}(h:∀ i,i < n->0<=f i):0<=sumI f n:=by
 have:=sumI_le (f:=fun _=>0) (g:=f) (n:=n) h
 rwa [sumI_zero] at this
theorem sumI_const {c:Int}:∀ {n:Nat},sumI (fun _=>c) n=(n:Int)*c
 | 0=>by simp [sumI]
 | n+1=>by simp only [sumI];rw [sumI_const];push_cast;rw [Int.add_mul,Int.one_mul]
theorem nle_sum {f g r:Nat->Int}:∀ {n:Nat},(∀ i,i < n->nle (f i) (g i) (r i))->nle (sumI f n) (sumI g n) (sumI r n)
 | 0,_=>nle_zero (Int.le_refl _)
 | n+1,h=>nle_add (nle_sum fun i hi=>h i (by omega)) (h n (by omega))
theorem sumI_one {c:Int}{t:Nat}:∀ {n:Nat},sumI (fun s=>if s=t then c else 0) n=if t < n then c else 0
 | 0=>by simp [sumI]
 | n+1=>by
  simp only [sumI]
  rw [sumI_one]
  by_cases h1:t < n
  ·rw [if_pos h1,if_neg (by omega),if_pos (by omega)];omega
  ·by_cases h2:n=t
   ·rw [if_neg h1,if_pos h2,if_pos (by omega)];omega
   ·rw [if_neg h1,if_neg h2,if_neg (by omega)];rfl
def cum (τ:Nat->B3)(k:Nat):B3:=(sumI (fun t=>(τ t).1) k,sumI (fun t=>(τ t).2.1) k,sumI (fun t=>(τ t).2.2) k)
theorem cum_succ {τ:Nat->B3}{k:Nat}:cum τ (k+1)=pls (cum τ k) (τ k):=rfl
theorem sumB_val {T:Nat->Option B3}{τ:Nat->B3}{N:Nat}(h1:∀ t,t < N->T t=some (τ t)/\okS (τ t)=true)(h2:∀ k,k<=N->okS (cum τ k)=true):sumB T N 0 (0,0,0)=some (cum τ N):=by
 have key:∀ (m t:Nat),t+m=N->sumB T m t (cum τ t)=some (cum τ N):=by
  intro m
  induction m with
  | zero=>
   intro t h
   obtain rfl:t=N:=by omega
   rfl
  | succ m ih=>
   intro t h
   simp only [sumB]
   rw [(h1 t (by omega)).1]
   simp only []
   unfold stp
   rw [if_pos ⟨(h1 t (by omega)).2,by rw [<- cum_succ];exact h2 (t+1) (by omega)⟩]
   rw [<- cum_succ]
   exact ih (t+1) (by omega)
 exact key N 0 (by omega)
theorem allB_val {T:Nat->Nat->Option B3}{τ:Nat->Nat->B3}{N M:Nat}(h1:∀ a t,a < M->t < N->T a t=some (τ a t)/\okS (τ a t)=true)(h2:∀ a k,a < M->k<=N->okS (cum (τ a) k)=true) :
  allB T N M 0 []=some (mkL M fun a=>cum (τ a) N):=by
 have key:∀ (m a:Nat),a+m=M->allB T N m a (mkL a fun a=>cum (τ a) N)=some (mkL M fun a=>cum (τ a) N):=by
  intro m
  induction m with
  | zero=>
   intro a h
   obtain rfl:a=M:=by omega
   rfl
  | succ m ih=>
   intro a h
   simp only [allB]
   rw [sumB_val (fun t ht=>h1 a t (by omega) ht) fun k hk=>h2 a k (by omega) hk]
   simp only []
   have e:mkL a (fun a=>cum (τ a) N)++[cum (τ a) N]=mkL (a+1) fun a=>cum (τ a) N:=by
    unfold mkL;rw [List.range_succ,List.map_append];rfl
   rw [e]
   exact ih (a+1) (by omega)
 have:=key M 0 (by omega)
 exact this
end Go.AM.K
