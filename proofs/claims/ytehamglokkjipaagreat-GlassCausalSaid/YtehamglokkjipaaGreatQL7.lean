/- Chapter 2: sums of balls, one for each place; the spectrum of a kernel. -/
import Derived.Test.YtehamglokkjipaaGreatQL4
namespace Go.AM.K
open Ieee
set_option linter.unusedVariables false
set_option linter.unusedSimpArgs false
set_option linter.unusedSectionVars false
variable {α:Type}
theorem nea0:FloatKind.nearest .f64 0=0:=by decide +kernel
theorem nB0:nB (0,0,0)=(0,0,0):=by simp only [nB,nea0]
def sumB (T:Nat->Option B3):Nat->Nat->B3->Option B3
 | 0,_,s=>some s
 | m+1,t,s=>match T t with
  | some x=>(match stp s x with
   | some u=>sumB T m (t+1) u
   | none=>none)
  | none=>none
theorem sumB_ok {T:Nat->Option B3}:∀ (m t:Nat) (s u:B3),okS s=true->sumB T m t s=some u->okS u=true
 | 0,t,s,u,hs,h=>by simp only [sumB,Option.some.injEq] at h;rw [<- h];exact hs
 | m+1,t,s,u,hs,h=>by
  simp only [sumB] at h
  split at h
  ·split at h
   ·rename_i v hv
    exact sumB_ok m (t+1) v u (stp_ok hv) h
   ·cases h
  ·cases h
theorem sum_prog {R:Nat->Int->Nat->Nat->Int->Bool->Option α}{T:Nat->Option B3}{N:Nat}{Y:Nat->Nat->Int->Option α}{Z:Option α}
  (hs:∀ (n t:Nat) (s:B3),t < N->okS s=true->∃ a b c,R (n+1) (t:Int) (nB s).1 (nB s).2.1 (nB s).2.2 false=match (T t).bind (stp s) with
   | some u=>R n ((t+1:Nat):Int) (nB u).1 (nB u).2.1 (nB u).2.2 false
   | none=>R n ((t+1:Nat):Int) a b c true)
  (hw:∀ (n t:Nat) (a b:Nat) (c:Int),t < N->R (n+1) (t:Int) a b c true=R n ((t+1:Nat):Int) a b c true)
  (he:∀ (n:Nat) (a b:Nat) (c:Int),R (n+1) (N:Int) a b c true=Z)
  (hf:∀ (n:Nat) (a b:Nat) (c:Int),R (n+1) (N:Int) a b c false=Y a b c) :
  ∀ (m t n:Nat) (s:B3),t+m=N->m < n->okS s=true ->
   R n (t:Int) (nB s).1 (nB s).2.1 (nB s).2.2 false=match sumB T m t s with
   | some u=>Y (nB u).1 (nB u).2.1 (nB u).2.2
   | none=>Z:=by
 have hw':∀ (m t n:Nat) (a b:Nat) (c:Int),t+m=N->m < n->R n (t:Int) a b c true=Z:=by
  intro m
  induction m with
  | zero=>
   intro t n a b c h1 h2
   obtain⟨n,rfl⟩:∃ k,n=k+1:=⟨n - 1,by omega⟩
   obtain rfl:t=N:=by omega
   exact he n a b c
  | succ m ih=>
   intro t n a b c h1 h2
   obtain⟨n,rfl⟩:∃ k,n=k+1:=⟨n - 1,by omega⟩
   rw [hw n t a b c (by omega)]
   exact ih (t+1) n a b c (by omega) (by omega)
 intro m
 induction m with
 | zero=>
  intro t n s h1 h2 h3
  obtain⟨n,rfl⟩:∃ k,n=k+1:=⟨n - 1,by omega⟩
  obtain rfl:t=N:=by omega
  exact hf n _ _ _
 | succ m ih=>
  intro t n s h1 h2 h3
  obtain⟨n,rfl⟩:∃ k,n=k+1:=⟨n - 1,by omega⟩
  obtain⟨a,b,c,e⟩:=hs n t s (by omega) h3
  rw [e]
  simp only [sumB]
  cases hT:T t with
  | none=>simp only [Option.bind];exact hw' m (t+1) n a b c (by omega) (by omega)
  | some x=>
   simp only [Option.bind]
   cases hst:stp s x with
   | none=>exact hw' m (t+1) n a b c (by omega) (by omega)
   | some u=>exact ih (t+1) n u (by omega) (by omega) (stp_ok hst)
def allB (T:Nat->Nat->Option B3)(N:Nat):Nat->Nat->List B3->Option (List B3)
 | 0,_,acc=>some acc
 | m+1,a,acc=>match sumB (T a) N 0 (0,0,0) with
  | some u=>allB T N m (a+1) (acc++[u])
  | none=>none
theorem allB_len {T:Nat->Nat->Option B3}{N:Nat}:∀ (m a:Nat) (acc l:List B3),allB T N m a acc=some l->l.length=acc.length+m
 | 0,a,acc,l,h=>by simp only [allB,Option.some.injEq] at h;rw [<- h];rfl
 | m+1,a,acc,l,h=>by
  simp only [allB] at h
  split at h
  ·rw [allB_len m _ _ l h];simp;omega
  ·cases h
theorem allB_ok {T:Nat->Nat->Option B3}{N:Nat}:∀ (m a:Nat) (acc l:List B3),(∀ b ∈ acc,okS b=true)->allB T N m a acc=some l->∀ b ∈ l,okS b=true
 | 0,a,acc,l,h0,h=>by simp only [allB,Option.some.injEq] at h;rw [<- h];exact h0
 | m+1,a,acc,l,h0,h=>by
  simp only [allB] at h
  split at h
  ·rename_i u hu
   refine allB_ok m _ _ l (fun b hb=>?_) h
   rcases List.mem_append.1 hb with hb | hb
   ·exact h0 b hb
   ·rw [List.mem_singleton.1 hb];exact sumB_ok _ _ _ _ (by decide) hu
  ·cases h
theorem all_loop {ρ:Type}{R:Nat->Int->ρ->Option α}{enc:List B3->ρ}{T:Nat->Nat->Option B3}{N M:Nat}{Y:ρ->Option α}{Z:Option α}
  (hs:∀ (n a:Nat) (acc:List B3),a < M->acc.length=a->R (n+1) (a:Int) (enc acc)=match sumB (T a) N 0 (0,0,0) with
   | some u=>R n ((a+1:Nat):Int) (enc (acc++[u]))
   | none=>Z)
  (hf:∀ (n:Nat) (acc:ρ),R (n+1) (M:Int) acc=Y acc) :
  ∀ (m a n:Nat) (acc:List B3),a+m=M->m < n->acc.length=a ->
   R n (a:Int) (enc acc)=match allB T N m a acc with
   | some l=>Y (enc l)
   | none=>Z:=by
 intro m
 induction m with
 | zero=>
  intro a n acc h1 h2 h3
  obtain⟨n,rfl⟩:∃ k,n=k+1:=⟨n - 1,by omega⟩
  obtain rfl:a=M:=by omega
  exact hf n _
 | succ m ih=>
  intro a n acc h1 h2 h3
  obtain⟨n,rfl⟩:∃ k,n=k+1:=⟨n - 1,by omega⟩
  rw [hs n a acc (by omega) h3]
  simp only [allB]
  cases sumB (T a) N 0 (0,0,0) with
  | none=>rfl
  | some u=>exact ih (a+1) n (acc++[u]) (by omega) (by omega) (by simp [h3])
def spT (l:List Int)(m t:Nat):B3:=
 (l.getD t 0*Mb.uX ((m*t:Nat):Int) (l.length:Int),l.getD t 0*Mb.uY ((m*t:Nat):Int) (l.length:Int),((l.getD t 0).natAbs:Int)*Mb.uR ((m*t:Nat):Int) (l.length:Int))
theorem mul_bd {a b A B:Int}(h1:-A<=a)(h2:a<=A)(h3:-B<=b)(h4:b<=B):-(A*B)<=a*b/\a*b<=A*B:=by
 have hA:0<=A:=by omega
 have hB:0<=B:=by omega
 have e1:=Int.mul_nonneg (show 0<=A - a by omega) (show 0<=B+b by omega)
 have e2:=Int.mul_nonneg (show 0<=A+a by omega) (show 0<=B - b by omega)
 have e3:=Int.mul_nonneg (show 0<=A - a by omega) (show 0<=B - b by omega)
 have e4:=Int.mul_nonneg (show 0<=A+a by omega) (show 0<=B+b by omega)
 rw [Int.sub_mul,Int.mul_add,Int.mul_add] at e1
 rw [Int.add_mul,Int.mul_sub,Int.mul_sub] at e2
 rw [Int.sub_mul,Int.mul_sub,Int.mul_sub] at e3
 rw [Int.add_mul,Int.mul_add,Int.mul_add] at e4
 omega
theorem spT_bd {l:List Int}(hl:1<=l.length)(m t:Nat)(hx:-1000<=l.getD t 0/\l.getD t 0<=1000) :
  (spT l m t).1.natAbs<=1048576000/\(spT l m t).2.1.natAbs<=1048576000/\0<=(spT l m t).2.2/\(spT l m t).2.2<=4000:=by
 have hu:=Mb.u_bd (n:=((m*t:Nat):Int)) (d:=(l.length:Int)) (by omega)
 unfold spT
 have e1:=mul_bd (A:=1000) (B:=1048576) hx.1 hx.2 hu.1.1 hu.1.2
 have e2:=mul_bd (A:=1000) (B:=1048576) hx.1 hx.2 hu.2.1.1 hu.2.1.2
 have e3:=mul_bd (a:=((l.getD t 0).natAbs:Int)) (A:=1000) (B:=4) (by omega) (by omega) (by omega) hu.2.2.2
 have e4:=Int.mul_nonneg (show 0<=((l.getD t 0).natAbs:Int) by omega) hu.2.2.1
 refine⟨by simp only;omega,by simp only;omega,e4,by simp only;omega⟩
theorem f54_num {x y r c:Int}(hx:-1048576<=x/\x<=1048576)(hy:-1048576<=y/\y<=1048576)(hr:0<=r/\r<=4)(hc:-1000<=c/\c<=1000){k:Nat->Nat->Int->Option α} :
  f54_0 α (FloatKind.nearest .f64 x) (FloatKind.nearest .f64 y) r c k=k (FloatKind.nearest .f64 (c*x)) (FloatKind.nearest .f64 (c*y)) ((c.natAbs:Int)*r):=by
 have wx:=wf_nearest x;have wy:=wf_nearest y;have wc:=wf_nearest c;have w0:=wf_nearest 0
 rw [nea0] at w0
 have e1:=mul_bd (A:=1048576) (B:=1000) hx.1 hx.2 hc.1 hc.2
 have e2:=mul_bd (A:=1048576) (B:=1000) hy.1 hy.2 hc.1 hc.2
 obtain⟨z5,a5,b5⟩:=mulW wx wc (by omega) (by omega) (by omega)
 obtain⟨z6,a6,b6⟩:=mulW wy w0 (by omega) (by omega) (by omega)
 obtain⟨z7,a7,b7⟩:=subW b5 b6 (by omega) (by omega) (by omega)
 obtain⟨z8,a8,b8⟩:=mulW wx w0 (by omega) (by omega) (by omega)
 obtain⟨z9,a9,b9⟩:=mulW wy wc (by omega) (by omega) (by omega)
 obtain⟨z10,a10,b10⟩:=addW b8 b9 (by omega) (by omega) (by omega)
 have a11:=add0 b7 (by omega)
 have a12:=add0 b10 (by omega)
 simp only [f54_0,f54_0g,a5,a6,a7,a8,a9,a10,flK,flN,a11,a12]
 have e:w64 (r*(if w64 (0 - c) > c then w64 (0 - c) else c))=(c.natAbs:Int)*r:=by
  rw [w64_in (n:=0 - c) (by omega) (by omega)]
  have hm:(if 0 - c > c then 0 - c else c)=(c.natAbs:Int):=by split <;> omega
  rw [hm,Int.mul_comm]
  have:=mul_bd (a:=(c.natAbs:Int)) (b:=r) (A:=1000) (B:=4) (by omega) (by omega) (by omega) hr.2
  exact w64_in (by omega) (by omega)
 rw [e]
 have q1:x*c - y*0=c*x:=by rw [Int.mul_zero,Int.sub_zero,Int.mul_comm]
 have q2:x*0+y*c=c*y:=by rw [Int.mul_zero,Int.zero_add,Int.mul_comm]
 rw [q1,q2]
section
variable {l:List Int}(h1:1<=l.length)(h2:l.length<=34)(hl:∀ i,i < l.length->-1000<=l.getD i 0/\l.getD i 0<=1000)
include h1 h2 hl
theorem mt_bd {m t:Nat}(hm:m < l.length)(ht:t < l.length):m*t<=1156:=by
 have:=Nat.mul_le_mul (show m<=34 by omega) (show t<=34 by omega);omega
theorem f53_num {m t:Nat}(hm:m < l.length)(ht:t < l.length){k:Nat->Nat->Int->Option α} :
  f53_0 α (m:Int) (t:Int) (l.map rI1) k=k (nB (spT l m t)).1 (nB (spT l m t)).2.1 (nB (spT l m t)).2.2:=by
 have hb:=mt_bd h1 h2 hl hm ht
 have hu:=Mb.u_bd (n:=((m*t:Nat):Int)) (d:=(l.length:Int)) (by omega)
 simp only [f53_0,f53_0g,f55_0,f55_0g,List.length_map]
 rw [show w64 ((m:Int)*(t:Int))=((m*t:Nat):Int) by rw [<- Int.natCast_mul];exact w64_in (by omega) (by omega)]
 rw [Mb.unit_prog (by omega) (by omega) (by omega) (by omega),rowK_I ht,f54_num hu.1 hu.2.1 hu.2.2 (by rw [<- gD (d:=0) ht];exact hl t ht),<- gD (d:=0) ht]
 rfl
end
theorem f104_sum {s t:B3}(hs:okS s=true)(h1:t.1.natAbs < 9007199254740992)(h2:t.2.1.natAbs < 9007199254740992)(h3:0<=t.2.2/\t.2.2<=67108864){k:Nat->Nat->Int->Bool->Option α} :
  f104_0 α (nB s).1 (nB s).2.1 (nB s).2.2 false (nB t).1 (nB t).2.1 (nB t).2.2 0 k=match stp s t with
   | some u=>k (nB u).1 (nB u).2.1 (nB u).2.2 false
   | none=>k 0 0 0 true:=by
 simp only [f104_0,f104_0g,J104_0_0,J104_0_0g]
 exact f136_eq (y:=k) hs h1 h2 h3 fun _ _ _ _=>rfl
theorem f104_err {a b:Nat}{c:Int}{x y:Nat}{z e:Int}(he:e ≠ 0){k:Nat->Nat->Int->Bool->Option α}:f104_0 α a b c false x y z e k=k a b c true:=by
 have g:(e != 0)=true:=bne_iff_ne.2 he
 simp only [f104_0,f104_0g,J104_0_0,J104_0_0g,g]
 rfl
theorem f104_wr {a b:Nat}{c:Int}{x y:Nat}{z e:Int}{k:Nat->Nat->Int->Bool->Option α}:f104_0 α a b c true x y z e k=k a b c true:=by
 simp only [f104_0,f104_0g,J104_0_0,J104_0_0g]
 cases (e != 0) <;> rfl
abbrev eB (l:List B3):Rows:=(l.map nB).map rBl
theorem eB_app {acc:List B3}{u:B3}:eB acc++[[DC.v (.complex .f64 (nB u).1 (nB u).2.1),DC.v (.int .i64 (nB u).2.2)]]=eB (acc++[u]):=by
 simp [eB]
theorem eB_gK {acc:List B3}{u:B3}(h:acc.length<=1000){x:Option α}:gK (apOk 2 24 (eB acc) [[DC.v (.complex .f64 (nB u).1 (nB u).2.1),DC.v (.int .i64 (nB u).2.2)]]) x=x:=by
 refine gK_of (apOk_of (enc:=rBl) (fun _=>rfl) (l:=[nB u]) ?_ ?_)
 ·simp;omega
 ·simp;omega
section
variable {l:List Int}(h1:1<=l.length)(h2:l.length<=34)(hl:∀ i,i < l.length->-1000<=l.getD i 0/\l.getD i 0<=1000)
include h1 h2 hl
theorem R52_sum {a:Nat}(ha:a < l.length){k1:Int->Bool->Nat->Nat->Int->Bool->Option α}{Y:Nat->Nat->Int->Option α}{Z:Option α}
  (hY:∀ i c x y z,k1 i c x y z false=Y x y z) (hZ:∀ i c x y z,k1 i c x y z true=Z) :
  R52_0_0 α (l.map rI1) (a:Int) (l.length:Int) k1 fuel 0 0 0 0 false=match sumB (fun t=>some (spT l a t)) l.length 0 (0,0,0) with
   | some u=>Y (nB u).1 (nB u).2.1 (nB u).2.2
   | none=>Z:=by
 have hfu:=fuel_ge
 have key:=sum_prog (α:=α) (R:=fun n t x y z w=>R52_0_0 α (l.map rI1) (a:Int) (l.length:Int) k1 n t x y z w) (T:=fun t=>some (spT l a t)) (N:=l.length) (Y:=Y) (Z:=Z)
  (fun n t s ht hs=>⟨0,0,0,by
   have hb:=spT_bd h1 a t (hl t ht)
   simp only [R52_0_0,S52_0_0,S52_0_0g]
   rw [decide_eq_true (by omega),cK_true,f53_num h1 h2 hl ha ht,f104_sum hs (by omega) (by omega) ⟨hb.2.2.1,by omega⟩,w64_nat ht (by omega)]
   rfl⟩)
  (fun n t x y z ht=>by
   simp only [R52_0_0,S52_0_0,S52_0_0g]
   rw [decide_eq_true (by omega),cK_true,f53_num h1 h2 hl ha ht,f104_wr,w64_nat ht (by omega)])
  (fun n x y z=>by
   simp only [R52_0_0,S52_0_0,S52_0_0g]
   rw [decide_eq_false (by omega),cK_false,hZ])
  (fun n x y z=>by
   simp only [R52_0_0,S52_0_0,S52_0_0g]
   rw [decide_eq_false (by omega),cK_false,hY]) l.length 0 fuel (0,0,0) (by omega) (by omega) (by decide)
 rw [nB0] at key
 exact key
theorem f52_eq {k:Rows->Bool->Option α}:f52_0 α (l.length:Int) (l.map rI1) k=match allB (fun m t=>some (spT l m t)) l.length l.length 0 [] with
  | some r=>k (eB r) true
  | none=>k [] false:=by
 have hfu:=fuel_ge
 simp only [f52_0,f52_0g,L52_0_1]
 refine all_loop (α:=α) (enc:=eB) (R:=fun n i x=>R52_0_1 α (l.length:Int) (l.map rI1) (l.length:Int) (k [] false) (fun x36 x37 x38=>k x38 true) n i x) (T:=fun m t=>some (spT l m t)) (M:=l.length) (Y:=fun r=>k r true)
  (fun n a acc ha hac=>?_) (fun n acc=>?_) l.length 0 fuel [] (by omega) (by omega) rfl
 ·simp only [R52_0_1,S52_0_1,S52_0_1g,L52_0_0]
  rw [decide_eq_true (by omega),cK_true]
  refine (R52_sum h1 h2 hl ha (Y:=_) (Z:=_) (fun _ _ _ _ _=>rfl) (fun _ _ _ _ _=>rfl)).trans ?_
  cases sumB (fun t=>some (spT l a t)) l.length 0 (0,0,0) with
  | none=>rfl
  | some u=>simp only [cK_false];rw [eB_gK (by omega),eB_app,w64_nat ha (by omega)]
 ·simp only [R52_0_1,S52_0_1,S52_0_1g]
  rw [decide_eq_false (by omega),cK_false]
end
def knB (l:List Int):Bool:=l.all fun x=>inB x (-1000) 1000
theorem knB_at {l:List Int}(h:knB l=true){i:Nat}(hi:i < l.length):-1000<=l.getD i 0/\l.getD i 0<=1000:=by
 rw [gD hi]
 exact inB_iff.1 (List.all_eq_true.1 h _ (List.getElem_mem hi))
theorem chk_loop {l:List Int}{R:Nat->Int->Option α}{Y Z:Option α}(hn:l.length < 1000)
  (hs:∀ (n i:Nat) (h:i < l.length),R (n+1) (i:Int)=if inB (l[i]'h) (-1000) 1000=true then R n ((i+1:Nat):Int) else Z) (he:∀ n:Nat,R (n+1) (l.length:Int)=Y) :
  R fuel 0=if knB l=true then Y else Z:=by
 have hfu:=fuel_ge
 have key:∀ (m i n:Nat),i+m=l.length->m < n->R n (i:Int)=if ((l.drop i).all fun x=>inB x (-1000) 1000)=true then Y else Z:=by
  intro m
  induction m with
  | zero=>
   intro i n h1 h2
   obtain⟨n,rfl⟩:∃ k,n=k+1:=⟨n - 1,by omega⟩
   obtain rfl:i=l.length:=by omega
   rw [he,List.drop_length];rfl
  | succ m ih=>
   intro i n h1 h2
   obtain⟨n,rfl⟩:∃ k,n=k+1:=⟨n - 1,by omega⟩
   rw [hs n i (by omega),List.drop_eq_getElem_cons (by omega),List.all_cons]
   cases inB (l[i]'(by omega)) (-1000) 1000 with
   | false=>rfl
   | true=>rw [if_pos rfl,Bool.true_and];exact ih (i+1) n (by omega) (by omega)
 exact key l.length 0 fuel (by omega) (by omega)
def spE (l:List Int):Int:=if lenB l.length=false then 12 else if knB l=false then 2 else 0
theorem f13_eq {l:List Int}(h2:l.length<=34){k:Int->Option α}:f13_0 α (l.map rI1) k=k (spE l):=by
 simp only [f13_0,f13_0g,List.length_map,f56_eq,L13_0_0]
 unfold spE
 cases lenB l.length with
 | false=>rfl
 | true=>
  simp only [Bool.not_true,cK_false,Bool.true_eq_false,if_false]
  rw [chk_loop (l:=l) (R:=fun n i=>R13_0_0 α (l.map rI1) (k 2) (fun x8 x9=>k 0) n i) (Y:=k 0) (Z:=k 2) (by omega) (fun n i hi=>?_) (fun n=>?_)]
  ·cases knB l <;> rfl
  ·simp only [R13_0_0,S13_0_0,S13_0_0g,List.length_map]
   rw [decide_eq_true (by omega),cK_true,rowK_I hi,f57_eq,w64_nat hi (by omega)]
   cases inB (l[i]'hi) (-1000) 1000 <;> rfl
  ·simp only [R13_0_0,S13_0_0,S13_0_0g,List.length_map]
   rw [decide_eq_false (by omega),cK_false]
theorem len_pos {n:Nat}(h:lenB n=true):2<=n/\n<=32:=by
 unfold lenB at h
 simp only [Bool.or_eq_true,beq_iff_eq] at h
 omega
theorem f11_eq {l:List Int}(h2:l.length<=34){k:Rows->Int->Option α}:f11_0 α (l.map rI1) k=if spE l=0 then (match allB (fun m t=>some (spT l m t)) l.length l.length 0 [] with
  | some r=>k (eB r) 0
  | none=>k [] 8) else k [] (spE l):=by
 simp only [f11_0,f11_0g,List.length_map,f50_eq h2,L11_0_0]
 unfold spE
 cases hL:lenB l.length with
 | false=>rfl
 | true=>
  simp only [Bool.true_eq_false,if_false,if_true,bne_self_eq_false,cK_false]
  have h1:=len_pos hL
  rw [chk_loop (l:=l) (R:=fun n i=>R11_0_0 α (l.map rI1) (l.length:Int) (k [] 2) (fun x10 x11=>f52_0 α (l.length:Int) (l.map rI1) (fun x13 x14=>flatK [x13] (cK (!x14) (k [] 8) (k x13 0)))) n i)
   (Y:=f52_0 α (l.length:Int) (l.map rI1) (fun x13 x14=>flatK [x13] (cK (!x14) (k [] 8) (k x13 0)))) (Z:=k [] 2) (by omega) (fun n i hi=>?_) (fun n=>?_)]
  ·cases hk:knB l with
   | false=>rfl
   | true=>
    simp only [if_true,Bool.true_eq_false,if_false]
    rw [f52_eq (by omega) h2 fun i hi=>knB_at hk hi]
    cases allB (fun m t=>some (spT l m t)) l.length l.length 0 [] with
    | none=>rfl
    | some r=>simp only [fl_Bl];rfl
  ·simp only [R11_0_0,S11_0_0,S11_0_0g]
   rw [decide_eq_true (by omega),cK_true,rowK_I hi,f51_eq,w64_nat hi (by omega)]
   cases inB (l[i]'hi) (-1000) 1000 <;> rfl
  ·simp only [R11_0_0,S11_0_0,S11_0_0g]
   rw [decide_eq_false (by omega),cK_false]
end Go.AM.K
