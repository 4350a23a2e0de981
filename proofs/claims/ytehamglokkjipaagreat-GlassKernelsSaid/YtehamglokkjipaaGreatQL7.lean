/- Chapter 2: sums of balls, one for each place; the spectrum of a kernel. -/
import Derived.Test.YtehamglokkjipaaGreatQL4
namespace Go.AM.K
open Ieee
set_option linter.unusedVariables false
set_option linter.unusedSimpArgs false
set_option linter.unusedSectionVars false
variable {α:Type}
theorem nea0:FloatKind.nearest .f64 0=0:=by decide +kernel
theorem nB0:nB (0,0,0)=(0,0,0):=by simp only [nB,nea0]
def sumB (T:Nat->Option B3):Nat->Nat->B3->Option B3
 | 0,_,s=>some s
 | m+1,t,s=>match T t with
  | some x=>(match stp s x with
   | some u=>sumB T m (t+1) u
   | none=>none)
  | none=>none
theorem sumB_ok {T:Nat->Option B3}:∀ (m t:Nat) (s u:B3),okS s=true->sumB T m t s=some u->okS u=true
 | 0,t,s,u,hs,h=>by simp only [sumB,Option.some.injEq] at h;rw [<- h];exact hs
 | m+1,t,s,u,hs,h=>by
  simp only [sumB] at h
  split at h
  ·split at h
   ·rename_i v hv
    exact sumB_ok m (t+1) v u (stp_ok hv) h
   ·cases h
  ·cases h
theorem sum_prog {R:Nat->Int->Nat->Nat->Int->Bool->Option α}{T:Nat->Option B3}{N:Nat}{Y:Nat->Nat->Int->Option α}{Z:Option α}
  (hs:∀ (n t:Nat) (s:B3),t < N->okS s=true->∃ a b c,R (n+1) (t:Int) (nB s).1 (nB s).2.1 (nB s).2.2 false=match (T t).bind (stp s) with
   | some u=>R n ((t+1:Nat):Int) (nB u).1 (nB u).2.1 (nB u).2.2 false
   | none=>R n ((t+1:Nat):Int) a b c true)
  (hw:∀ (n t:Nat) (a b:Nat) (c:Int),t < N->R (n+1) (t:Int) a b c true=R n ((t+1:Nat):Int) a b c true)
  (he:∀ (n:Nat) (a b:Nat) (c:Int),R (n+1) (N:Int) a b c true=Z)
  (hf:∀ (n:Nat) (a b:Nat) (c:Int),R (n+1) (N:Int) a b c false=Y a b c) :
  ∀ (m t n:Nat) (s:B3),t+m=N->m < n->okS s=true ->
   R n (t:Int) (nB s).1 (nB s).2.1 (nB s).2.2 false=match sumB T m t s with
   | some u=>Y (nB u).1 (nB u).2.1 (nB u).2.2
   | none=>Z:=by
 have hw':∀ (m t n:Nat) (a b:Nat) (c:Int),t+m=N->m < n->R n (t:Int) a b c true=Z:=by
  intro m
  induction m with
  | zero=>
   intro t n a b c h1 h2
   obtain⟨n,rfl⟩:∃ k,n=k+1:=⟨n - 1,by omega⟩
   obtain rfl:t=N:=by omega
   exact he n a b c
  | succ m ih=>
   intro t n a b c h1 h2
   obtain⟨n,rfl⟩:∃ k,n=k+1:=⟨n - 1,by omega⟩
   rw [hw n t a b c (by omega)]
   exact ih (t+1) n a b c (by omega) (by omega)
 intro m
 induction m with
 | zero=>
  intro t n s h1 h2 h3
  obtain⟨n,rfl⟩:∃ k,n=k+1:=⟨n - 1,by omega⟩
  obtain rfl:t=N:=by omega
  exact hf n _ _ _
 | succ m ih=>
  intro t n s h1 h2 h3
  obtain⟨n,rfl⟩:∃ k,n=k+1:=⟨n - 1,by omega⟩
  obtain⟨a,b,c,e⟩:=hs n t s (by omega) h3
  rw [e]
  simp only [sumB]
  cases hT:T t with
  | none=>simp only [Option.bind];exact hw' m (t+1) n a b c (by omega) (by omega)
  | some x=>
   simp only [Option.bind]
   cases hst:stp s x with
   | none=>exact hw' m (t+1) n a b c (by omega) (by omega)
   | some u=>exact ih (t+1) n u (by omega) (by omega) (stp_ok hst)
theorem sum_doc {R:Nat->Int->Int->Int->Int->Option α}{T:Nat->Option B3}{N:Nat}{Y:Int->Int->Int->Option α}{Z:Option α}
  (hs:∀ (n t:Nat) (s:B3),t < N->okS s=true->R (n+1) (t:Int) s.1 s.2.1 s.2.2=match (T t).bind (stp s) with
   | some u=>R n ((t+1:Nat):Int) u.1 u.2.1 u.2.2
   | none=>Z)
  (hf:∀ (n:Nat) (a b:Int) (c:Int),R (n+1) (N:Int) a b c=Y a b c) :
  ∀ (m t n:Nat) (s:B3),t+m=N->m < n->okS s=true ->
   R n (t:Int) s.1 s.2.1 s.2.2=match sumB T m t s with
   | some u=>Y u.1 u.2.1 u.2.2
   | none=>Z:=by
 intro m
 induction m with
 | zero=>
  intro t n s h1 h2 h3
  obtain⟨n,rfl⟩:∃ k,n=k+1:=⟨n - 1,by omega⟩
  obtain rfl:t=N:=by omega
  exact hf n _ _ _
 | succ m ih=>
  intro t n s h1 h2 h3
  obtain⟨n,rfl⟩:∃ k,n=k+1:=⟨n - 1,by omega⟩
  rw [hs n t s (by omega) h3]
  simp only [sumB]
  cases hT:T t with
  | none=>rfl
  | some x=>
   simp only [Option.bind]
   cases hst:stp s x with
   | none=>rfl
   | some u=>exact ih (t+1) n u (by omega) (by omega) (stp_ok hst)
def allB (T:Nat->Nat->Option B3)(N:Nat):Nat->Nat->List B3->Option (List B3)
 | 0,_,acc=>some acc
 | m+1,a,acc=>match sumB (T a) N 0 (0,0,0) with
  | some u=>allB T N m (a+1) (acc++[u])
  | none=>none
theorem allB_len {T:Nat->Nat->Option B3}{N:Nat}:∀ (m a:Nat) (acc l:List B3),allB T N m a acc=some l->l.length=acc.length+m
 | 0,a,acc,l,h=>by simp only [allB,Option.some.injEq] at h;rw [<- h];rfl
 | m+1,a,acc,l,h=>by
  simp only [allB] at h
  split at h
  ·rw [allB_len m _ _ l h];simp;omega
  ·cases h
theorem allB_ok {T:Nat->Nat->Option B3}{N:Nat}:∀ (m a:Nat) (acc l:List B3),(∀ b ∈ acc,okS b=true)->allB T N m a acc=some l->∀ b ∈ l,okS b=true
 | 0,a,acc,l,h0,h=>by simp only [allB,Option.some.injEq] at h;rw [<- h];exact h0
 | m+1,a,acc,l,h0,h=>by
  simp only [allB] at h
  split at h
  ·rename_i u hu
   refine allB_ok m _ _ l (fun b hb=>?_) h
   rcases List.mem_append.1 hb with hb | hb
   ·exact h0 b hb
   ·rw [List.mem_singleton.1 hb];exact sumB_ok _ _ _ _ (by decide) hu
  ·cases h
theorem all_loop {ρ:Type}{R:Nat->Int->ρ->Option α}{enc:List B3->ρ}{T:Nat->Nat->Option B3}{N M:Nat}{Y:ρ->Option α}{Z:Option α}
  (hs:∀ (n a:Nat) (acc:List B3),a < M->acc.length=a->R (n+1) (a:Int) (enc acc)=match sumB (T a) N 0 (0,0,0) with
   | some u=>R n ((a+1:Nat):Int) (enc (acc++[u]))
   | none=>Z)
  (hf:∀ (n:Nat) (acc:ρ),R (n+1) (M:Int) acc=Y acc) :
  ∀ (m a n:Nat) (acc:List B3),a+m=M->m < n->acc.length=a ->
   R n (a:Int) (enc acc)=match allB T N m a acc with
   | some l=>Y (enc l)
   | none=>Z:=by
 intro m
 induction m with
 | zero=>
  intro a n acc h1 h2 h3
  obtain⟨n,rfl⟩:∃ k,n=k+1:=⟨n - 1,by omega⟩
  obtain rfl:a=M:=by omega
  exact hf n _
 | succ m ih=>
  intro a n acc h1 h2 h3
  obtain⟨n,rfl⟩:∃ k,n=k+1:=⟨n - 1,by omega⟩
  rw [hs n a acc (by omega) h3]
  simp only [allB]
  cases sumB (T a) N 0 (0,0,0) with
  | none=>rfl
  | some u=>exact ih (a+1) n (acc++[u]) (by omega) (by omega) (by simp [h3])
theorem mul_bd {a b A B:Int}(h1:-A<=a)(h2:a<=A)(h3:-B<=b)(h4:b<=B):-(A*B)<=a*b/\a*b<=A*B:=by
 have hA:0<=A:=by omega
 have hB:0<=B:=by omega
 have e1:=Int.mul_nonneg (show 0<=A - a by omega) (show 0<=B+b by omega)
 have e2:=Int.mul_nonneg (show 0<=A+a by omega) (show 0<=B - b by omega)
 have e3:=Int.mul_nonneg (show 0<=A - a by omega) (show 0<=B - b by omega)
 have e4:=Int.mul_nonneg (show 0<=A+a by omega) (show 0<=B+b by omega)
 rw [Int.sub_mul,Int.mul_add,Int.mul_add] at e1
 rw [Int.add_mul,Int.mul_sub,Int.mul_sub] at e2
 rw [Int.sub_mul,Int.mul_sub,Int.mul_sub] at e3
 rw [Int.add_mul,Int.mul_add,Int.mul_add] at e4
 omega
theorem f104_sum {s t:B3}(hs:okS s=true)(h1:t.1.natAbs < 9007199254740992)(h2:t.2.1.natAbs < 9007199254740992)(h3:0<=t.2.2/\t.2.2<=67108864){k:Nat->Nat->Int->Bool->Option α} :
  f104_0 α (nB s).1 (nB s).2.1 (nB s).2.2 false (nB t).1 (nB t).2.1 (nB t).2.2 0 k=match stp s t with
   | some u=>k (nB u).1 (nB u).2.1 (nB u).2.2 false
   | none=>k 0 0 0 true:=by
 simp only [f104_0,f104_0g,J104_0_0,J104_0_0g]
 exact f136_eq (y:=k) hs h1 h2 h3 fun _ _ _ _=>rfl
theorem f104_err {a b:Nat}{c:Int}{x y:Nat}{z e:Int}(he:e ≠ 0){k:Nat->Nat->Int->Bool->Option α}:f104_0 α a b c false x y z e k=k a b c true:=by
 have g:(e != 0)=true:=bne_iff_ne.2 he
 simp only [f104_0,f104_0g,J104_0_0,J104_0_0g,g]
 rfl
theorem f104_wr {a b:Nat}{c:Int}{x y:Nat}{z e:Int}{k:Nat->Nat->Int->Bool->Option α}:f104_0 α a b c true x y z e k=k a b c true:=by
 simp only [f104_0,f104_0g,J104_0_0,J104_0_0g]
 cases (e != 0) <;> rfl
abbrev eB (l:List B3):Rows:=(l.map nB).map rBl
theorem eB_app {acc:List B3}{u:B3}:eB acc++[[DC.v (.complex .f64 (nB u).1 (nB u).2.1),DC.v (.int .i64 (nB u).2.2)]]=eB (acc++[u]):=by
 simp [eB]
theorem eB_gK {acc:List B3}{u:B3}(h:acc.length<=1000){x:Option α}:gK (apOk 2 24 (eB acc) [[DC.v (.complex .f64 (nB u).1 (nB u).2.1),DC.v (.int .i64 (nB u).2.2)]]) x=x:=by
 refine gK_of (apOk_of (enc:=rBl) (fun _=>rfl) (l:=[nB u]) ?_ ?_)
 ·simp;omega
 ·simp;omega
theorem len_pos {n:Nat}(h:lenB n=true):2<=n/\n<=32:=by
 unfold lenB at h
 simp only [Bool.or_eq_true,beq_iff_eq] at h
 omega
end Go.AM.K
