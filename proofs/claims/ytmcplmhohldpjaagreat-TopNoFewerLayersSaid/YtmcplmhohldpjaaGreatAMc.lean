/- Texts of one kind, put together. -/
import Derived.Test.YtmcplmhohldpjaaGreatAMb
import Derived.LoopNIn
namespace Go.AM
open Go.RowKit
structure df where
 dst:Option Nat
 y:AV
 es:List (Nat × aD)
 lk:List Nat
def lkA (σ:St)(ao:bz)(es:List (Nat × aD)):List Nat:=
 match gX σ.tmps ao.guard with
 | some true=>kg σ.tab (evO σ.tmps) ao.op++es.map (·.1)
 | _=>[]
def eD (o:df)(σ:St):St:=eI σ o.dst o.y o.es
def iu (P:Program)(E:Env):List bz->St->Option (List df × St)
 | [],σ=>some ([],σ)
 | ao::l,σ=>match lE P E ao σ with
  | some (y,es)=>match iu P E l (eI σ ao.dst y es) with
   | some (os,σ')=>some (⟨ao.dst,y,es,lkA σ ao es⟩::os,σ')
   | none=>none
  | none=>none
def cj (p:Nat->Bool):Nat->List df->St->St
 | _,[],σ=>σ
 | k,o::l,σ=>cj p (k+1) l (if p k then eD o σ else σ)
theorem tW {tmps:List (Nat × AV)}{dst:Option Nat}{y:AV}{t:Nat}:aj (ZU tmps dst y) t=if dst=some t then some y else aj tmps t:=by
 cases dst with
 | none=>simp [ZU]
 | some d=>simp only [ZU,aj,Option.some.injEq]
theorem fL {es:List (Nat × aD)}:∀ {T:Tab} {n:Nat},n ∉ es.map (·.1)->aj (aputs T es) n=aj T n:=by
 induction es with
 | nil=>intro T n _;rfl
 | cons p r ih=>
  intro T n hn
  simp only [List.map_cons,List.mem_cons,not_or] at hn
  simp only [aputs,ih hn.2,cC,if_neg hn.1]
theorem tz {es:List (Nat × aD)}:∀ {T T':Tab} {n:Nat},n ∈ es.map (·.1)->aj (aputs T es) n=aj (aputs T' es) n:=by
 induction es with
 | nil=>intro T T' n hn;simp at hn
 | cons p r ih=>
  intro T T' n hn
  simp only [aputs]
  by_cases hr:n ∈ r.map (·.1)
  ·exact ih hr
  ·simp only [List.map_cons,List.mem_cons] at hn
   rcases hn with hn | hn
   ·rw [fL hr,fL hr,cC,cC,if_pos hn,if_pos hn]
   ·exact absurd hn hr
theorem kz {p q:Nat->Bool}{t:Nat}:∀ (os:List df) (k:Nat) (σ σ':St),aj σ.tmps t=aj σ'.tmps t ->
  (∀ i o,os[i]?=some o->o.dst=some t->p (k+i)=q (k+i))->aj (cj p k os σ).tmps t=aj (cj q k os σ').tmps t
 | [],_,_,_,h,_=>h
 | o::l,k,σ,σ',h,hp=>by
  simp only [cj]
  refine kz l (k+1) _ _ ?_ fun i o' ho hd=>by have:=hp (i+1) o' (by simpa using ho) hd;simpa [Nat.add_assoc,Nat.add_comm 1 i] using this
  by_cases hd:o.dst=some t
  ·have:=hp 0 o rfl hd
   simp only [Nat.add_zero] at this
   rw [this]
   split
   ·simp [eD,eI,tW,hd]
   ·exact h
  ·have h1:aj (if p k=true then eD o σ else σ).tmps t=aj σ.tmps t:=by split <;> simp [eD,eI,tW,hd]
   have h2:aj (if q k=true then eD o σ' else σ').tmps t=aj σ'.tmps t:=by split <;> simp [eD,eI,tW,hd]
   rw [h1,h2,h]
theorem kQ {p q:Nat->Bool}{n:Nat}:∀ (os:List df) (k:Nat) (σ σ':St),aj σ.tab n=aj σ'.tab n ->
  (∀ i o,os[i]?=some o->n ∈ o.es.map (·.1)->p (k+i)=q (k+i))->aj (cj p k os σ).tab n=aj (cj q k os σ').tab n
 | [],_,_,_,h,_=>h
 | o::l,k,σ,σ',h,hp=>by
  simp only [cj]
  refine kQ l (k+1) _ _ ?_ fun i o' ho hd=>by have:=hp (i+1) o' (by simpa using ho) hd;simpa [Nat.add_assoc,Nat.add_comm 1 i] using this
  by_cases hd:n ∈ o.es.map (·.1)
  ·have:=hp 0 o rfl hd
   simp only [Nat.add_zero] at this
   rw [this]
   split
   ·exact tz hd
   ·exact h
  ·have h1:aj (if p k=true then eD o σ else σ).tab n=aj σ.tab n:=by
    split
    ·exact fL hd
    ·rfl
   have h2:aj (if q k=true then eD o σ' else σ').tab n=aj σ'.tab n:=by
    split
    ·exact fL hd
    ·rfl
   rw [h1,h2,h]
theorem HG {p:Nat->Bool}:∀ (os:List df) (k:Nat) (σ:St),(cj p k os σ).sv=σ.sv
 | [],_,_=>rfl
 | o::l,k,σ=>by
  simp only [cj]
  rw [HG l]
  split <;> rfl
theorem mh {q:Nat->Bool}{t:Nat}{oj:df}(hd:oj.dst=some t):∀ (os:List df) (k m:Nat) (σ:St),os[m]?=some oj->q (k+m)=true ->
  (∀ i o,os[i]?=some o->m < i->q (k+i)=true->o.dst ≠ some t)->aj (cj q k os σ).tmps t=some oj.y
 | [],_,_,_,h,_,_=>by simp at h
 | o::l,k,0,σ,h,hq,hl=>by
  simp only [List.getElem?_cons_zero,Option.some.injEq] at h
  subst h
  simp only [cj]
  rw [if_pos (by simpa using hq)]
  have e1:∀ (l:List df) (k:Nat) (σ:St),cj (fun _=>false) k l σ=σ:=by
   intro l
   induction l with
   | nil=>intro k σ;rfl
   | cons o l ih=>intro k σ;simp [cj,ih]
  have:=kz (p:=q) (q:=fun _=>false) (t:=t) l (k+1) (eD o σ) (eD o σ) rfl fun i o' ho hdo=>by
   cases hq':q (k+1+i) with
   | false=>rfl
   | true=>exact absurd hdo (hl (i+1) o' (by simpa using ho) (by omega) (by rw [show k+(i+1)=k+1+i by omega];exact hq'))
  rw [this,e1]
  simp [eD,eI,tW,hd]
 | o::l,k,m+1,σ,h,hq,hl=>by
  simp only [cj]
  exact mh hd l (k+1) m _ (by simpa using h) (by rw [show k+1+m=k+(m+1) by omega];exact hq)
   fun i o' ho hi hq'=>hl (i+1) o' (by simpa using ho) (by omega) (by rw [show k+(i+1)=k+1+i by omega];exact hq')
theorem n7 {q:Nat->Bool}{t:Nat}{oj:df}(hd:t ∈ oj.es.map (·.1))(T:Tab):∀ (os:List df) (k m:Nat) (σ:St),os[m]?=some oj->q (k+m)=true ->
  (∀ i o,os[i]?=some o->m < i->q (k+i)=true->t ∉ o.es.map (·.1))->aj (cj q k os σ).tab t=aj (aputs T oj.es) t
 | [],_,_,_,h,_,_=>by simp at h
 | o::l,k,0,σ,h,hq,hl=>by
  simp only [List.getElem?_cons_zero,Option.some.injEq] at h
  subst h
  simp only [cj]
  rw [if_pos (by simpa using hq)]
  have e1:∀ (l:List df) (k:Nat) (σ:St),cj (fun _=>false) k l σ=σ:=by
   intro l
   induction l with
   | nil=>intro k σ;rfl
   | cons o l ih=>intro k σ;simp [cj,ih]
  have:=kQ (p:=q) (q:=fun _=>false) (n:=t) l (k+1) (eD o σ) (eD o σ) rfl fun i o' ho hdo=>by
   cases hq':q (k+1+i) with
   | false=>rfl
   | true=>exact absurd hdo (hl (i+1) o' (by simpa using ho) (by omega) (by rw [show k+(i+1)=k+1+i by omega];exact hq'))
  rw [this,e1]
  exact tz hd
 | o::l,k,m+1,σ,h,hq,hl=>by
  simp only [cj]
  exact n7 hd T l (k+1) m _ (by simpa using h) (by rw [show k+1+m=k+(m+1) by omega];exact hq)
   fun i o' ho hi hq'=>hl (i+1) o' (by simpa using ho) (by omega) (by rw [show k+(i+1)=k+1+i by omega];exact hq')
theorem qg {P:Program}{E:Env}:∀ (as:List bz) (σ:St) (os:List df) (σ':St) (k:Nat),iu P E as σ=some (os,σ')->os.length=as.length/\cj (fun _=>true) k os σ=σ' /\
  ∀ j ao o,as[j]?=some ao->os[j]?=some o ->
   lE P E ao (cj (fun i=>decide (i < k+j)) k os σ)=some (o.y,o.es)/\o.dst=ao.dst/\o.lk=lkA (cj (fun i=>decide (i < k+j)) k os σ) ao o.es
 | [],σ,os,σ',k,h=>by
  simp only [iu,Option.some.injEq,Prod.mk.injEq] at h
  obtain⟨rfl,rfl⟩:=h
  exact⟨rfl,rfl,fun j ao o h=>by simp at h⟩
 | ao::l,σ,os,σ',k,h=>by
  simp only [iu] at h
  split at h
  ·rename_i y es h1
   split at h
   ·rename_i os' σ2 h2
    simp only [Option.some.injEq,Prod.mk.injEq] at h
    obtain⟨rfl,rfl⟩:=h
    obtain⟨h3,h4,h5⟩:=qg l _ os' σ2 (k+1) h2
    refine⟨by simp [h3],by simp only [cj,if_true];exact h4,fun j ao' o hao ho=>?_⟩
    cases j with
    | zero=>
     simp only [List.getElem?_cons_zero,Option.some.injEq] at hao ho
     subst hao;subst ho
     have e1:∀ (l:List df) (m:Nat) (σ:St),k<=m->cj (fun i=>decide (i < k+0)) m l σ=σ:=by
      intro l
      induction l with
      | nil=>intro m σ _;rfl
      | cons o l ih=>intro m σ hm;simp only [cj,ih (m+1) _ (by omega)];rw [if_neg (by simp;omega)]
     rw [e1 _ _ _ (Nat.le_refl _)]
     exact⟨h1,rfl,rfl⟩
    | succ j=>
     simp only [List.getElem?_cons_succ] at hao ho
     have:=h5 j ao' o hao ho
     simp only [cj]
     rw [if_pos (by simp)]
     rw [show k+(j+1)=k+1+j by omega]
     exact this
   ·cases h
  ·cases h
variable {P:Program}{E:Env}{w0:fi P}{w w':World}{N0:Nat->Prop}{g g':Gh}{T T':Tab}{r:Option Nat}{n nt:Nat}{mvs:List Nat}{svv:Array Value}{o:Oper}{a:Act}{σ σ':St}{ops:Array Oper}
 {ao:bz} {y:AV} {es:List (Nat × aD)}
def Bs (ao:bz):List Nat:=(match ao.guard with | some (t,_)=>[t] | none=>[])++(f9 ao.op).filterMap fun | .tmp t=>some t | _=>none
theorem Jd (hn:va ao.op=true)(ht:∀ t ∈ Bs ao,aj σ'.tmps t=aj σ.tmps t)(hT:ct (lkA σ ao es) σ.tab σ'.tab)(h:lE P E ao σ=some (y,es)):lE P E ao σ'=some (y,es):=by
 have hw:gX σ'.tmps ao.guard=gX σ.tmps ao.guard:=by
  cases hg:ao.guard with
  | none=>rfl
  | some p=>simp only [gX,ht p.1 (by simp [Bs,hg])]
 unfold lE at h ⊢
 rw [hw]
 split at h
 ·rename_i hwt
  have hρ:∀ x ∈ f9 ao.op,evO σ.tmps x=evO σ'.tmps x:=by
   intro x hx
   cases x with
   | tmp t=>simp only [evO,ht t (by refine List.mem_append_right _ (List.mem_filterMap.2 ⟨.tmp t,hx,rfl⟩))]
   | _=>rfl
  rw [<- Sy ao.op (aaV hn) hρ]
  refine JO ?_ h
  simpa [lkA,hwt] using hT
 ·exact h
 ·cases h
theorem Rel.congr (h:Rel w0 N0 nt svv σ a w)(ht:∀ t,aj σ'.tmps t=aj σ.tmps t)(hT:∀ n,aj σ'.tab n=aj σ.tab n)(hsv:σ'.sv=σ.sv):Rel w0 N0 nt svv σ' a w:=by
 obtain⟨g,hM,hS,hsz,hd,hS2⟩:=h
 have hl:∀ n,live σ'.tab n ↔ live σ.tab n:=fun n=>by unfold live;rw [hT]
 have hav:am N0 g σ'.tab=am N0 g σ.tab:=by
  funext b
  simp only [am,hl]
 have hK:aT N0 g σ.tab w g σ'.tab w:=⟨fun d v h=>by rw [hav];exact h,fun n h=>by rw [hT];exact h,fun _ _=>⟨rfl,rfl,rfl⟩⟩
 refine⟨g,⟨hM.below,fun n e he=>?_,fun n m b hn hm=>hM.inj n m b ((hl n).1 hn) ((hl m).1 hm),fun n b hn=>hM.rng n b ((hl n).1 hn),hM.n0⟩,fun t x hx=>?_,hsz,hd,fun t x hx=>by rw [hsv] at hx;exact hK.a (hS2 t x hx)⟩
 ·rw [hT] at he
  exact (hM.ents n e he).mono hK he fun _ _ _=>rfl
 ·rw [ht] at hx
  exact hK.a (hS t x hx)
theorem Rel.drew (h:Rel w0 N0 nt svv σ a w):Rel w0 N0 nt svv σ a { w with drawn:=w.drawn+1 }:=by
 obtain⟨g,hM,hS,hsz,hd,hS2⟩:=h
 have hK:aT N0 g σ.tab w g σ.tab { w with drawn:=w.drawn+1 }:=aT.of (Nat.le_refl _) (fun _ _ _=>rfl) (fun _ _ h=>h) (fun _ h=>h) fun _ _=>⟨rfl,rfl,rfl⟩
 exact⟨g,⟨⟨hM.below.os,hM.below.tape,hM.below.output,hM.below.size,hM.below.block⟩,fun n e he=>(hM.ents n e he).mono hK he fun _ _ _=>rfl,hM.inj,hM.rng,hM.n0⟩,fun t x hx=>hK.a (hS t x hx),hsz,hd,fun t x hx=>hK.a (hS2 t x hx)⟩
def kindA:AOp->Nat
 | .mv _ | .pick .. | .build .. | .faddr .. | .field .. | .index .. | .extract .. | .mkfn .. | .nilchk _ | .bin .. | .eqagg .. | .pure _ | .bad | .iaddr _ (some _) _ _ | .aslice ..=>0
 | .load .. | .len _ | .iaddr _ none _ _ | .view ..=>1
 | _=>2
theorem abl {ρ:Operand->AV}{dst:Nat}{op:AOp}(hk:kindA op<=1)(h:eff P E T ρ dst op=some (y,es)):es=[]:=by
 cases op <;> (try (simp [kindA] at hk;done))
 case iaddr s arr x i=>
  cases arr <;> simp only [eff] at h <;> (repeat' split at h) <;> first
   | (cases h;done)
   | (simp only [Option.some.injEq,Prod.mk.injEq] at h;exact h.2.symm)
   | (simp only [Option.map_eq_some_iff,Prod.mk.injEq] at h;obtain⟨_,_,_,rfl⟩:=h;rfl)
 case load b s x=>
  simp only [eff] at h
  split at h <;> (try split at h) <;> (try split at h) <;> (try (cases h;done)) <;>
   (simp only [Option.map_eq_some_iff,Prod.mk.injEq] at h;obtain⟨_,_,_,rfl⟩:=h;rfl)
 case view s x lo hi=>
  simp only [eff] at h
  repeat' split at h
  all_goals first
   | (simp only [Option.some.injEq,Prod.mk.injEq] at h;exact h.2.symm)
   | cases h
 case pure o=>
  simp only [eff] at h
  repeat' split at h
  all_goals first
   | (simp only [Option.some.injEq,Prod.mk.injEq] at h;exact h.2.symm)
   | cases h
 case bin op t x z=>
  have hm:∀ {u:Option C},u.map (fun c=>(AV.val false [c],([]:List (Nat × aD))))=some (y,es)->es=[]:=fun {u} hu=>by
   simp only [Option.map_eq_some_iff,Prod.mk.injEq] at hu
   obtain⟨_,_,_,rfl⟩:=hu;rfl
  simp only [eff] at h
  split at h
  ·split at h
   ·simp only [Option.some.injEq,Prod.mk.injEq] at h;exact h.2.symm
   ·exact hm h
  ·exact hm h
 all_goals (simp only [eff] at h)
 all_goals (try (split at h))
 all_goals (try (split at h))
 all_goals (try (cases h;done))
 all_goals (try (simp only [Option.map_eq_some_iff,Prod.mk.injEq] at h;obtain⟨_,_,_,rfl⟩:=h;rfl))
 all_goals (try (simp only [Option.some.injEq,Prod.mk.injEq] at h;exact h.2.symm))
 all_goals (try (simp only [Option.map_eq_some_iff,Option.some.injEq,Prod.mk.injEq] at h;obtain⟨_,_,_,h⟩:=h;exact h.symm))
theorem zd {ρ:Operand->AV}{op:AOp}(hk:kindA op=0):kg T ρ op=[]:=by
 cases op <;> (try (simp [kindA] at hk;done)) <;> (try rfl)
 case iaddr s arr x i=>cases arr <;> simp_all [kindA,kg]
def sf (x y:bz):Bool:=kindA x.op == 0 || kindA y.op == 0 || (decide (kindA x.op<=1) && decide (kindA y.op<=1))
def zQ (d:Option Nat)(l:List Nat):Bool:=
 match d with
 | some t=>!l.contains t
 | none=>true
def uD (x y:bz):Bool:=zQ x.dst (Bs y) && zQ y.dst (Bs x) && zQ x.dst y.dst.toList
def im (bef:List (List Nat))(j:Nat):List Nat:=bef.getD j []
def OL (ops:Array Oper)(bef:List (List Nat)):Bool:=(List.range ops.size).all fun j=>
 match ops[j]? with
 | some o=>(o.after.toList.all fun e=>!Region.binds .any e || decide (e.on < j)) &&
   (im bef j).all fun i=>o.after.toList.any fun e=>Region.binds .any e && (e.on == i || (im bef e.on).contains i)
 | none=>true
def yc (as:List bz)(bef:List (List Nat))(prs:List (Nat × Nat)):Bool:=(List.range as.length).all fun j=>(List.range j).all fun i=>
 (im bef j).contains i || match as[i]?,as[j]? with
  | some x,some y=>uD x y && (sf x y || prs.contains (i,j))
  | _,_=>true
def aac (l m:List Nat):Bool:=l.all fun n=>!m.contains n
def esN (os:List df)(i:Nat):List Nat:=match os[i]? with | some o=>o.es.map (·.1) | none=>[]
def lkN (os:List df)(i:Nat):List Nat:=match os[i]? with | some o=>o.lk | none=>[]
def qz (os:List df)(p:Nat × Nat):Bool:=aac (esN os p.1) (lkN os p.2) && aac (esN os p.2) (lkN os p.1)
end Go.AM

namespace Go.AM
open Go.RowKit
variable {P:Program}{E:Env}{w0:fi P}{w w':World}{N0:Nat->Prop}{r:Option Nat}{n nt:Nat}{mvs:List Nat}{svv:Array Value}{a:Act}{σ σ':St}{ops:Array Oper}{as:List bz}{os:List df}
 {bef:List (List Nat)} {prs:List (Nat × Nat)}
theorem i8:∀ (l:List Oper) (as:List bz),dz P mvs nt ops l=some as->as.length=l.length/\∀ (i:Nat) (o:Oper),l[i]?=some o->∃ ao,as[i]?=some ao/\nJ P mvs nt ops o=some ao
 | [],as,h=>by simp only [dz,Option.some.injEq] at h;subst h;simp
 | o::l,as,h=>by
  simp only [dz] at h
  split at h
  ·rename_i ao as' h1 h2
   simp only [Option.some.injEq] at h
   subst h
   obtain⟨h3,h4⟩:=i8 l as' h2
   refine⟨by simp [h3],fun i o' hi=>?_⟩
   cases i with
   | zero=>simp only [List.getElem?_cons_zero,Option.some.injEq] at hi;subst hi;exact⟨ao,rfl,h1⟩
   | succ i=>simpa using h4 i o' (by simpa using hi)
  ·cases h
structure CU (ops:Array Oper)(as:List bz)(os:List df)(bef:List (List Nat)):Prop where
 len:as.length=ops.size
 olen:os.length=ops.size
 back:∀ (j:Nat) (o:Oper),ops[j]?=some o->∀ e ∈ o.after,Region.binds .any e=true->e.on < j
 before:∀ (j:Nat) (o:Oper),ops[j]?=some o->∀ i ∈ im bef j,∃ e ∈ o.after,Region.binds .any e=true/\(e.on=i\/i ∈ im bef e.on)
 apart:∀ (i j:Nat) (x y:bz),i < j->i ∉ im bef j->as[i]?=some x->as[j]?=some y->uD x y=true
 disj:∀ (i j:Nat) (x y:df),i < j->i ∉ im bef j->os[i]?=some x->os[j]?=some y->(∀ n ∈ x.es.map (·.1),n ∉ y.lk)/\(∀ n ∈ y.es.map (·.1),n ∉ x.lk)
 sub:∀ (j:Nat) (x:df),os[j]?=some x->∀ n ∈ x.es.map (·.1),n ∈ x.lk
theorem Jn (h:OL ops bef=true):(∀ (j:Nat) (o:Oper),ops[j]?=some o->∀ e ∈ o.after,Region.binds .any e=true->e.on < j) /\
  ∀ (j:Nat) (o:Oper),ops[j]?=some o->∀ i ∈ im bef j,∃ e ∈ o.after,Region.binds .any e=true/\(e.on=i\/i ∈ im bef e.on):=by
 have key:∀ (j:Nat) (o:Oper),ops[j]?=some o->((o.after.toList.all fun e=>!Region.binds .any e || decide (e.on < j)) &&
   (im bef j).all fun i=>o.after.toList.any fun e=>Region.binds .any e && (e.on == i || (im bef e.on).contains i))=true:=by
  intro j o ho
  have hj:j < ops.size:=(Array.getElem?_eq_some_iff.1 ho).1
  have:=List.all_eq_true.1 h j (List.mem_range.2 hj)
  simp only [ho] at this
  exact this
 refine⟨fun j o ho e he hb=>?_,fun j o ho i hi=>?_⟩
 ·have:=key j o ho
  simp only [Bool.and_eq_true] at this
  have:=List.all_eq_true.1 this.1 e (by simpa using he)
  simpa [hb] using this
 ·have:=key j o ho
  simp only [Bool.and_eq_true] at this
  have:=List.all_eq_true.1 this.2 i hi
  obtain⟨e,he,hx⟩:=List.any_eq_true.1 this
  simp only [Bool.and_eq_true,Bool.or_eq_true,beq_iff_eq,List.contains_iff_mem] at hx
  exact⟨e,by simpa using he,hx.1,hx.2⟩
theorem s9 (h:yc as bef prs=true){i j:Nat}{x y:bz}(hij:i < j)(hb:i ∉ im bef j)(hx:as[i]?=some x)(hy:as[j]?=some y) :
  uD x y=true/\(sf x y=true\/(i,j) ∈ prs):=by
 have hj:j < as.length:=(List.getElem?_eq_some_iff.1 hy).1
 have:=List.all_eq_true.1 (List.all_eq_true.1 h j (List.mem_range.2 hj)) i (List.mem_range.2 hij)
 simp only [hx,hy,Bool.or_eq_true,Bool.and_eq_true,List.contains_iff_mem] at this
 rcases this with this | this
 ·exact absurd this hb
 ·exact this
theorem Aj {l m:List Nat}(h:aac l m=true):∀ n ∈ l,n ∉ m:=by
 intro n hn hm
 have:=List.all_eq_true.1 h n hn
 simp [hm] at this
theorem oW {ao:bz}{y:AV}{es:List (Nat × aD)}(h:lE P E ao σ=some (y,es))(hk:kindA ao.op<=1):es=[]:=by
 unfold lE at h
 split at h
 ·exact abl hk h
 ·simp only [Option.some.injEq,Prod.mk.injEq] at h;exact h.2.symm
 ·cases h
theorem Xn (hc:dz P mvs nt ops ops.toList=some as)(hb:OL ops bef=true)(hp:yc as bef prs=true)(ho:iu P E as σ=some (os,σ'))(hd:prs.all (qz os)=true):CU ops as os bef:=by
 obtain⟨h1,h2⟩:=i8 _ _ hc
 obtain⟨h3,_,h5⟩:=qg as σ os σ' 0 ho
 obtain⟨h6,h7⟩:=Jn hb
 have hget:∀ (i:Nat) (x:df),os[i]?=some x->∃ ao,as[i]?=some ao:=fun i x hx=>by
  have hi:i < as.length:=by rw [<- h3];exact (List.getElem?_eq_some_iff.1 hx).1
  exact⟨as[i],by simp [hi]⟩
 have hsub:∀ (j:Nat) (x:df),os[j]?=some x->∀ n ∈ x.es.map (·.1),n ∈ x.lk:=by
  intro j x hx n hn
  obtain⟨ao,hao⟩:=hget j x hx
  obtain⟨h8,_,h9⟩:=h5 j ao x hao hx
  rw [h9]
  unfold lkA
  split
  ·exact List.mem_append_right _ hn
  ·rename_i hw
   unfold lE at h8
   split at h8
   ·rename_i hw';exact absurd hw' (by simpa using hw)
   ·simp only [Option.some.injEq,Prod.mk.injEq] at h8
    rw [<- h8.2] at hn
    simp at hn
   ·cases h8
 refine⟨by simpa using h1,by rw [h3];simpa using h1,h6,h7,fun i j x y hij hb hx hy=>(s9 hp hij hb hx hy).1,fun i j x y hij hbf hx hy=>?_,hsub⟩
 obtain⟨ax,hax⟩:=hget i x hx
 obtain⟨ay,hay⟩:=hget j y hy
 obtain⟨ex,_,lx⟩:=h5 i ax x hax hx
 obtain⟨ey,_,ly⟩:=h5 j ay y hay hy
 rcases (s9 hp hij hbf hax hay).2 with hcalm | hmem
 ·have z1:kindA ax.op=0->x.es=[]/\x.lk=[]:=fun hk=>by
   have:=oW ex (by omega)
   refine⟨this,?_⟩
   rw [lx,this]
   unfold lkA
   split
   ·simp [zd hk]
   ·rfl
  have z2:kindA ay.op=0->y.es=[]/\y.lk=[]:=fun hk=>by
   have:=oW ey (by omega)
   refine⟨this,?_⟩
   rw [ly,this]
   unfold lkA
   split
   ·simp [zd hk]
   ·rfl
  simp only [sf,Bool.or_eq_true,beq_iff_eq,Bool.and_eq_true,decide_eq_true_eq] at hcalm
  rcases hcalm with (hk | hk) | ⟨hk1,hk2⟩
  ·rw [(z1 hk).1,(z1 hk).2];simp
  ·rw [(z2 hk).1,(z2 hk).2];simp
  ·rw [oW ex hk1,oW ey hk2];simp
 ·have:=List.all_eq_true.1 hd (i,j) hmem
  simp only [qz,esN,lkN,hx,hy,Bool.and_eq_true] at this
  exact⟨Aj this.1,Aj this.2⟩
def J2 (ops:Array Oper)(p:Nat->Bool):Prop:=∀ (j:Nat) (o:Oper),ops[j]?=some o->p j=true->∀ e ∈ o.after,Region.binds .any e=true->p e.on=true
theorem CU.closed (hS:CU ops as os bef){p:Nat->Bool}(hp:J2 ops p):∀ (j:Nat) (o:Oper),ops[j]?=some o->(∀ e ∈ o.after,Region.binds .any e=true->p e.on=true)->∀ i ∈ im bef j,p i=true:=by
 intro j
 induction j using Nat.strongRecOn with
 | ind j ih=>
  intro o ho hd i hi
  obtain⟨e,he,hb,h⟩:=hS.before j o ho i hi
  rcases h with h | h
  ·rw [<- h];exact hd e he hb
  ·have hlt:=hS.back j o ho e he hb
   have hj:j < ops.size:=(Array.getElem?_eq_some_iff.1 ho).1
   have ho':ops[e.on]?=some ops[e.on]:=by simp [show e.on < ops.size by omega]
   exact ih e.on hlt ops[e.on] ho' (hp e.on _ ho' (hd e he hb)) i h
theorem nS {d:Option Nat}{l:List Nat}(h:zQ d l=true){t:Nat}(hd:d=some t):t ∉ l:=by
 subst hd
 simpa [zQ] using h
theorem CU.take (hS:CU ops as os bef){σ0:St}(hsp:∀ j ao o,as[j]?=some ao->os[j]?=some o ->
   lE P E ao (cj (fun i=>decide (i < 0+j)) 0 os σ0)=some (o.y,o.es)/\o.dst=ao.dst/\o.lk=lkA (cj (fun i=>decide (i < 0+j)) 0 os σ0) ao o.es)
  {p:Nat->Bool} (hp:J2 ops p) {j:Nat} {op:Oper} {ao:bz} {o:df} (hop:ops[j]?=some op) (hao:as[j]?=some ao) (ho:os[j]?=some o) (hn:va ao.op=true) (hj:p j=false)
  (hd:∀ e ∈ op.after,Region.binds .any e=true->p e.on=true) {σc:St} (ht:∀ t,aj σc.tmps t=aj (cj p 0 os σ0).tmps t) (hT:∀ n,aj σc.tab n=aj (cj p 0 os σ0).tab n) :
  lE P E ao σc=some (o.y,o.es)/\∀ q:Nat->Bool,(∀ i,i < os.length->q i=(p i || i == j)) ->
   (∀ t,aj (eD o σc).tmps t=aj (cj q 0 os σ0).tmps t)/\∀ n,aj (eD o σc).tab n=aj (cj q 0 os σ0).tab n:=by
 obtain⟨hout,hdst,hlk⟩:=hsp j ao o hao ho
 have hget:∀ (i:Nat) (x:df),os[i]?=some x->∃ ai oi,as[i]?=some ai/\ops[i]?=some oi/\x.dst=ai.dst:=fun i x hx=>by
  have hi:i < ops.size:=by rw [<- hS.olen];exact (List.getElem?_eq_some_iff.1 hx).1
  have hi':i < as.length:=by rw [hS.len];exact hi
  refine⟨as[i],ops[i],by simp [hi'],by simp [hi],(hsp i as[i] x (by simp [hi']) hx).2.1⟩
 have later:∀ (i:Nat) (x:df),os[i]?=some x->j < i->p i=true->j ∉ im bef i:=fun i x hx hji hpi hb=>by
  obtain⟨ai,oi,h1,h2,_⟩:=hget i x hx
  have:=hS.closed hp i oi h2 (hp i oi h2 hpi) j hb
  rw [hj] at this
  cases this
 have agree:∀ (i:Nat) (x:df),os[i]?=some x->((∃ t,x.dst=some t/\t ∈ Bs ao)\/∃ n ∈ x.es.map (·.1),n ∈ o.lk)->p i=decide (i < j):=by
  intro i x hx hcase
  obtain⟨ai,oi,h1,h2,h3⟩:=hget i x hx
  rcases Nat.lt_trichotomy i j with hij | hij | hij
  ·rw [decide_eq_true hij]
   by_cases hb:i ∈ im bef j
   ·exact hS.closed hp j op hop hd i hb
   ·exfalso
    rcases hcase with ⟨t,ht1,ht2⟩ | ⟨m,hm1,hm2⟩
    ·have:=hS.apart i j ai ao hij hb h1 hao
     simp only [uD,Bool.and_eq_true] at this
     exact nS this.1.1 (h3 ▸ ht1) ht2
    ·exact (hS.disj i j x o hij hb hx ho).1 m hm1 hm2
  ·subst hij;simp [hj]
  ·rw [decide_eq_false (by omega)]
   cases hpi:p i with
   | false=>rfl
   | true=>
    exfalso
    have hb:=later i x hx hij hpi
    rcases hcase with ⟨t,ht1,ht2⟩ | ⟨m,hm1,hm2⟩
    ·have:=hS.apart j i ao ai hij hb hao h1
     simp only [uD,Bool.and_eq_true] at this
     exact nS this.1.2 (h3 ▸ ht1) ht2
    ·exact (hS.disj j i o x hij hb ho hx).2 m hm1 hm2
 constructor
 ·refine Jd hn (fun t hts=>?_) (fun m hm=>?_) hout
  ·rw [ht]
   exact kz os 0 σ0 σ0 rfl fun i x hx hxd=>by simpa using agree i x hx (.inl ⟨t,hxd,hts⟩)
  ·rw [hT]
   rw [<- hlk] at hm
   exact kQ os 0 σ0 σ0 rfl fun i x hx hxn=>by simpa using agree i x hx (.inr ⟨m,hxn,hm⟩)
 ·intro q hq
  have hlen:∀ (i:Nat) (x:df),os[i]?=some x->i < os.length:=fun i x hx=>(List.getElem?_eq_some_iff.1 hx).1
  have hqj:q (0+j)=true:=by rw [Nat.zero_add,hq j (hlen j o ho)];simp
  constructor
  ·intro t
   simp only [eD,eI,tW]
   split
   ·rename_i hdt
    refine (mh hdt os 0 j σ0 ho hqj fun i x hx hji hqi hxd=>?_).symm
    rw [Nat.zero_add,hq i (hlen i x hx)] at hqi
    have hpi:p i=true:=by
     have:¬ i=j:=by omega
     simpa [this] using hqi
    obtain⟨ai,oi,h1,h2,h3⟩:=hget i x hx
    have:=hS.apart j i ao ai hji (later i x hx hji hpi) hao h1
    simp only [uD,Bool.and_eq_true] at this
    exact nS this.2 (hdst ▸ hdt) (by rw [<- h3,hxd];simp)
   ·rename_i hdt
    rw [ht]
    refine kz os 0 σ0 σ0 rfl fun i x hx hxd=>?_
    rw [Nat.zero_add,hq i (hlen i x hx)]
    by_cases hij:i=j
    ·subst hij
     rw [ho] at hx
     simp only [Option.some.injEq] at hx
     subst hx
     exact absurd hxd hdt
    ·simp [hij]
  ·intro m
   simp only [eD,eI]
   by_cases hm:m ∈ o.es.map (·.1)
   ·refine (n7 hm σc.tab os 0 j σ0 ho hqj fun i x hx hji hqi hxd=>?_).symm
    rw [Nat.zero_add,hq i (hlen i x hx)] at hqi
    have hpi:p i=true:=by
     have:¬ i=j:=by omega
     simpa [this] using hqi
    exact (hS.disj j i o x hji (later i x hx hji hpi) ho hx).1 m hm (hS.sub i x hx m hxd)
   ·rw [fL hm,hT]
    refine kQ os 0 σ0 σ0 rfl fun i x hx hxd=>?_
    rw [Nat.zero_add,hq i (hlen i x hx)]
    by_cases hij:i=j
    ·subst hij
     rw [ho] at hx
     simp only [Option.some.injEq] at hx
     subst hx
     exact absurd hxd hm
    ·simp [hij]
theorem aiZ (hE:eZ P E)(hds:p9 nt ops=true)(hc:dz P mvs nt ops ops.toList=some as)(hS:CU ops as os bef){σ0:St}(hfin:cj (fun _=>true) 0 os σ0=σ')
  (hsp:∀ j ao o,as[j]?=some ao->os[j]?=some o ->
   lE P E ao (cj (fun i=>decide (i < 0+j)) 0 os σ0)=some (o.y,o.es)/\o.dst=ao.dst/\o.lk=lkA (cj (fun i=>decide (i < 0+j)) 0 os σ0) ao o.es)
  {Q:Exit->Act->World->Prop} (hQ:∀ a' w',Rel w0 N0 nt svv σ' a' w'->Q .normal a' w') :
  ∀ (aN:Nat) (U:List Nat) (listed:Array Bool) (σc:St) (a:Act) (w:World),Rel w0 N0 nt svv σc a w->listed.size=ops.size->U.Nodup->(∀ j,j ∈ U ↔ listed[j]?=some false)->U.length=aN ->
   J2 ops (fun i=>listed.getD i false)->(∀ t,aj σc.tmps t=aj (cj (fun i=>listed.getD i false) 0 os σ0).tmps t)->(∀ n,aj σc.tab n=aj (cj (fun i=>listed.getD i false) 0 os σ0).tab n)->σc.sv=σ0.sv ->
   wpAnyIn (Fw r) n P .any ops Q aN listed a w:=by
 have hend:∀ (U:List Nat) (listed:Array Bool) (σc:St) (a:Act) (w:World),Rel w0 N0 nt svv σc a w->listed.size=ops.size->(∀ j,j ∈ U ↔ listed[j]?=some false)->U=[] ->
   (∀ t,aj σc.tmps t=aj (cj (fun i=>listed.getD i false) 0 os σ0).tmps t)->(∀ n,aj σc.tab n=aj (cj (fun i=>listed.getD i false) 0 os σ0).tab n)->σc.sv=σ0.sv->Q .normal a w:=by
  intro U listed σc a w hR hsz hU hnil ht hT hsv
  have hall:∀ (i:Nat) (x:df),os[i]?=some x->listed.getD (0+i) false=true:=fun i x hx=>by
   have hi:i < listed.size:=by rw [hsz,<- hS.olen];exact (List.getElem?_eq_some_iff.1 hx).1
   cases hl:listed[i] with
   | true=>simp [Array.getD,hi,hl]
   | false=>
    have:i ∈ U:=(hU i).2 (by simp [hi,hl])
    rw [hnil] at this
    simp at this
  refine hQ a w (hR.congr (fun t=>?_) (fun m=>?_) (by rw [<- hfin,HG,hsv]))
  ·rw [<- hfin,ht];exact kz os 0 σ0 σ0 rfl fun i x hx _=>(hall i x hx).symm
  ·rw [<- hfin,hT];exact kQ os 0 σ0 σ0 rfl fun i x hx _=>(hall i x hx).symm
 have hready:∀ (U:List Nat) (listed:Array Bool),listed.size=ops.size->(∀ j,j ∈ U ↔ listed[j]?=some false)->Region.ready .any ops listed=[]->U=[]:=by
  intro U listed hsz hU hr
  have key:∀ j,j ∉ U:=by
   intro j
   induction j using Nat.strongRecOn with
   | ind j ih=>
    intro hj
    have hlj:=(hU j).1 hj
    have hjs:j < ops.size:=by rw [<- hsz];exact (Array.getElem?_eq_some_iff.1 hlj).1
    have ho:ops[j]?=some ops[j]:=by simp [hjs]
    have:j ∈ Region.ready .any ops listed:=mem_ready.2 ⟨by simp [Array.getD_eq_getD_getElem?,hlj],ops[j],ho,fun e he hb=>by
     have hlt:=hS.back j _ ho e he hb
     have h1:=ih e.on hlt
     rw [hU] at h1
     have hes:e.on < listed.size:=by omega
     cases hl:listed[e.on] with
     | true=>simp [Array.getD,hes,hl]
     | false=>exact absurd (by simp [hes,hl]) h1⟩
    rw [hr] at this
    cases this
  cases U with
  | nil=>rfl
  | cons j U=>exact absurd (List.mem_cons_self) (key j)
 intro aN
 induction aN with
 | zero=>
  intro U listed σc a w hR hsz hnd hU hlen hcl ht hT hsv
  have hnil:U=[]:=List.length_eq_zero_iff.1 hlen
  refine⟨?_,hend U listed σc a w hR hsz hU hnil ht hT hsv⟩
  cases hr:Region.ready .any ops listed with
  | nil=>rfl
  | cons j l=>
   have hj:j ∈ Region.ready .any ops listed:=by rw [hr];exact List.mem_cons_self
   obtain⟨h0,o,ho,_⟩:=mem_ready.1 hj
   have hjs:j < listed.size:=by rw [hsz];exact (Array.getElem?_eq_some_iff.1 ho).1
   have:j ∈ U:=(hU j).2 (by simp [Array.getD,hjs] at h0;simp [hjs,h0])
   rw [hnil] at this
   simp at this
 | succ aN ih=>
  intro U listed σc a w hR hsz hnd hU hlen hcl ht hT hsv
  refine⟨fun hr=>hend U listed σc a w hR hsz hU (hready U listed hsz hU hr) ht hT hsv,fun j hj=>?_⟩
  obtain⟨h0,op,hop,hdeps⟩:=mem_ready.1 hj
  have hjo:j < ops.size:=(Array.getElem?_eq_some_iff.1 hop).1
  have hjs:j < listed.size:=by omega
  have hlj:listed[j]=false:=by simpa [Array.getD,hjs] using h0
  obtain⟨ao,hao,hco⟩:=(i8 _ _ hc).2 j op (by simpa using hop)
  have hjl:j < os.length:=by rw [hS.olen];exact hjo
  have hoj:os[j]?=some os[j]:=by simp [hjl]
  obtain⟨_,_,_,_,hns⟩:=pT hco
  have hdst:(os[j]).dst=ao.dst:=(hsp j ao _ hao hoj).2.1
  obtain⟨hout,hadd⟩:=hS.take (P:=P) (E:=E) hsp hcl hop hao hoj hns (by simp [Array.getD,hjs,hlj]) hdeps ht hT
  have hstep:tP P E ao σc=some (eD os[j] σc):=by
   unfold tP
   rw [hout]
   simp only [eD,hdst]
  refine Gp hE hco hds hop hR hstep fun a' w' hR'=>?_
  have hq:∀ i,i < os.length->(listed.setIfInBounds j true).getD i false=(listed.getD i false || i == j):=by
   intro i hi
   have his:i < listed.size:=by rw [hsz,<- hS.olen];exact hi
   by_cases hij:i=j
   ·subst hij;simp [hjs]
   ·rw [getD_set_ne false (Ne.symm hij)];simp [hij]
  obtain⟨h1,h2⟩:=hadd (fun i=>(listed.setIfInBounds j true).getD i false) hq
  have hjU:j ∈ U:=(hU j).2 (by simp [hjs,hlj])
  refine ih (U.erase j) (listed.setIfInBounds j true) _ a' w' hR' (by simpa using hsz) (hnd.erase j) (fun i=>?_) (by rw [List.length_erase_of_mem hjU,hlen];rfl) (fun i o ho hi e he hb=>?_) h1 h2 hsv
  ·rw [hnd.mem_erase_iff,hU]
   by_cases hij:i=j
   ·subst hij;simp [hjs]
   ·rw [Array.getElem?_setIfInBounds_ne (Ne.symm hij)];simp [hij]
  ·have his:i < os.length:=by rw [hS.olen];exact (Array.getElem?_eq_some_iff.1 ho).1
   have hon:e.on < os.length:=by have:=hS.back i o ho e he hb;omega
   simp only [hq i his,Bool.or_eq_true,beq_iff_eq] at hi
   simp only [hq e.on hon,Bool.or_eq_true,beq_iff_eq]
   rcases hi with hi | hi
   ·exact .inl (hcl i o ho hi e he hb)
   ·subst hi
    rw [hop] at ho
    simp only [Option.some.injEq] at ho
    subst ho
    exact .inl (hdeps e he hb)
theorem acZ (hE:eZ P E)(hm:P.follows .mixedOrders=true)(hds:p9 nt ops=true)(hc:dz P mvs nt ops ops.toList=some as)(hb:OL ops bef=true)(hp:yc as bef prs=true)
  (ho:iu P E as σ=some (os,σ')) (hd:prs.all (qz os)=true) {id:Nat} {Q:Exit->Act->World->Prop} (hR:Rel w0 N0 nt svv σ a w)
  (hQ:∀ a' w',Rel w0 N0 nt svv σ' a' w'->Q .normal a' w'):(Code.region id ops true).wpIn (Fw r) n P Q a w:=by
 have hS:=Xn hc hb hp ho hd
 obtain⟨h3,h4,h5⟩:=qg as σ os σ' 0 ho
 have e1:∀ (l:List df) (k:Nat) (σ:St),cj (fun i=>(Array.replicate ops.size false).getD i false) k l σ=σ:=by
  intro l
  induction l with
  | nil=>intro k σ;rfl
  | cons o l ih=>
   intro k σ
   simp only [cj,ih]
   rw [if_neg]
   simp only [Array.getD_eq_getD_getElem?,Array.getElem?_replicate]
   split <;> simp
 refine wpIn_region_any hm (aiZ hE hds hc hS h4 h5 hQ ops.size (List.range ops.size) (Array.replicate ops.size false) σ a _ hR.drew (by simp) List.nodup_range (fun j=>?_) (by simp) (fun j o hj hp=>?_) (fun t=>by rw [e1]) (fun m=>by rw [e1]) rfl)
 ·rw [List.mem_range,Array.getElem?_replicate]
  split <;> simp_all
 ·simp only [Array.getD_eq_getD_getElem?,Array.getElem?_replicate] at hp
  split at hp <;> simp at hp
theorem vv:∀ (as:List bz) (σ σ':St),pY P E as σ=some σ'->∃ os,iu P E as σ=some (os,σ')
 | [],σ,σ',h=>by simp only [pY,Option.some.injEq] at h;subst h;exact⟨[],rfl⟩
 | ao::l,σ,σ',h=>by
  simp only [pY,tP] at h
  split at h
  ·rename_i σ1 h1
   split at h1
   ·rename_i y es hout
    simp only [Option.some.injEq] at h1
    subst h1
    obtain⟨os,hos⟩:=vv l _ _ h
    exact⟨⟨ao.dst,y,es,lkA σ ao es⟩::os,by simp only [iu,hout,hos]⟩
   ·cases h1
  ·cases h
end Go.AM

namespace Go.AM
set_option linter.unusedVariables false
open Go.RowKit
variable {P:Program}{E:Env}{w0:fi P}{w w':World}{N0:Nat->Prop}{g g':Gh}{T T':Tab}{nt:Nat}{svv:Array Value}{a:Act}{σ σ':St}
def gV {α:Type}:List Nat->List (Nat × α)->List (Nat × α)
 | [],_=>[]
 | k::r,l=>match aj l k with
  | some x=>(k,x)::gV r l
  | none=>gV r l
theorem qa {α:Type}(ks:List Nat)(l:List (Nat × α))(n:Nat)(x:α)(h:aj (gV ks l) n=some x):aj l n=some x:=by
 induction ks with
 | nil=>simp [gV,aj] at h
 | cons k r ih=>
  simp only [gV] at h
  split at h
  ·rename_i y hy
   simp only [aj] at h
   split at h
   ·rename_i hk
    subst hk
    rw [hy];exact h
   ·exact ih h
  ·exact ih h
theorem BC {α:Type}(ks:List Nat)(l:List (Nat × α))(n:Nat)(hn:n ∈ ks):aj (gV ks l) n=aj l n:=by
 induction ks with
 | nil=>simp at hn
 | cons k r ih=>
  simp only [gV]
  by_cases hk:k=n
  ·subst hk
   cases hy:aj l k with
   | none=>
    simp only
    cases hq:aj (gV r l) k with
    | none=>rfl
    | some z=>rw [<- hy];exact (qa r l k z hq).symm
   | some y=>simp [aj]
  ·have hn':n ∈ r:=by
    rcases List.mem_cons.1 hn with h | h
    ·exact absurd h.symm hk
    ·exact h
   split
   ·simp only [aj,if_neg hk];exact ih hn'
   ·exact ih hn'
def pk:List Cap->List Nat
 | []=>[]
 | .ptr n::r=>n::pk r
 | .d _::r=>pk r
def rU:C->List Nat
 | .ref n | .eptr n _ _ | .ptr n _ | .sub n _ _ | .pptr n _=>[n]
 | .fn _ caps=>pk caps
 | .psl l=>l.map (·.1)
 | _=>[]
def j4:List C->List Nat
 | []=>[]
 | c::r=>rU c++j4 r
def xR:List (Bool × List C)->List Nat
 | []=>[]
 | p::r=>j4 p.2++xR r
def WR:AV->List Nat
 | .val _ cs=>j4 cs
 | .tup l=>xR l
theorem zM {cs:List C}{i:Nat}{c:C}(h:cs[i]?=some c){n:Nat}(hn:n ∈ rU c):n ∈ j4 cs:=by
 induction cs generalizing i with
 | nil=>simp at h
 | cons x r ih=>
  simp only [j4,List.mem_append]
  cases i with
  | zero=>simp at h;subst h;exact .inl hn
  | succ i=>exact .inr (ih (by simpa using h))
theorem Ig {l:List (Bool × List C)}{i:Nat}{p:Bool × List C}(h:l[i]?=some p){n:Nat}(hn:n ∈ j4 p.2):n ∈ xR l:=by
 induction l generalizing i with
 | nil=>simp at h
 | cons x r ih=>
  simp only [xR,List.mem_append]
  cases i with
  | zero=>simp at h;subst h;exact .inl hn
  | succ i=>exact .inr (ih (by simpa using h))
theorem Hv {caps:List Cap}{i n:Nat}(h:caps[i]?=some (.ptr n)):n ∈ pk caps:=by
 induction caps generalizing i with
 | nil=>simp at h
 | cons x r ih=>
  cases i with
  | zero=>simp at h;subst h;simp [pk]
  | succ i=>
   have:=ih (i:=i) (by simpa using h)
   cases x <;> simp [pk,this]
theorem cu.sub (hd:∀ d v,aH w (am N0 g T) d v->aH w (am N0 g T') d v){c:C}{v:Value}(h:cu w (am N0 g T) g T c v)(hr:∀ n ∈ rU c,(aj T n).isSome->(aj T' n).isSome):cu w (am N0 g T') g T' c v:=by
 cases c with
 | d x=>exact hd _ _ h
 | nils=>exact h
 | und=>exact h
 | unk=>trivial
 | yld l=>exact h
 | ref n=>exact⟨hr n (by simp [rU]) h.1,h.2⟩
 | sub n lo hi=>exact⟨hr n (by simp [rU]) h.1,h.2⟩
 | ptr n off=>exact⟨hr n (by simp [rU]) h.1,h.2⟩
 | eptr n i off=>exact⟨hr n (by simp [rU]) h.1,h.2⟩
 | psl l=>
  obtain⟨bs,h1,h2,h3⟩:=h
  exact⟨bs,h1,fun i p b hp hb=>⟨hr p.1 (by simp only [rU];exact List.mem_map.2 ⟨p,List.mem_of_getElem? hp,rfl⟩) (h2 i p b hp hb).1,(h2 i p b hp hb).2⟩,hd _ _ h3⟩
 | pptr n off=>
  obtain⟨h1,b,h2,h3⟩:=h
  exact⟨hr n (by simp [rU]) h1,b,h2,hd _ _ h3⟩
 | fn f caps=>
  obtain⟨cs,h1,h2,h3⟩:=h
  refine⟨cs,h1,h2,fun i c x hc hx=>?_⟩
  have:=h3 i c x hc hx
  cases c with
  | d y=>exact hd _ _ this
  | ptr n=>exact⟨hr n (Hv hc) this.1,this.2⟩
theorem gh.sub (hd:∀ d v,aH w (am N0 g T) d v->aH w (am N0 g T') d v){b:Bool}{cs:List C}{v:Value}(h:gh w (am N0 g T) g T b cs v)(hr:∀ n ∈ j4 cs,(aj T n).isSome->(aj T' n).isSome) :
  gh w (am N0 g T') g T' b cs v:=by
 cases b with
 | true=>
  obtain⟨xs,h1,h2,h3⟩:=h
  exact⟨xs,h1,h2,fun i c x hc hx=>(h3 i c x hc hx).sub hd fun n hn=>hr n (zM hc hn)⟩
 | false=>
  obtain⟨c,rfl,h2⟩:=h
  exact⟨c,rfl,h2.sub hd fun n hn=>hr n (by simp [j4,hn])⟩
theorem aJ.sub (hd:∀ d v,aH w (am N0 g T) d v->aH w (am N0 g T') d v){x:AV}{v:Value}(h:aJ w (am N0 g T) g T x v)(hr:∀ n ∈ WR x,(aj T n).isSome->(aj T' n).isSome) :
  aJ w (am N0 g T') g T' x v:=by
 cases x with
 | val b cs=>exact gh.sub hd h hr
 | tup l=>
  obtain⟨xs,h1,h2,h3⟩:=h
  exact⟨xs,h1,h2,fun i p x hp hx=>(h3 i p x hp hx).sub hd fun n hn=>hr n (Ig hp hn)⟩
def inN (l:List Nat)(n:Nat):Bool:=l.any fun m=>m == n
def IJ (l:List Nat):List Nat->Bool
 | []=>true
 | n::r=>inN l n && IJ l r
theorem qy {l m:List Nat}(h:IJ l m=true):∀ n ∈ m,inN l n=true:=by
 induction m with
 | nil=>simp
 | cons x r ih=>
  simp only [IJ,Bool.and_eq_true] at h
  intro n hn
  rcases List.mem_cons.1 hn with rfl | hn
  ·exact h.1
  ·exact ih h.2 n hn
def ae8:List Nat->List Nat->List Nat
 | acc,[]=>acc.reverse
 | acc,n::r=>if inN acc n then ae8 acc r else ae8 (n::acc) r
theorem FL {l:List Nat}{n:Nat}:inN l n=true ↔ n ∈ l:=by
 simp [inN]
def AG (T:Tab):List (Nat × AV)->List Nat
 | []=>[]
 | (_,x)::r=>bp T x++AG T r
def Hn:List (Nat × AV)->List Nat
 | []=>[]
 | (_,x)::r=>WR x++Hn r
def Do:Tab->List Nat
 | []=>[]
 | (_,.box cs)::r=>j4 cs++Do r
 | _::r=>Do r
def gcA (σ:St):Option St:=
 let l:=ae8 [] (AG σ.tab σ.tmps++AG σ.tab σ.sv)
 let T:=gV l σ.tab
 if IJ l (Hn σ.tmps++Hn σ.sv) && IJ l (Do T) then some ⟨σ.tmps,T,σ.sv⟩ else none
theorem CA {tmps:List (Nat × AV)}{t:Nat}{x:AV}(h:aj tmps t=some x){n:Nat}(hn:n ∈ WR x):n ∈ Hn tmps:=by
 induction tmps with
 | nil=>simp [aj] at h
 | cons p r ih=>
  obtain⟨k,y⟩:=p
  simp only [aj] at h
  simp only [Hn,List.mem_append]
  split at h
  ·simp only [Option.some.injEq] at h;subst h;exact .inl hn
  ·exact .inr (ih h)
theorem QW {T:Tab}{k:Nat}{cs:List C}(h:aj T k=some (.box cs)){n:Nat}(hn:n ∈ j4 cs):n ∈ Do T:=by
 induction T with
 | nil=>simp [aj] at h
 | cons p r ih=>
  obtain⟨m,e⟩:=p
  simp only [aj] at h
  split at h
  ·simp only [Option.some.injEq] at h;subst h;simp only [Do,List.mem_append];exact .inl hn
  ·have:=ih h
   cases e <;> simp [Do,this]
theorem Rel.keep (h:Rel w0 N0 nt svv σ a w)(l:List Nat):Rel w0 N0 nt svv ⟨gV l σ.tmps,σ.tab,σ.sv⟩ a w:=by
 obtain⟨g,hM,hS,hsz,hd,hS2⟩:=h
 exact⟨g,hM,fun t x hx=>hS t x (qa _ _ _ _ hx),hsz,hd,hS2⟩
theorem Rel.gc (h:Rel w0 N0 nt svv σ a w)(hg:gcA σ=some σ'):Rel w0 N0 nt svv σ' a w:=by
 obtain⟨g,hM,hS,hsz,hd,hS2⟩:=h
 simp only [gcA] at hg
 split at hg
 ·rename_i hc
  simp only [Bool.and_eq_true] at hc
  simp only [Option.some.injEq] at hg
  subst hg
  generalize hl:ae8 [] (AG σ.tab σ.tmps++AG σ.tab σ.sv)=l at hc
  have hsub:∀ n e,aj (gV l σ.tab) n=some e->aj σ.tab n=some e:=fun n e he=>qa _ _ _ _ he
  have hlive:∀ n,live (gV l σ.tab) n->live σ.tab n:=fun n hn=>by
   unfold live at hn ⊢
   cases he:aj (gV l σ.tab) n with
   | none=>rw [he] at hn;exact hn.elim
   | some e=>rw [he] at hn;rw [hsub n e he];exact hn
  have hav:∀ b,am N0 g (gV l σ.tab) b->am N0 g σ.tab b:=fun b hb=>by
   rcases hb with hb | ⟨m,h1,h2⟩
   ·exact .inl hb
   ·exact .inr ⟨m,hlive m h1,h2⟩
  have hdr:∀ d v,aH w (am N0 g σ.tab) d v->aH w (am N0 g (gV l σ.tab)) d v:=fun d v hx=>hx.mono (Nat.le_refl _) (fun _ _ _=>rfl) fun b _ hb=>hav b hb
  have hin:∀ n,inN l n=true->(aj σ.tab n).isSome->(aj (gV l σ.tab) n).isSome:=fun n h1 h2=>by rw [BC _ _ _ (FL.1 h1)];exact h2
  refine⟨g,⟨hM.below,fun n e he=>?_,fun n m b hn hm=>hM.inj n m b (hlive n hn) (hlive m hm),fun n b hn=>hM.rng n b (hlive n hn),hM.n0⟩,fun t x hx=>(hS t x hx).sub hdr fun n hn=>hin n (qy hc.1 n (List.mem_append_left _ (CA hx hn))),hsz,hd,
   fun t x hx=>(hS2 t x hx).sub hdr fun n hn=>hin n (qy hc.1 n (List.mem_append_right _ (CA hx hn)))⟩
  have h0:=hM.ents n e (hsub n e he)
  cases e with
  | box cs=>
   obtain⟨b,cells,t,h1,h2,h3,h4,h5⟩:=h0
   exact⟨b,cells,t,h1,h2,h3,fun i c x hc' hx=>(h4 i c x hc' hx).sub hdr fun m hm=>hin m (qy hc.2 m (QW he (zM hc' hm))),h5⟩
  | own sz rows=>
   refine⟨?_,h0.2⟩
   rcases h0.1 with x | ⟨b,off,cap,cells,t,fz,h1,h2,h3,h4,h5,h6,h7,h8,h9,h10⟩
   ·exact .inl x
   ·exact .inr ⟨b,off,cap,cells,t,fz,h1,h2,h3,h4,h5,h6,h7,h8,h9,fun i j r d hr hd=>by
     obtain⟨c,hc,hx⟩:=h10 i j r d hr hd
     exact⟨c,hc,hdr _ _ hx⟩⟩
  | imm rows=>exact⟨hdr _ _ h0.1,h0.2⟩
  | dead=>trivial
 ·cases hg
def fx (n m k:Nat):Nat:=if k=n then m else if k=m then n else k
theorem bO (n m k:Nat):fx n m (fx n m k)=k:=by
 unfold fx
 by_cases h1:k=n
 ·subst h1
  by_cases h2:m=k
  ·simp [h2]
  ·simp [h2]
 ·by_cases h2:k=m
  ·subst h2;simp [h1]
  ·simp [h1,h2]
def adO (n m:Nat):Cap->Cap
 | .ptr k=>.ptr (fx n m k)
 | .d x=>.d x
def wg (n m:Nat):C->C
 | .ref k=>.ref (fx n m k)
 | .ptr k off=>.ptr (fx n m k) off
 | .eptr k i off=>.eptr (fx n m k) i off
 | .sub k lo hi=>.sub (fx n m k) lo hi
 | .fn f caps=>.fn f (caps.map (adO n m))
 | .d x=>.d x
 | .nils=>.nils
 | .und=>.und
 | .unk=>.unk
 | .yld l=>.yld l
 | .psl l=>.psl (l.map fun p=>(fx n m p.1,p.2))
 | .pptr k off=>.pptr (fx n m k) off
theorem vQ (f:Nat->Nat):∀ (l:List (Nat × Nat)) (bs:List Nat),bq (l.map fun p=>(f p.1,p.2)) bs=bq l bs
 | [],_=>by simp [bq]
 | _::_,[]=>by simp [bq]
 | p::l,b::bs=>by simp only [List.map_cons,bq,vQ f l bs]
def SC (n m:Nat):AV->AV
 | .val b cs=>.val b (cs.map (wg n m))
 | .tup l=>.tup (l.map fun p=>(p.1,p.2.map (wg n m)))
def ZT (n m:Nat):aD->aD
 | .box cs=>.box (cs.map (wg n m))
 | .own sz rows=>.own sz rows
 | .imm rows=>.imm rows
 | .dead=>.dead
def pO (n m:Nat):Tab->Tab
 | []=>[]
 | (k,e)::r=>(fx n m k,ZT n m e)::pO n m r
def CE (n m:Nat):List (Nat × AV)->List (Nat × AV)
 | []=>[]
 | (k,x)::r=>(k,SC n m x)::CE n m r
def CR (n m:Nat)(σ:St):St:=⟨CE n m σ.tmps,pO n m σ.tab,CE n m σ.sv⟩
theorem AI {n m:Nat}(l:List (Nat × AV))(t:Nat):aj (CE n m l) t=(aj l t).map (SC n m):=by
 induction l with
 | nil=>rfl
 | cons p r ih=>
  obtain⟨k,x⟩:=p
  simp only [CE,aj]
  split <;> simp_all
theorem qo {n m:Nat}(l:Tab)(t:Nat):aj (pO n m l) t=(aj l (fx n m t)).map (ZT n m):=by
 induction l with
 | nil=>rfl
 | cons p r ih=>
  obtain⟨k,x⟩:=p
  simp only [pO,aj]
  by_cases h:k=fx n m t
  ·subst h;simp [bO]
  ·rw [if_neg h,if_neg (fun hk=>h (by rw [<- hk,bO]))]
   exact ih
def Gh.swap (g:Gh)(n m:Nat):Gh:=⟨fun k=>g.blk (fx n m k),fun k=>g.sv (fx n m k),fun k=>g.st (fx n m k)⟩
theorem lc {n m k:Nat}:live (pO n m T) k ↔ live T (fx n m k):=by
 unfold live
 rw [qo]
 cases aj T (fx n m k) with
 | none=>rfl
 | some e=>cases e <;> simp [ZT]
theorem qn {n m:Nat}:am N0 (g.swap n m) (pO n m T)=am N0 g T:=by
 funext b
 simp only [am,eq_iff_iff]
 constructor
 ·rintro (h | ⟨k,h1,h2⟩)
  ·exact .inl h
  ·exact .inr ⟨fx n m k,lc.1 h1,h2⟩
 ·rintro (h | ⟨k,h1,h2⟩)
  ·exact .inl h
  ·exact .inr ⟨fx n m k,lc.2 (by rw [bO];exact h1),by simp only [Gh.swap,bO];exact h2⟩
theorem cu.swap {N:Nat->Prop}{n m:Nat}{c:C}{v:Value}(h:cu w N g T c v):cu w N (g.swap n m) (pO n m T) (wg n m c) v:=by
 have hs:∀ k,(aj T k).isSome->(aj (pO n m T) (fx n m k)).isSome:=fun k hk=>by rw [qo,bO];simpa using hk
 cases c with
 | d x=>exact h
 | nils=>exact h
 | und=>exact h
 | unk=>trivial
 | yld l=>exact h
 | ref k=>exact⟨hs k h.1,by simp only [Gh.swap,bO];exact h.2.1,h.2.2⟩
 | sub k lo hi=>exact⟨hs k h.1,by simp only [Gh.swap,bO];exact h.2⟩
 | ptr k off=>exact⟨hs k h.1,by simp only [Gh.swap,bO];exact h.2⟩
 | eptr k i off=>exact⟨hs k h.1,by simp only [Gh.swap,bO];exact h.2⟩
 | psl l=>
  obtain⟨bs,h1,h2,h3⟩:=h
  refine⟨bs,by simpa using h1,fun i p b hp hb=>?_,by rw [vQ];exact h3⟩
  rw [List.getElem?_map] at hp
  cases hq:l[i]? with
  | none=>rw [hq] at hp;cases hp
  | some q=>
   rw [hq] at hp
   simp only [Option.map_some,Option.some.injEq] at hp
   subst hp
   exact⟨hs q.1 (h2 i q b hq hb).1,by simp only [Gh.swap,bO];exact (h2 i q b hq hb).2⟩
 | pptr k off=>
  obtain⟨h1,b,h2,h3⟩:=h
  exact⟨hs k h1,b,by simp only [Gh.swap,bO];exact h2,h3⟩
 | fn f caps=>
  obtain⟨cs,h1,h2,h3⟩:=h
  refine⟨cs,h1,by simpa using h2,fun i c x hc hx=>?_⟩
  rw [List.getElem?_map] at hc
  cases hq:caps[i]? with
  | none=>rw [hq] at hc;cases hc
  | some c'=>
   rw [hq] at hc
   simp only [Option.map_some,Option.some.injEq] at hc
   subst hc
   have:=h3 i c' x hq hx
   cases c' with
   | d y=>exact this
   | ptr k=>exact⟨hs k this.1,by simp only [Gh.swap,bO];exact this.2⟩
theorem gh.swap {N:Nat->Prop}{n m:Nat}{b:Bool}{cs:List C}{v:Value}(h:gh w N g T b cs v):gh w N (g.swap n m) (pO n m T) b (cs.map (wg n m)) v:=by
 cases b with
 | true=>
  obtain⟨xs,h1,h2,h3⟩:=h
  refine⟨xs,h1,by simpa using h2,fun i c x hc hx=>?_⟩
  rw [List.getElem?_map] at hc
  cases hq:cs[i]? with
  | none=>rw [hq] at hc;cases hc
  | some c'=>
   rw [hq] at hc
   simp only [Option.map_some,Option.some.injEq] at hc
   subst hc
   exact (h3 i c' x hq hx).swap
 | false=>
  obtain⟨c,rfl,h2⟩:=h
  exact⟨wg n m c,rfl,h2.swap⟩
theorem aJ.swap {N:Nat->Prop}{n m:Nat}{x:AV}{v:Value}(h:aJ w N g T x v):aJ w N (g.swap n m) (pO n m T) (SC n m x) v:=by
 cases x with
 | val b cs=>exact gh.swap h
 | tup l=>
  obtain⟨xs,h1,h2,h3⟩:=h
  refine⟨xs,h1,by simpa using h2,fun i p x hp hx=>?_⟩
  rw [List.getElem?_map] at hp
  cases hq:l[i]? with
  | none=>rw [hq] at hp;cases hp
  | some p'=>
   rw [hq] at hp
   simp only [Option.map_some,Option.some.injEq] at hp
   subst hp
   exact (h3 i p' x hq hx).swap
theorem Rel.swap (h:Rel w0 N0 nt svv σ a w)(n m:Nat):Rel w0 N0 nt svv (CR n m σ) a w:=by
 obtain⟨g,hM,hS,hsz,hd,hS2⟩:=h
 refine⟨g.swap n m,⟨hM.below,fun k e he=>?_,fun k l b hk hl bk bl=>?_,fun k b hk=>hM.rng _ b (lc.1 hk),hM.n0⟩,fun t x hx=>?_,hsz,hd,fun t x hx=>?_⟩
 ·simp only [CR] at he ⊢
  rw [qn]
  rw [qo] at he
  cases hq:aj σ.tab (fx n m k) with
  | none=>rw [hq] at he;cases he
  | some e'=>
   rw [hq] at he
   simp only [Option.map_some,Option.some.injEq] at he
   subst he
   have h0:=hM.ents _ e' hq
   cases e' with
   | box cs=>
    obtain⟨b,cells,t,h1,h2,h3,h4,h5⟩:=h0
    refine⟨b,cells,t,h1,h2,by simpa using h3,fun i c x hc hx=>?_,fun i c hc=>?_⟩
    ·rw [List.getElem?_map] at hc
     cases hq':cs[i]? with
     | none=>rw [hq'] at hc;cases hc
     | some c'=>
      rw [hq'] at hc
      simp only [Option.map_some,Option.some.injEq] at hc
      subst hc
      exact (h4 i c' x hq' hx).swap
    ·rw [List.getElem?_map] at hc
     cases hq':cs[i]? with
     | none=>rw [hq'] at hc;cases hc
     | some c'=>
      rw [hq'] at hc
      simp only [Option.map_some,Option.some.injEq] at hc
      subst hc
      have:=h5 i c' hq'
      cases c' <;> first | exact this | rfl | (simp [wg,okC] at this ⊢;done) | (simp [wg,okC];done)
   | own sz rows=>exact h0
   | imm rows=>exact h0
   | dead=>trivial
 ·have:=hM.inj _ _ b (lc.1 hk) (lc.1 hl) bk bl
  rw [<- bO n m k,this,bO]
 ·simp only [CR] at hx ⊢
  rw [qn]
  rw [AI] at hx
  cases hq:aj σ.tmps t with
  | none=>rw [hq] at hx;cases hx
  | some x'=>
   rw [hq] at hx
   simp only [Option.map_some,Option.some.injEq] at hx
   subst hx
   exact (hS t x' hq).swap
 ·simp only [CR] at hx ⊢
  rw [qn]
  rw [AI] at hx
  cases hq:aj σ.sv t with
  | none=>rw [hq] at hx;cases hx
  | some x'=>
   rw [hq] at hx
   simp only [Option.map_some,Option.some.injEq] at hx
   subst hx
   exact (hS2 t x' hq).swap
structure Ren where
 box:Bool
 at':Nat
 cell:Nat
 nm:Nat
 sz:Nat
def FT (σ:St)(r:Ren):Option C:=
 if r.box then match aj σ.tab r.at' with
  | some (.box cs)=>cs[r.cell]?
  | _=>none
 else match aj σ.tmps r.at' with
  | some (.val _ cs)=>cs[r.cell]?
  | _=>none
def nameNil (σ:St)(r:Ren):Option St:=
 if (aj σ.tab r.nm).isNone then
  if r.box then match aj σ.tab r.at' with
   | some (.box cs)=>some ⟨σ.tmps,aput (aput σ.tab r.nm (.own r.sz [])) r.at' (.box (cs.set r.cell (.ref r.nm))),σ.sv⟩
   | _=>none
  else match aj σ.tmps r.at' with
   | some (.val b cs)=>some ⟨aput σ.tmps r.at' (.val b (cs.set r.cell (.ref r.nm))),aput σ.tab r.nm (.own r.sz []),σ.sv⟩
   | _=>none
 else none
def Zg (σ:St)(r:Ren):Option St:=
 match FT σ r with
 | some .nils=>if r.sz=0 then some σ else nameNil σ r
 | some (.ref n)=>if n=r.nm then some σ else some (CR n r.nm σ)
 | _=>some σ
def UN (σ:St)(r:Ren):Option St:=
 if r.sz=999999 then some ⟨σ.tmps,aputs σ.tab (aU σ.tab [r.nm]),σ.sv⟩ else Zg σ r
theorem tU {N:Nat->Prop}{cs:List C}{xs:Array Value}{k m:Nat}(h0:cs.length=xs.size)(h:∀ (i:Nat) (c:C) (x:Value),cs[i]?=some c->xs[i]?=some x->cu w N g T c x)(hk:cs[k]?=some .nils)
  (hs:(aj T m).isSome) (hv:g.sv m=.slice none 0 0):∀ (i:Nat) (c:C) (x:Value),(cs.set k (.ref m))[i]?=some c->xs[i]?=some x->cu w N g T c x:=by
 intro i c x hc hx
 rw [List.getElem?_set] at hc
 split at hc
 ·rename_i hki
  subst hki
  split at hc
  ·simp only [Option.some.injEq] at hc
   subst hc
   have:=h k .nils x hk hx
   exact⟨hs,by rw [hv];exact this,_,_,_,this⟩
  ·cases hc
 ·exact h i c x hc hx
theorem Rel.nameNil (h:Rel w0 N0 nt svv σ a w){r:Ren}(hc:FT σ r=some .nils)(hr:nameNil σ r=some σ'):Rel w0 N0 nt svv σ' a w:=by
 obtain⟨g,hM,hS,hsz,hd,hS2⟩:=h
 unfold AM.nameNil at hr
 split at hr
 ·rename_i hf
  have hf':aj σ.tab r.nm=none:=by simpa using hf
  obtain⟨hM1,hK1⟩:=hM.create (n:=r.nm) (e:=.own r.sz []) (ob:=none) (sv:=.slice none 0 0) (s:=r.sz) hf' (Below.refl _ _) (fun b hb=>by cases hb) (fun _=>⟨.inl ⟨by simp [Gh.set],rfl,by simp [Gh.set]⟩,by simp [Gh.set]⟩)
  have hsv:(g.set r.nm none (.slice none 0 0) r.sz).sv r.nm=.slice none 0 0:=by simp [Gh.set]
  have hsome:(aj (aput σ.tab r.nm (.own r.sz [])) r.nm).isSome:=by rw [bg];rfl
  generalize g.set r.nm none (.slice none 0 0) r.sz=g1 at hM1 hK1 hsv
  split at hr
  ·rename_i hb
   split at hr
   ·rename_i cs hcs
    simp only [Option.some.injEq] at hr
    subst hr
    have hne:r.at' ≠ r.nm:=fun e=>by rw [e,hf'] at hcs;cases hcs
    have hcs1:aj (aput σ.tab r.nm (.own r.sz [])) r.at'=some (.box cs):=by rw [bt _ _ hne];exact hcs
    have hcell:cs[r.cell]?=some .nils:=by simpa [FT,hb,hcs] using hc
    obtain⟨b,cells,t,h1,h2,h3,h4,h5⟩:=hM1.ents _ _ hcs1
    have hl:live (aput σ.tab r.nm (.own r.sz [])) r.at':=by unfold live;rw [hcs1];trivial
    obtain⟨hM2,hK2⟩:=hM1.write (w':=w) (e:=.box (cs.set r.cell (.ref r.nm))) hl h1 trivial ⟨rfl,rfl,rfl,Nat.le_refl _,fun _ _ _=>rfl⟩ rfl (fun hK=>by
     refine⟨b,cells,t,h1,h2,by simpa using h3,fun i c x hci hx=>?_,fun i c hci=>?_⟩
     ·refine tU (by omega) (fun i c x hci hx=>hK.c (h4 i c x hci hx)) hcell (ep hsome) hsv i c x hci hx
     ·rw [List.getElem?_set] at hci
      split at hci
      ·split at hci
       ·simp only [Option.some.injEq] at hci;subst hci;rfl
       ·cases hci
      ·exact h5 i c hci)
    exact⟨g1,hM2,fun t x hx=>hK2.a (hK1.a (hS t x hx)),hsz,hd,fun t x hx=>hK2.a (hK1.a (hS2 t x hx))⟩
   ·cases hr
  ·rename_i hb
   split at hr
   ·rename_i b cs hcs
    simp only [Option.some.injEq] at hr
    subst hr
    have hcell:cs[r.cell]?=some .nils:=by simpa [FT,hb,hcs] using hc
    refine⟨g1,hM1,fun t x hx=>?_,hsz,hd,fun t x hx=>hK1.a (hS2 t x hx)⟩
    rw [cC] at hx
    split at hx
    ·rename_i ht
     subst ht
     simp only [Option.some.injEq] at hx
     subst hx
     have:=hK1.a (hS _ _ hcs)
     cases b with
     | true=>
      obtain⟨xs,e1,e2,e3⟩:=this
      exact⟨xs,e1,by simpa using e2,tU e2 e3 hcell hsome hsv⟩
     | false=>
      obtain⟨c,e1,e2⟩:=this
      subst e1
      have h0:r.cell=0:=by
       rcases Nat.eq_zero_or_pos r.cell with h | h
       ·exact h
       ·rw [List.getElem?_eq_none (by simp;omega)] at hcell;cases hcell
      rw [h0] at hcell ⊢
      simp only [List.getElem?_cons_zero,Option.some.injEq] at hcell
      subst hcell
      exact⟨.ref r.nm,rfl,hsome,by rw [hsv];exact e2,_,_,_,e2⟩
    ·exact hK1.a (hS t x hx)
   ·cases hr
 ·cases hr
theorem Rel.ren (h:Rel w0 N0 nt svv σ a w){r:Ren}(hr:UN σ r=some σ'):Rel w0 N0 nt svv σ' a w:=by
 unfold UN at hr
 split at hr
 ·simp only [Option.some.injEq] at hr;subst hr
  obtain⟨g,hM,hS,hsz,hd,hS2⟩:=h
  obtain⟨k1,k2,_⟩:=cw [r.nm] hM
  exact⟨g,k1,fun u x hu=>k2.a (hS u x hu),hsz,hd,fun u x hu=>k2.a (hS2 u x hu)⟩
 unfold Zg at hr
 split at hr
 ·rename_i hc
  split at hr
  ·simp only [Option.some.injEq] at hr;subst hr;exact h
  ·exact h.nameNil hc hr
 ·split at hr
  ·simp only [Option.some.injEq] at hr;subst hr;exact h
  ·simp only [Option.some.injEq] at hr;subst hr;exact h.swap _ _
 ·simp only [Option.some.injEq] at hr;subst hr;exact h
def vJ:List Ren->St->Option St
 | [],σ=>some σ
 | r::l,σ=>match UN σ r with
  | some σ'=>vJ l σ'
  | none=>none
def T2:List C->Option (List DC)
 | []=>some []
 | .d x::r=>(T2 r).map fun l=>x::l
 | _::_=>none
def fzA (σ:St)(t:Nat):St:=
 match aj σ.tmps t with
 | some (.val false [.ptr n off])=>match aj σ.tab n with
  | some (.box cs)=>match T2 cs with
   | some ds=>⟨aput σ.tmps t (.val false [.d (.cref ds off)]),aputs σ.tab (aU σ.tab [n]),σ.sv⟩
   | none=>σ
  | _=>σ
 | some (.val b cs)=>match cF σ.tab cs with
  | some (ds,es)=>⟨aput σ.tmps t (.val b (ds.map .d)),aputs σ.tab es,σ.sv⟩
  | none=>σ
 | _=>σ
def agi:List Nat->St->St
 | [],σ=>σ
 | t::l,σ=>agi l (fzA σ t)
theorem Hh:∀ {cs:List C} {ds:List DC},T2 cs=some ds->ds.length=cs.length/\∀ (i:Nat) (d:DC),ds[i]?=some d->cs[i]?=some (.d d)
 | [],ds,h=>by simp only [T2,Option.some.injEq] at h;subst h;exact⟨rfl,fun i d h=>by simp at h⟩
 | .d x::r,ds,h=>by
  simp only [T2,Option.map_eq_some_iff] at h
  obtain⟨l,hl,rfl⟩:=h
  obtain⟨h1,h2⟩:=Hh hl
  refine⟨by simp [h1],fun i d hd=>?_⟩
  cases i with
  | zero=>simp only [List.getElem?_cons_zero,Option.some.injEq] at hd;subst hd;rfl
  | succ i=>exact h2 i d (by simpa using hd)
theorem Rel.fz (h:Rel w0 N0 nt svv σ a w)(t:Nat):Rel w0 N0 nt svv (fzA σ t) a w:=by
 obtain⟨g,hM,hS,hsz,hd,hS2⟩:=h
 unfold fzA
 split
 ·rename_i m off hcs
  split
  ·rename_i cs hm
   split
   ·rename_i ds hds
    obtain⟨k1,k2,_⟩:=cw [m] hM
    refine⟨g,k1,fun u x hu=>?_,hsz,hd,fun u x hu=>k2.a (hS2 u x hu)⟩
    rw [cC] at hu
    split at hu
    ·rename_i ht;subst ht;simp only [Option.some.injEq] at hu;subst hu
     have hav:=aM (hS _ _ hcs) (show cE (.val false [.ptr m off])=some (.ptr m off) from rfl)
     obtain⟨_,b,hb,hv⟩:=hav
     obtain⟨b',cells,ty,hb',hh,hsz',hc,_⟩:=hM.ents m _ hm
     rw [hb] at hb';cases hb'
     obtain⟨hl,hg⟩:=Hh hds
     have hlive:live σ.tab m:=by simp [live,hm]
     obtain⟨r1,r2⟩:=hM.rng m b hlive hb
     have hfn:aU σ.tab [m]=[(m,.dead)]:=by simp [aU,hm]
     refine⟨_,rfl,?_⟩
     rw [hv]
     have key:=aH.cref (w:=w) (N:=am N0 g (aputs σ.tab (aU σ.tab [m]))) (cs:=ds) (b:=b) (o:=0) (off:=off) (fun j=>(cells[j]?).getD undef) (by
       rw [hfn]
       rintro (h | ⟨q,h1,h2⟩)
       ·have:=hM.n0 b h;rcases r1 with h3 | h3
        ·omega
        ·exact this.2.1 h3
       ·have hq:q ≠ m:=by rintro rfl;simp [live,aputs,bg] at h1
        have h1':live σ.tab q:=by
         unfold live at h1 ⊢
         rwa [show aputs σ.tab [(m,aD.dead)]=aput σ.tab m .dead from rfl,bt _ _ hq] at h1
        exact hq (hM.inj q m b h1' hlive h2 hb)) r2
      (fun j hj=>by
       have:j < cells.size:=by omega
       simp [World.cell?,hh,this])
      (fun j d hj=>by
       have h4:=hg j d hj
       have hjl:j < cells.size:=by rw [hsz'];exact (List.getElem?_eq_some_iff.1 h4).1
       have:=hc j _ cells[j] h4 (by simp [hjl])
       have h5:=k2.d d cells[j] this
       simpa [hjl] using h5)
     rw [Nat.zero_add] at key
     exact key
    ·exact k2.a (hS u x hu)
   ·exact⟨g,hM,hS,hsz,hd,hS2⟩
  ·exact⟨g,hM,hS,hsz,hd,hS2⟩
 ·rename_i b cs hnp hcs
  split
  ·rename_i ds es hf
   have hv:=hS t _ hcs
   have key:∀ xs:List Value,dH w (am N0 g σ.tab) g σ.tab cs xs->Mem w0 N0 g (aputs σ.tab es) w/\aT N0 g σ.tab w g (aputs σ.tab es) w/\ds.length=cs.length /\
     ∀ (i:Nat) (d:DC) (x:Value),ds[i]?=some d->xs[i]?=some x->aH w (am N0 g (aputs σ.tab es)) d x:=fun xs hx=>g9 hM hx hf
   have fin:∀ (hM2:Mem w0 N0 g (aputs σ.tab es) w) (hK:aT N0 g σ.tab w g (aputs σ.tab es) w),aJ w (am N0 g (aputs σ.tab es)) g (aputs σ.tab es) (.val b (ds.map .d)) (a.tmps.getD t undef) ->
     Rel w0 N0 nt svv ⟨aput σ.tmps t (.val b (ds.map .d)),aputs σ.tab es,σ.sv⟩ a w:=fun hM2 hK hx=>by
    refine⟨g,hM2,fun u x hu=>?_,hsz,hd,fun u x hu=>hK.a (hS2 u x hu)⟩
    rw [cC] at hu
    split at hu
    ·rename_i ht;subst ht;simp only [Option.some.injEq] at hu;subst hu;exact hx
    ·exact hK.a (hS u x hu)
   cases b with
   | true=>
    obtain⟨xs,e1,e2,e3⟩:=hv
    obtain⟨h1,h2,h3,h4⟩:=key xs.toList ⟨by simpa using e2.symm,fun i c x hc hx=>e3 i c x hc (by simpa using hx)⟩
    refine fin h1 h2 ⟨xs,e1,by simp [h3,e2],fun i c x hc hx=>?_⟩
    rw [List.getElem?_map] at hc
    cases hq:ds[i]? with
    | none=>rw [hq] at hc;cases hc
    | some d=>rw [hq] at hc;simp only [Option.map_some,Option.some.injEq] at hc;subst hc;exact h4 i d x hq (by simpa using hx)
   | false=>
    obtain⟨c,e1,e2⟩:=hv
    subst e1
    obtain⟨h1,h2,h3,h4⟩:=key [a.tmps.getD t undef] ⟨rfl,fun i c' x hc hx=>by
     cases i with
     | zero=>simp only [List.getElem?_cons_zero,Option.some.injEq] at hc hx;subst hc;subst hx;exact e2
     | succ i=>simp at hc⟩
    match ds,h3 with
    | [d],_=>exact fin h1 h2 ⟨.d d,rfl,h4 0 d _ rfl rfl⟩
  ·exact⟨g,hM,hS,hsz,hd,hS2⟩
 ·exact⟨g,hM,hS,hsz,hd,hS2⟩
theorem Rel.fzs:∀ (l:List Nat) {σ:St},Rel w0 N0 nt svv σ a w->Rel w0 N0 nt svv (agi l σ) a w
 | [],_,h=>h
 | t::l,_,h=>Rel.fzs l (h.fz t)
structure cH where
 keep:List Nat
 gc:Bool
 rens:List Ren
 fz:List Nat
def gcO (b:Bool)(σ:St):Option St:=if b then gcA σ else some σ
def WC (t:cH)(σ:St):Option St:=
 match gcO t.gc (agi t.fz ⟨gV t.keep σ.tmps,σ.tab,σ.sv⟩) with
 | some σ1=>match vJ t.rens σ1 with
  | some σ2=>gcO t.gc σ2
  | none=>none
 | none=>none
def ip:Option cH->St->Option St
 | none,σ=>some σ
 | some t,σ=>WC t σ
theorem Rel.rens:∀ (l:List Ren) {σ:St},Rel w0 N0 nt svv σ a w->vJ l σ=some σ'->Rel w0 N0 nt svv σ' a w
 | [],σ,h,hr=>by simp only [vJ,Option.some.injEq] at hr;subst hr;exact h
 | r::l,σ,h,hr=>by
  simp only [vJ] at hr
  split at hr
  ·rename_i σ1 h1;exact Rel.rens l (h.ren h1) hr
  ·cases hr
theorem Rel.gcO (h:Rel w0 N0 nt svv σ a w){b:Bool}(hg:AM.gcO b σ=some σ'):Rel w0 N0 nt svv σ' a w:=by
 unfold AM.gcO at hg
 split at hg
 ·exact h.gc hg
 ·simp only [Option.some.injEq] at hg;subst hg;exact h
theorem Rel.tidy (h:Rel w0 N0 nt svv σ a w){t:Option cH}(ht:ip t σ=some σ'):Rel w0 N0 nt svv σ' a w:=by
 cases t with
 | none=>simp only [ip,Option.some.injEq] at ht;subst ht;exact h
 | some t=>
  simp only [ip,WC] at ht
  split at ht
  ·rename_i σ1 h1
   split at ht
   ·rename_i σ2 h2
    exact ((((h.keep t.keep).fzs t.fz).gcO h1).rens _ h2).gcO ht
   ·cases ht
  ·cases ht
end Go.AM

namespace Go.AM
open Go.RowKit
inductive au where
 | skip
 | ret
 | exit (id:Nat)
 | region (ops:List bz) (prs:List (Nat × Nat)) (td:Option cH)
 | seq (a b:au)
 | cond (c:Operand) (a b:au)
 | block (id:Nat) (b:au)
 | loop (td:Option cH) (b:au)
 | rangeF (g:Operand) (ps:List Nat) (td:Option cH) (a b:au)
def Be (o:Option (AV × List (Nat × aD)))(K:AV->List (Nat × aD)->Prop):Prop:=
 match o with
 | some (y,es)=>K y es
 | none=>False
def fc (o:Option Bool)(X Y:Prop):Prop:=
 match o with
 | some b=>(b=true->X)/\(b=false->Y)
 | none=>False
def lZ (P:Program)(E:Env):List bz->(St->Prop)->St->Prop
 | [],K,σ=>K σ
 | ao::l,K,σ=>fc (gX σ.tmps ao.guard) (Be (eff P E σ.tab (evO σ.tmps) (ao.dst.getD 9999) ao.op) fun y es=>lZ P E l K (eI σ ao.dst y es))
   (lZ P E l K (eI σ ao.dst (.val false [.und]) []))
def gr (P:Program)(E:Env):List bz->(List df->St->Prop)->List df->St->Prop
 | [],K,acc,σ=>K acc.reverse σ
 | ao::l,K,acc,σ=>fc (gX σ.tmps ao.guard) (Be (eff P E σ.tab (evO σ.tmps) (ao.dst.getD 9999) ao.op) fun y es=>gr P E l K (⟨ao.dst,y,es,lkA σ ao es⟩::acc) (eI σ ao.dst y es))
   (gr P E l K (⟨ao.dst,.val false [.und],[],lkA σ ao []⟩::acc) (eI σ ao.dst (.val false [.und]) []))
def jS (P:Program)(E:Env)(ops:List bz)(prs:List (Nat × Nat))(K:St->Prop)(σ:St):Prop:=
 match prs with
 | []=>lZ P E ops K σ
 | _::_=>gr P E ops (fun os σ'=>prs.all (qz os)=true/\K σ') [] σ
def vz (K:St->Prop)(Q:Exit->St->Prop):Exit->St->Prop
 | .normal,σ=>K σ
 | .exit id,σ=>Q (.exit id) σ
 | .ret,σ=>Q .ret σ
 | _,_=>False
def uC (id:Nat)(Q:Exit->St->Prop):Exit->St->Prop
 | .normal,σ=>Q .normal σ
 | .exit id',σ=>if id'=id then Q .normal σ else Q (.exit id') σ
 | .ret,σ=>Q .ret σ
 | _,_=>False
def jL (o:Option St)(K:St->Prop):Prop:=
 match o with
 | some σ=>K σ
 | none=>False
def pL (f:(Exit->St->Prop)->St->Prop)(td:Option cH)(Q:Exit->St->Prop):Nat->St->Prop
 | 0,_=>False
 | k+1,σ=>jL (ip td σ) (f (vz (pL f td Q k) Q))
def ofX:Value->AV
 | .tuple cs=>.val false [.d (.sl (cs.toList.map fun c=>[.v c]))]
 | v=>Ac v
def vN:List Nat->List Value->List (Nat × AV)->List (Nat × AV)
 | p::ps,v::vs,l=>vN ps vs ((p,ofX v)::l)
 | _,_,l=>l
def p8 (td:Option cH)(K:St->Prop)(Q:Exit->St->Prop):Exit->St->Prop
 | .normal,σ=>jL (ip td ⟨σ.sv,σ.tab,[]⟩) K
 | .ret,σ=>Q .ret ⟨σ.sv,σ.tab,[]⟩
 | .exit id,σ=>Q (.exit id) ⟨σ.sv,σ.tab,[]⟩
 | _,_=>False
def ql (σ:St)(g:Operand):Option (Nat × List (List DC)):=match g with
 | .tmp t=>match cE (evO σ.tmps (.tmp (t - 1))) with
  | some (.ref n)=>match aj σ.tab n with
   | some (.own 2 rows)=>some (n,rows)
   | _=>none
  | _=>none
 | _=>none
def zU (E:Env)(σ:St)(g:Operand):Option (List (List DC)):=match ql σ g,cE (evO σ.tmps g),σ.sv with
 | some (n,rows),some (.fn f [.ptr m]),[]=>match aj σ.tab m,E.ptrs f with
  | some (.box [.ref n']),some [k,2]=>if n'=n/\2000000<=k then some rows else none
  | _,_=>none
 | _,_,_=>none
def uX (l:Nat):List (List Value):=(List.range' (l / 2+1) (l - (l / 2+1))).map fun (i:Nat)=>[.int .i64 (i:Int)]
def DN (lv:Bool)(g:Operand)(ps:List Nat)(x:List Value)(σ:St)(K:St->Prop):Prop:=match lv with
 | false=>x.length=ps.length/\K ⟨vN ps x σ.tmps,σ.tab,σ.tmps⟩
 | true=>match ql σ g,x,ps with
  | some (_,rows),[.int .i64 t],[p,q]=>match rows[t.toNat]? with
   | some r=>K ⟨(q,.val true ((r.take 2).map .d))::(p,.val false [.d (.v (.int .i64 t))])::σ.tmps,σ.tab,σ.tmps⟩
   | none=>False
  | _,_,_=>False
def cQ (lv:Bool)(g:Operand)(fa fb:(Exit->St->Prop)->St->Prop)(ps:List Nat)(td:Option cH)(Q:Exit->St->Prop):List (List Value)->St->Prop
 | [],σ=>Q .normal σ
 | x::xs,σ=>DN lv g ps x σ (fa (vz (fb (p8 td (cQ lv g fa fb ps td Q xs) Q)) (fun _ _=>False)))
def iX:List C->Option (List Value)
 | []=>some []
 | .d (.v x)::r=>(iX r).map (x::·)
 | _=>none
def zW (E:Env)(T:Tab)(x:AV)(sv:List (Nat × AV)):Option (List (List Value)):=
 match cE x,sv with
 | some (.d (.fn f caps)),[]=>E.seq f caps
 | some (.fn f []),[]=>E.seq f []
 | some (.fn f [.ptr n]),[]=>match aj T n with
  | some (.box cs)=>match iX cs with
   | some vs=>E.seq f [.mref (vs.map .v) 0]
   | none=>none
  | _=>none
 | _,_=>none
def eK (σ:St)(x:AV):St:=match cE x with
 | some (.fn _ [.ptr n])=>⟨σ.tmps,aput σ.tab n .dead,σ.sv⟩
 | _=>σ
theorem rz {w:World}{N:Nat->Prop}{g:Gh}{T:Tab}:∀ {cs:List C} {vs:List Value} {cells:List Value},iX cs=some vs->cells.length=cs.length ->
  (∀ (i:Nat) (c:C) (x:Value),cs[i]?=some c->cells[i]?=some x->cu w N g T c x)->cells=vs
 | [],vs,cells,h,hl,_=>by
  simp only [iX,Option.some.injEq] at h
  subst h
  exact List.eq_nil_of_length_eq_zero (by simpa using hl)
 | .d (.v x)::r,vs,[],h,hl,_=>by simp at hl
 | .d (.v x)::r,vs,y::cells,h,hl,hr=>by
  simp only [iX,Option.map_eq_some_iff] at h
  obtain⟨us,h1,rfl⟩:=h
  have h0:=hr 0 _ y rfl rfl
  cases h0 with
  | v _=>exact congrArg (x::·) (rz h1 (by simpa using hl) fun i c x hc hx=>hr (i+1) c x (by simpa using hc) (by simpa using hx))
 | .d (.nan _)::_,_,_,h,_,_ | .d (.cx _ _ _)::_,_,_,h,_,_ | .d (.pt _ _)::_,_,_,h,_,_ | .d (.sl _)::_,_,_,h,_,_ | .d (.fn _ _)::_,_,_,h,_,_
 | .d (.csl _)::_,_,_,h,_,_ | .d (.cref _ _)::_,_,_,h,_,_ | .d (.ifc _ _ _)::_,_,_,h,_,_ | .d (.mref _ _)::_,_,_,h,_,_ | .d (.osl _ _)::_,_,_,h,_,_
 | .nils::_,_,_,h,_,_ | .und::_,_,_,h,_,_ | .unk::_,_,_,h,_,_ | .yld _::_,_,_,h,_,_ | .ref _::_,_,_,h,_,_ | .ptr _ _::_,_,_,h,_,_ | .eptr _ _ _::_,_,_,h,_,_
 | .fn _ _::_,_,_,h,_,_ | .sub _ _ _::_,_,_,h,_,_ | .psl _::_,_,_,h,_,_ | .pptr _ _::_,_,_,h,_,_=>by simp [iX] at h
theorem JU {E:Env}{w:World}{g:Gh}{N:Nat->Prop}{T:Tab}{x:AV}{v:Value}{σ:St}{xs:List (List Value)}(hx:aJ w N g T x v)(h:zW E T x σ.sv=some xs) :
  σ.sv=[]/\((∃ (f:Nat) (caps:List DC) (lb:Array Value),eK σ x=σ/\E.seq f caps=some xs/\v=.func (.func f) #[] lb/\caps.length=lb.size/\∀ (i:Nat) (d:DC) (c:Value),caps[i]?=some d->lb[i]?=some c->aH w N d c) \/
   ∃ (f n b:Nat) (cs:List C) (vs:List Value),eK σ x=⟨σ.tmps,aput σ.tab n .dead,σ.sv⟩/\E.seq f [.mref (vs.map .v) 0]=some xs/\v=.func (.func f) #[] #[.pointer (some ⟨b,0,none⟩)]/\aj T n=some (.box cs)/\iX cs=some vs/\g.blk n=some b):=by
 unfold zW at h
 split at h
 ·rename_i f caps hone hsv
  refine⟨hsv,.inl ?_⟩
  have hcl:=aM hx hone
  cases hcl with
  | @fn _ _ lb hlen hlb=>exact⟨f,caps,lb,by simp [eK,hone],h,rfl,hlen,hlb⟩
 ·rename_i f hone hsv
  refine⟨hsv,.inl ?_⟩
  obtain⟨cs,rfl,hlen,_⟩:=aM hx hone
  exact⟨f,[],cs,by simp [eK,hone],h,rfl,hlen,fun i d c hd=>by simp at hd⟩
 ·rename_i f n hone hsv
  refine⟨hsv,.inr ?_⟩
  obtain⟨lb,rfl,hlen,hcap⟩:=aM hx hone
  split at h
  ·rename_i cs hcs
   split at h
   ·rename_i vs hvs
    have hl1:lb.size=1:=by simpa using hlen.symm
    obtain⟨_,b,hb,hv⟩:=hcap 0 _ (lb[0]'(by omega)) rfl (by simp [hl1])
    refine⟨f,n,b,cs,vs,by simp [eK,hone],h,?_,hcs,hvs,hb⟩
    have:lb=#[.pointer (some ⟨b,0,none⟩)]:=by
     apply Array.ext
     ·simp [hl1]
     ·intro i h1 h2
      have:i=0:=by omega
      subst this
      simpa using hv
    rw [this]
   ·cases h
  ·cases h
 ·cases h
def Gc (o:Option (List (List Value)))(K:List (List Value)->Prop):Prop:=
 match o with
 | some xs=>K xs
 | none=>False
def wpA (P:Program)(E:Env):au->(Exit->St->Prop)->St->Prop
 | .skip,Q,σ=>Q .normal σ
 | .ret,Q,σ=>Q .ret σ
 | .exit id,Q,σ=>Q (.exit id) σ
 | .region ops prs td,Q,σ=>jS P E ops prs (fun σ'=>jL (ip td σ') (Q .normal)) σ
 | .seq a b,Q,σ=>wpA P E a (vz (wpA P E b Q) Q) σ
 | .cond c a b,Q,σ=>fc (wi (evO σ.tmps c)) (wpA P E a Q σ) (wpA P E b Q σ)
 | .block id b,Q,σ=>wpA P E b (uC id Q) σ
 | .loop td b,Q,σ=>∃ k,pL (wpA P E b) td Q k σ
 | .rangeF g ps td a b,Q,σ=>match zU E σ g with
  | some rows=>cQ true g (wpA P E a) (wpA P E b) ps td Q (uX rows.length) (eK σ (evO σ.tmps g))
  | none=>Gc (zW E σ.tab (evO σ.tmps g) σ.sv) fun xs=>cQ false g (wpA P E a) (wpA P E b) ps td Q xs (eK σ (evO σ.tmps g))
def TF (ops:Array Oper):List (List Nat):=
 (ops.toList.foldl (fun (acc:List (List Nat)) o=>
  (((o.after.toList.filter (Region.binds .any)).flatMap fun e=>e.on::((acc.reverse).getD e.on [])).eraseDups)::acc) []).reverse
def aiC (as:List bz)(bef:List (List Nat)):List (Nat × Nat):=
 (List.range as.length).flatMap fun j=>(List.range j).filterMap fun i=>
  if (im bef j).contains i then none else match as[i]?,as[j]? with
   | some x,some y=>if sf x y then none else some (i,j)
   | _,_=>none
def mT:Code->Nat
 | .region id _ _=>id
 | .seq a b=>match mT a with
  | 0=>mT b
  | k=>k
 | .cond _ a b=>match mT a with
  | 0=>mT b
  | k=>k
 | .block _ b | .loop b | .scope b=>mT b
 | _=>0
def aaP:List (Nat × cH)->List Nat
 | []=>[]
 | (k,_)::r=>if 1000000<=k then (k - 1000000)::aaP r else aaP r
def ade (tr:List (Nat × cH))(id:Nat)(x:au):au:=
 match aj tr (2000000+id) with
 | none=>x
 | some td=>.seq (.region [] [] (some td)) x
def mk (P:Program)(nt:Nat)(tr tl:List (Nat × cH))(top:Bool):Code->Option au
 | .skip=>some .skip
 | .ret=>some .ret
 | .exit id=>some (.exit id)
 | .region id ops d=>match dz P (aaP tr) nt ops ops.toList with
  | some as=>
   if p9 nt ops then
    if d then
     if OL ops (TF ops) && yc as (TF ops) (aiC as (TF ops)) then some (ade tr id (.region as (aiC as (TF ops)) (aj tr id))) else none
    else some (ade tr id (.region as [] (aj tr id)))
   else none
  | none=>none
 | .seq a b=>match mk P nt tr tl top a,mk P nt tr tl top b with
  | some x,some y=>some (.seq x y)
  | _,_=>none
 | .cond c a b=>match mk P nt tr tl top a,mk P nt tr tl top b with
  | some x,some y=>some (.cond c x y)
  | _,_=>none
 | .block id b=>(mk P nt tr tl top b).map (.block id)
 | .loop b=>(mk P nt tr tl top b).map (.loop (aj tl (mT b)))
 | .rangeFunc g ps a b=>if top && ps.toList.all (fun p=>decide (p < nt)) then match mk P nt tr tl false a,mk P nt tr tl false b with
   | some x,some y=>some (.rangeF g ps.toList (aj tl (mT b)) x y)
   | _,_=>none
  else none
 | _=>none
variable {P:Program}{E:Env}{w0:fi P}{w w':World}{N0:Nat->Prop}{g g':Gh}{T T':Tab}{r:Option Nat}{n nt:Nat}{svv:Array Value}{a:Act}{σ σ':St}{tr tl:List (Nat × cH)}
theorem gM {o:Option St}{K:St->Prop}(h:jL o K):∃ σ,o=some σ/\K σ:=by
 cases o with
 | none=>exact h.elim
 | some σ=>exact⟨σ,rfl,h⟩
theorem fk {o:Option Bool}{X Y:Prop}(h:fc o X Y):(o=some true/\X)\/(o=some false/\Y):=by
 cases o with
 | none=>exact h.elim
 | some b=>cases b with
  | true=>exact .inl ⟨rfl,h.1 rfl⟩
  | false=>exact .inr ⟨rfl,h.2 rfl⟩
theorem iO {o:Option (AV × List (Nat × aD))}{K:AV->List (Nat × aD)->Prop}(h:Be o K):∃ y es,o=some (y,es)/\K y es:=by
 cases o with
 | none=>exact h.elim
 | some p=>exact⟨p.1,p.2,rfl,h⟩
theorem oZ {K:St->Prop}:∀ (l:List bz) (σ:St),lZ P E l K σ->∃ σ',pY P E l σ=some σ'/\K σ'
 | [],σ,h=>⟨σ,rfl,h⟩
 | ao::l,σ,h=>by
  rcases fk h with ⟨h1,h2⟩ | ⟨h1,h2⟩
  ·obtain⟨y,es,h3,h4⟩:=iO h2
   obtain⟨σ',h5,h6⟩:=oZ l _ h4
   exact⟨σ',by simp only [pY,tP,lE,h1,h3,h5],h6⟩
  ·obtain⟨σ',h5,h6⟩:=oZ l _ h2
   exact⟨σ',by simp only [pY,tP,lE,h1,h5],h6⟩
theorem qF {K:List df->St->Prop}:∀ (l:List bz) (acc:List df) (σ:St),gr P E l K acc σ->∃ os σ',iu P E l σ=some (os,σ')/\K (acc.reverse++os) σ'
 | [],acc,σ,h=>⟨[],σ,rfl,by rw [List.append_nil];exact h⟩
 | ao::l,acc,σ,h=>by
  rcases fk h with ⟨h1,h2⟩ | ⟨h1,h2⟩
  ·obtain⟨y,es,h3,h4⟩:=iO h2
   obtain⟨os,σ',h5,h6⟩:=qF l _ _ h4
   exact⟨⟨ao.dst,y,es,lkA σ ao es⟩::os,σ',by simp only [iu,lE,h1,h3,h5],by simpa using h6⟩
  ·obtain⟨os,σ',h5,h6⟩:=qF l _ _ h2
   exact⟨⟨ao.dst,.val false [.und],[],lkA σ ao []⟩::os,σ',by simp only [iu,lE,h1,h5],by simpa using h6⟩
def ahi (w0:fi P)(N0:Nat->Prop)(nt:Nat)(svv:Array Value)(Q:Exit->St->Prop)(Q':Exit->Act->World->Prop):Prop:=
 ∀ e σ a w,Q e σ->Rel w0 N0 nt svv σ a w->Q' e a w
def vD (P:Program)(E:Env)(nt:Nat)(c:Code)(ac:au)(r:Option Nat)(top:Bool):Prop:=
 ∀ (n:Nat) (w0:fi P) (N0:Nat->Prop) (svv:Array Value) (Q:Exit->St->Prop) (Q':Exit->Act->World->Prop) (σ:St) (a:Act) (w:World),
  (top=true->svv.size=0)->ahi w0 N0 nt svv Q Q'->Rel w0 N0 nt svv σ a w->wpA P E ac Q σ->c.wpIn (Fw r) n P Q' a w
theorem adD {N:Nat->Prop}{v:Value}(h:uo v=true):aJ w N g T (ofX v) v:=by
 unfold ofX
 split
 ·cases h
 ·exact kL _
theorem ai1 {N:Nat->Prop}{B:Nat}{y v:Value}(h:FrX B w y v)(hN:∀ b,N b->b < B):aJ w N g T (ofX y) v:=by
 unfold FrX at h
 unfold ofX
 split
 ·exact⟨_,rfl,aH.less hN h⟩
 ·rename_i hne
  split at h
  ·exact absurd rfl (hne _)
  ·obtain⟨_,rfl⟩:=h
   exact kL _
theorem zZ {N:Nat->Prop}{sz:Nat}:∀ (ps:List Nat) (y x:List Value) (l:List (Nat × AV)) (vals:Array Value),vals.size=sz->(∀ p ∈ ps,p < sz)->x.length=y.length->(∀ (j:Nat) (a b:Value),y[j]?=some a->x[j]?=some b->aJ w N g T (ofX a) b)->di w N g T l vals ->
  ((ps.zip x).foldl (fun t (q:Nat × Value)=>t.setIfInBounds q.1 q.2) vals).size=sz/\di w N g T (vN ps y l) ((ps.zip x).foldl (fun t (q:Nat × Value)=>t.setIfInBounds q.1 q.2) vals)
 | [],y,x,l,vals,hsz,_,_,_,h=>by cases x <;> cases y <;> exact⟨hsz,h⟩
 | p::ps,[],[],l,vals,hsz,_,_,_,h=>⟨hsz,h⟩
 | p::ps,[],_::_,l,vals,hsz,_,hl,_,h=>by cases hl
 | p::ps,_::_,[],l,vals,hsz,_,hl,_,h=>by cases hl
 | p::ps,u::y,v::x,l,vals,hsz,hp,hl,hx,h=>by
  simp only [List.zip_cons_cons,List.foldl_cons,vN]
  exact zZ ps y x _ _ (by simpa using hsz) (fun q hq=>hp q (List.mem_cons_of_mem _ hq)) (by simpa using hl) (fun j a b h1 h2=>hx (j+1) a b (by simpa using h1) (by simpa using h2))
   (h.put (by rw [hsz];exact hp p (by simp)) (hx 0 u v rfl rfl))
theorem CD {N:Nat->Prop}{sz:Nat}:∀ (ps:List Nat) (x:List Value) (l:List (Nat × AV)) (vals:Array Value),vals.size=sz->(∀ p ∈ ps,p < sz)->(∀ v ∈ x,uo v=true)->di w N g T l vals ->
  ((ps.zip x).foldl (fun t (q:Nat × Value)=>t.setIfInBounds q.1 q.2) vals).size=sz/\di w N g T (vN ps x l) ((ps.zip x).foldl (fun t (q:Nat × Value)=>t.setIfInBounds q.1 q.2) vals)
 | [],x,l,vals,hsz,_,_,h=>by cases x <;> exact⟨hsz,h⟩
 | p::ps,[],l,vals,hsz,_,_,h=>⟨hsz,h⟩
 | p::ps,v::x,l,vals,hsz,hp,hx,h=>by
  simp only [List.zip_cons_cons,List.foldl_cons,vN]
  exact CD ps x _ _ (by simpa using hsz) (fun q hq=>hp q (List.mem_cons_of_mem _ hq)) (fun u hu=>hx u (List.mem_cons_of_mem _ hu))
   (h.put (by rw [hsz];exact hp p (by simp)) (adD (hx v (List.mem_cons_self ..))))
theorem om {N:Nat->Prop}{l:List (Nat × AV)}{vals:Array Value}:di w N g T l (vals.push undef) ↔ di w N g T l vals:=by
 have e:∀ t,(vals.push undef).getD t undef=vals.getD t undef:=fun t=>by
  simp only [Array.getD_eq_getD_getElem?,Array.getElem?_push]
  split
  ·rename_i h;simp [h]
  ·rfl
 unfold di
 simp only [e]
theorem aeV {r:Ren}(h:UN σ r=some σ')(hs:σ.sv=[]):σ'.sv=[]:=by
 unfold UN at h
 split at h
 ·simp only [Option.some.injEq] at h;subst h;exact hs
 unfold Zg at h
 split at h
 ·split at h
  ·simp only [Option.some.injEq] at h;subst h;exact hs
  ·unfold nameNil at h
   split at h
   ·split at h
    ·split at h
     ·simp only [Option.some.injEq] at h;subst h;exact hs
     ·cases h
    ·split at h
     ·simp only [Option.some.injEq] at h;subst h;exact hs
     ·cases h
   ·cases h
 ·split at h
  ·simp only [Option.some.injEq] at h;subst h;exact hs
  ·simp only [Option.some.injEq] at h;subst h;simp [CR,hs,CE]
 ·simp only [Option.some.injEq] at h;subst h;exact hs
theorem Iy:∀ (l:List Ren) {σ:St},vJ l σ=some σ'->σ.sv=[]->σ'.sv=[]
 | [],σ,h,hs=>by simp only [vJ,Option.some.injEq] at h;subst h;exact hs
 | r::l,σ,h,hs=>by
  simp only [vJ] at h
  split at h
  ·rename_i σ1 h1;exact Iy l h (aeV h1 hs)
  ·cases h
theorem Tp {b:Bool}(h:gcO b σ=some σ')(hs:σ.sv=[]):σ'.sv=[]:=by
 unfold gcO at h
 split at h
 ·simp only [gcA] at h
  split at h
  ·simp only [Option.some.injEq] at h;subst h;exact hs
  ·cases h
 ·simp only [Option.some.injEq] at h;subst h;exact hs
theorem Pj:∀ (l:List Nat) {σ:St},σ.sv=[]->(agi l σ).sv=[]
 | [],_,hs=>hs
 | t::l,σ,hs=>Pj l (by
   unfold fzA
   repeat' split
   all_goals exact hs)
theorem OO {td:Option cH}(h:ip td σ=some σ')(hs:σ.sv=[]):σ'.sv=[]:=by
 cases td with
 | none=>simp only [ip,Option.some.injEq] at h;subst h;exact hs
 | some t=>
  simp only [ip,WC] at h
  split at h
  ·rename_i σ1 h1
   split at h
   ·rename_i σ2 h2
    exact Tp h (Iy _ h2 (Tp h1 (Pj _ hs)))
   ·cases h
  ·cases h
structure Bx (ob:Option Nat)(w w':World):Prop where
 os:w'.os=w.os
 tape:w'.tape=w.tape
 output:w'.output=w.output
 size:w'.heap.size=w.heap.size
 block:∀ k,ob ≠ some k->w'.heap[k]?=w.heap[k]?
theorem Bx.refl {ob:Option Nat}{w:World}:Bx ob w w:=⟨rfl,rfl,rfl,rfl,fun _ _=>rfl⟩
theorem Bx.trans {ob:Option Nat}{a b c:World}(h:Bx ob a b)(k:Bx ob b c):Bx ob a c:=
 ⟨k.os.trans h.os,k.tape.trans h.tape,k.output.trans h.output,k.size.trans h.size,fun i hi=>(k.block i hi).trans (h.block i hi)⟩
theorem Mem.vary {V:World}{O:Nat->Prop}{hl:dZ P V}{hg:∀ b,gbP P b->¬ O b}{N:Nat->Prop}{ob:Option Nat}(h:Mem ⟨V,O,hl,hg⟩ N g T w)(hb:aW ob w w')(hob:∀ b,ob=some b->N b) :
  ∃ (V':World) (hl':dZ P V'),Bx ob V V'/\Mem ⟨V',O,hl',hg⟩ N g T w'/\aT N g T w g T w':=by
 cases ob with
 | none=>
  obtain⟨h1,h2⟩:=h.grow hb.below
  exact⟨V,hl,.refl,h1,h2⟩
 | some b=>
  obtain⟨n1,n2,n3⟩:=h.n0 b (hob b rfl)
  have hbV:b < V.heap.size:=n1
  have hlt:b < w'.heap.size:=Nat.lt_of_lt_of_le hbV (Nat.le_trans h.below.size hb.size)
  have ho:w'.heap[b]?=some (w'.heap[b]'hlt):=Array.getElem?_eq_getElem hlt
  generalize w'.heap[b]'hlt=o at ho
  have hne:∀ k,k ≠ b->(some b:Option Nat) ≠ some k:=fun k hk e=>hk (Option.some.inj e).symm
  have hK:aT N g T w g T w':=aT.of hb.size (fun k hk hna=>hb.block k hk fun e=>hna (by
   have:b=k:=Option.some.inj e
   subst this
   exact .inl (hob _ rfl))) (fun _ _ h=>h) (fun _ h=>h) fun _ _=>⟨rfl,rfl,rfl⟩
  have hl':dZ P (V.putObj b o):=hl.keep fun k hk=>World.putObj_heap_other fun e=>n3 (e ▸ hk)
  have hown:∀ m k,live T m->g.blk m=some k->k ≠ b:=fun m k h1 h2 e=>by
   subst e
   exact (h.rng m k h1 h2).1.elim (fun hh=>by simp only at hh;omega) n2
  refine⟨V.putObj b o,hl',⟨rfl,rfl,rfl,World.putObj_size,fun k hk=>World.putObj_heap_other fun e=>hk (by rw [e])⟩,⟨⟨hb.os.trans h.below.os,hb.tape.trans h.below.tape,hb.output.trans h.below.output,by
    rw [World.putObj_size];exact Nat.le_trans h.below.size hb.size,fun k hk hko=>?_⟩,fun m e he=>(h.ents m e he).mono hK he fun k h1 h2=>hb.block k (h.rng m k h1 h2).2 (hne k (hown m k h1 h2)),h.inj,
    fun m k h1 h2=>⟨by simp only [World.putObj_size];exact (h.rng m k h1 h2).1,Nat.lt_of_lt_of_le (h.rng m k h1 h2).2 hb.size⟩,fun k hk=>by simp only [World.putObj_size];exact h.n0 k hk⟩,hK⟩
  simp only [World.putObj_size] at hk
  by_cases e:k=b
  ·subst e
   rw [ho,World.putObj_heap_same hbV]
  ·rw [World.putObj_heap_other e,hb.block k (Nat.lt_of_lt_of_le hk h.below.size) (hne k e)]
   exact h.below.block k hk hko
theorem Mem.kill (hM:Mem w0 N0 g T w){n b:Nat}{cs:List C}(hn:aj T n=some (.box cs))(hb:g.blk n=some b){O:Nat->Prop}{hl:dZ P w}{hg:∀ b,gbP P b->¬ O b}(hO:∀ b,O b ↔ ib g (aput T n .dead) b) :
  Mem ⟨w,O,hl,hg⟩ (fun k=>N0 k\/some b=some k) g (aput T n .dead) w/\(∀ x v,aJ w (am N0 g T) g T x v->aJ w (am (fun k=>N0 k\/some b=some k) g (aput T n .dead)) g (aput T n .dead) x v):=by
 have hln:live T n:=by unfold live;rw [hn];trivial
 have hlv:∀ m,live (aput T n .dead) m->m ≠ n/\live T m:=fun m h=>by
  rw [dw] at h
  by_cases e:m=n
  ·simp [e] at h
  ·simp only [e,if_false] at h;exact⟨e,h⟩
 have hsub:∀ k,am (fun k=>N0 k\/some b=some k) g (aput T n .dead) k->am N0 g T k:=fun k h=>by
  rcases h with (h | h) | ⟨m,h1,h2⟩
  ·exact .inl h
  ·exact .inr ⟨n,hln,by rw [hb,h]⟩
  ·exact .inr ⟨m,(hlv m h1).2,h2⟩
 have hd:∀ d v,aH w (am N0 g T) d v->aH w (am (fun k=>N0 k\/some b=some k) g (aput T n .dead)) d v:=fun d v h=>h.less hsub
 have hK:aT N0 g T w g (aput T n .dead) w:=aT.of (Nat.le_refl _) (fun _ _ _=>rfl) (fun k _ h=>by
   rcases h with h | ⟨m,h1,h2⟩
   ·exact .inl h
   ·exact .inr ⟨m,(hlv m h1).2,h2⟩) (fun m hm=>ep hm) fun _ _=>⟨rfl,rfl,rfl⟩
 have hc:∀ c v,cu w (am N0 g T) g T c v->cu w (am (fun k=>N0 k\/some b=some k) g (aput T n .dead)) g (aput T n .dead) c v:=fun c v h=>h.mono hd (fun m hm=>ep hm) fun _ _=>⟨rfl,rfl,rfl⟩
 refine⟨⟨.refl,fun m e he=>?_,fun m k c h1 h2=>hM.inj m k c (hlv m h1).2 (hlv k h2).2,fun m c h1 h2=>⟨.inr ((hO c).2 ⟨m,h1,h2⟩),(hM.rng m c (hlv m h1).2 h2).2⟩,fun k hk=>?_⟩,fun x v h=>h.mono hc⟩
 ·rw [cC] at he
  by_cases e1:m=n
  ·simp only [e1,if_true,Option.some.injEq] at he
   subst he
   trivial
  ·simp only [e1,if_false] at he
   have h0:=hM.ents m e he
   cases e with
   | box ds=>
    obtain⟨k,cells,t,k1,k2,k3,k4,k5⟩:=h0
    exact⟨k,cells,t,k1,k2,k3,fun i c x hci hx=>hc _ _ (k4 i c x hci hx),k5⟩
   | own sz rows=>
    obtain⟨k1,k2⟩:=h0
    refine⟨?_,k2⟩
    rcases k1 with k1 | ⟨k,off,cap,cells,t,fz,q1,q2,q3,q4,q5,q6,q7,q8,q9,q10⟩
    ·exact .inl k1
    ·exact .inr ⟨k,off,cap,cells,t,fz,q1,q2,q3,q4,q5,q6,q7,q8,q9,fun i j r d hr hdd=>by
      obtain⟨c,c1,c2⟩:=q10 i j r d hr hdd
      exact⟨c,c1,hd _ _ c2⟩⟩
   | imm rows=>exact⟨hd _ _ h0.1,h0.2⟩
   | dead=>trivial
 ·have hno:∀ c,O c->∃ m,m ≠ n/\live T m/\g.blk m=some c:=fun c h=>by
   obtain⟨m,h1,h2⟩:=(hO c).1 h
   exact⟨m,(hlv m h1).1,(hlv m h1).2,h2⟩
  rcases hk with hk | hk
  ·obtain⟨h1,h2,h3⟩:=hM.n0 k hk
   refine⟨Nat.lt_of_lt_of_le h1 hM.below.size,fun h=>?_,h3⟩
   obtain⟨m,_,h5,h6⟩:=hno k h
   exact (hM.rng m k h5 h6).1.elim (fun hh=>by omega) h2
  ·have:b=k:=Option.some.inj hk
   subst this
   refine⟨(hM.rng n b hln hb).2,fun h=>?_,hM.gblk hln hb⟩
   obtain⟨m,h4,h5,h6⟩:=hno b h
   exact h4 (hM.inj m n b h5 hln h6 hb)
theorem Mem.unbaseX {V:World}{O NX:Nat->Prop}{hl:dZ P V}{hg:∀ b,gbP P b->¬ O b}(hov:pC w0 w0.w V)(hO:∀ b,O b->w0.w.heap.size<=b\/w0.own b)(hn0:∀ b,N0 b->b < w0.w.heap.size/\¬ w0.own b/\¬ gbP P b)
  (hsub:∀ b,N0 b->NX b) (h:Mem ⟨V,O,hl,hg⟩ NX g T w):Mem w0 N0 g T w/\∀ x v,aJ w (am NX g T) g T x v->aJ w (am N0 g T) g T x v:=by
 have hs:∀ k,am N0 g T k->am NX g T k:=fun k hk=>hk.elim (fun h=>.inl (hsub k h)) .inr
 have hd:∀ d v,aH w (am NX g T) d v->aH w (am N0 g T) d v:=fun d v h=>h.less hs
 have hc:∀ c v,cu w (am NX g T) g T c v->cu w (am N0 g T) g T c v:=fun c v h=>h.mono hd (fun _ h=>h) fun _ _=>⟨rfl,rfl,rfl⟩
 refine⟨⟨hov.trans ⟨h.below.os,h.below.tape,h.below.output,h.below.size,fun k hk ho=>h.below.block k (Nat.lt_of_lt_of_le hk hov.size) fun hk'=>(hO k hk').elim (fun h=>by omega) ho⟩,fun m e he=>?_,h.inj,fun n b h1 h2=>⟨(h.rng n b h1 h2).1.elim (fun hh=>.inl (Nat.le_trans hov.size hh)) (hO b),(h.rng n b h1 h2).2⟩,hn0⟩,fun x v h=>h.mono hc⟩
 have h0:=h.ents m e he
 cases e with
 | box ds=>
  obtain⟨k,cells,t,k1,k2,k3,k4,k5⟩:=h0
  exact⟨k,cells,t,k1,k2,k3,fun i c x hci hx=>hc _ _ (k4 i c x hci hx),k5⟩
 | own sz rows=>
  obtain⟨k1,k2⟩:=h0
  refine⟨?_,k2⟩
  rcases k1 with k1 | ⟨k,off,cap,cells,t,fz,q1,q2,q3,q4,q5,q6,q7,q8,q9,q10⟩
  ·exact .inl k1
  ·exact .inr ⟨k,off,cap,cells,t,fz,q1,q2,q3,q4,q5,q6,q7,q8,q9,fun i j r d hr hdd=>by
    obtain⟨c,c1,c2⟩:=q10 i j r d hr hdd
    exact⟨c,c1,hd _ _ c2⟩⟩
 | imm rows=>exact⟨hd _ _ h0.1,h0.2⟩
 | dead=>trivial
theorem wv {g:Operand}{n:Nat}{rows:List (List DC)}(h:ql σ g=some (n,rows)):∃ t,g=.tmp t/\cE (evO σ.tmps (.tmp (t - 1)))=some (.ref n)/\aj σ.tab n=some (.own 2 rows):=by
 unfold ql at h
 split at h
 ·rename_i t
  split at h
  ·rename_i n' hone
   split at h
   ·rename_i rows' hown
    simp only [Option.some.injEq,Prod.mk.injEq] at h
    obtain⟨rfl,rfl⟩:=h
    exact⟨t,rfl,hone,hown⟩
   ·cases h
  ·cases h
 ·cases h
theorem Ka {g:Operand}{rows:List (List DC)}(h:zU E σ g=some rows):∃ f n m k,σ.sv=[]/\ql σ g=some (n,rows)/\cE (evO σ.tmps g)=some (.fn f [.ptr m])/\aj σ.tab m=some (.box [.ref n])/\E.ptrs f=some [k,2]/\2000000<=k:=by
 unfold zU at h
 split at h
 ·rename_i n rows' f m hr hone hsv
  split at h
  ·rename_i n' k hb hp
   split at h
   ·rename_i hk
    simp only [Option.some.injEq] at h
    subst h
    obtain⟨rfl,hk⟩:=hk
    exact⟨f,_,m,k,hsv,hr,hone,hb,hp,hk⟩
   ·cases h
  ·cases h
 ·cases h
theorem aH.more {N N':Nat->Prop}(hn:∀ b,N' b->N b\/w.heap.size<=b){d:DC}{v:Value}(h:aH w N d v):aH w N' d v:=by
 have hb:∀ b,b < w.heap.size->¬ N b->¬ N' b:=fun b h1 h2 h3=>(hn b h3).elim h2 fun h=>by omega
 induction h with
 | v h=>exact .v h
 | nan h=>exact .nan h
 | cx h1 h2=>exact .cx h1 h2
 | pt=>exact .pt
 | nil=>exact .nil
 | csl _ ih=>exact .csl ih
 | @sl rows b off cap sz f hne hN hlt hsz hl hcap hc hd ih=>exact .sl f hne (hb b hlt hN) hlt hsz hl hcap hc ih
 | fn hl hd ih=>exact .fn hl ih
 | cref f hN hlt hc hd ih=>exact .cref f (hb _ hlt hN) hlt hc ih
 | ifc xs hx hl hd ih=>exact .ifc xs hx hl ih
theorem Mem.fresh {V:World}{O:Nat->Prop}{hl:dZ P V}{hg:∀ b,gbP P b->¬ O b}{N:Nat->Prop}(h:Mem ⟨V,O,hl,hg⟩ N g T w){fr:Nat}(hfr:w.heap.size<=fr)(hOw:∀ m b,live T m->g.blk m=some b->O b)(hOlt:∀ b,O b->b < fr)
  (hNO:∀ b,N b->¬ O b) {w':World} (hb:Below w.heap.size w w') (hlt:fr < w'.heap.size) (hl':dZ P w') :
  Mem ⟨w',O,hl',hg⟩ (fun k=>N k\/k=fr) g T w'/\∀ x v,aJ w (am N g T) g T x v->aJ w' (am (fun k=>N k\/k=fr) g T) g T x v:=by
 obtain⟨hM',hK⟩:=h.grow hb
 have hsub:∀ k,am (fun k=>N k\/k=fr) g T k->am N g T k\/w.heap.size<=k:=fun k hk=>by
  rcases hk with (hk | hk) | hk
  ·exact .inl (.inl hk)
  ·exact .inr (by omega)
  ·exact .inl (.inr hk)
 have hd0:∀ d v,aH w (am N g T) d v->aH w (am (fun k=>N k\/k=fr) g T) d v:=fun d v h=>h.more hsub
 have hd1:∀ d v,aH w (am N g T) d v->aH w' (am (fun k=>N k\/k=fr) g T) d v:=fun d v h=>(hd0 d v h).mono hb.size (fun b hb' _=>hb.block b hb') fun b _ h=>h
 have hc:∀ c v,cu w (am N g T) g T c v->cu w' (am (fun k=>N k\/k=fr) g T) g T c v:=fun c v h=>h.mono hd1 (fun _ h=>h) fun _ _=>⟨rfl,rfl,rfl⟩
 refine⟨⟨.refl,fun m e he=>?_,h.inj,fun m b h1 h2=>⟨.inr (hOw m b h1 h2),(hM'.rng m b h1 h2).2⟩,fun b hb'=>?_⟩,fun x v h=>h.mono hc⟩
 ·have h0:=h.ents m e he
  have hbl:∀ k,k < w.heap.size->w'.heap[k]?=w.heap[k]?:=fun k hk=>hb.block k hk
  cases e with
  | box ds=>
   obtain⟨k,cells,t,k1,k2,k3,k4,k5⟩:=h0
   exact⟨k,cells,t,k1,by rw [hbl k (Array.getElem?_eq_some_iff.1 k2).1];exact k2,k3,fun i c x hci hx=>hc _ _ (k4 i c x hci hx),k5⟩
  | own sz rows=>
   obtain⟨k1,k2⟩:=h0
   refine⟨?_,k2⟩
   rcases k1 with k1 | ⟨k,off,cap,cells,t,fz,q1,q2,q3,q4,q5,q6,q7,q8,q9,q10⟩
   ·exact .inl k1
   ·exact .inr ⟨k,off,cap,cells,t,fz,q1,q2,by rw [hbl k (Array.getElem?_eq_some_iff.1 q3).1];exact q3,q4,q5,q6,q7,q8,q9,fun i j r d hr hdd=>by
     obtain⟨c,c1,c2⟩:=q10 i j r d hr hdd
     exact⟨c,c1,hd1 _ _ c2⟩⟩
  | imm rows=>exact⟨hd1 _ _ h0.1,h0.2⟩
  | dead=>trivial
 ·rcases hb' with hb' | rfl
  ·obtain⟨h1,_,h3⟩:=hM'.n0 b hb'
   exact⟨Nat.lt_of_lt_of_le h1 hM'.below.size,hNO b hb',h3⟩
  ·exact⟨hlt,fun h=>by have:=hOlt _ h;omega,fun hgb=>by have:=hl.lt hgb;have:=h.below.size;simp only at this;omega⟩
theorem Zx {g:Operand}{ps:Array Tmp}{ca cb:Code}{aa ab:au}{td:Option cH}(hps:∀ p ∈ ps.toList,p < nt)(ha:∀ l,vD P E nt ca aa (some l) false)(hb:∀ l,vD P E nt cb ab (some l) false)
  {n:Nat} {w0:fi P} {N0:Nat->Prop} {svv:Array Value} {Q:Exit->St->Prop} {Q':Exit->Act->World->Prop} {σ:St} {a:Act} {w:World} (hsvv:svv.size=0) (hQ:ahi w0 N0 nt svv Q Q') {g0:Gh}
  (hM0:Mem w0 N0 g0 σ.tab w) (hS0:di w (am N0 g0 σ.tab) g0 σ.tab σ.tmps a.tmps) (hsz:a.tmps.size=nt) (hmk:pQ w0 svv a.defers w) (hsv:σ.sv=[]) {f:Nat} {lb:Array Value} {caps:List DC} {xs:List (List Value)}
  (hgv:a.eval g=.func (.func f) #[] lb) (hbod:de P f) (hit:sG P f caps xs) (hlen:caps.length=lb.size) (hlb:∀ (i:Nat) (d:DC) (v:Value),caps[i]?=some d->lb[i]?=some v->aH w (am N0 g0 σ.tab) d v)
  (hw:cQ false g (wpA P E aa) (wpA P E ab) ps.toList td Q xs σ):(Code.rangeFunc g ps ca cb).wpIn (Fw none) n P Q' a w:=by
 obtain⟨fn0,hf0,hbody0,hname0⟩:=hbod
 refine wpIn_rangeFunc ?_
 intro fn hfn
 obtain⟨rec,hrec⟩:∃ rec:LoopState->Option Code->Loop,rec=fun st pe=>{ state:=st,pending:=pe,fn,tmps:=a.tmps,params:=ps,assign:=ca,body:=cb,defers:=w.heap.size }:=⟨_,rfl⟩
 obtain⟨W1,hW1⟩:∃ W1,(w.alloc (.deferred (some []))).alloc (.loop (rec .ready none))=W1:=⟨_,rfl⟩
 have hL1:W1.heap[w.heap.size+1]?=some (.loop (rec .ready none)):=by
  rw [<- hW1];have:=World.alloc_heap_new (w.alloc (.deferred (some []))) (.loop (rec .ready none));rwa [World.size_alloc] at this
 have hD1:W1.heap[w.heap.size]?=some (.deferred (some [])):=by
  rw [<- hW1];exact (Below.heap_alloc _ _ _ (by simp)).trans (World.alloc_heap_new w _)
 have hgrow:Below w.heap.size w W1:=by
  rw [<- hW1];exact (((Below.refl _ w).alloc (Nat.le_refl _) _).alloc (by simp) _)
 have hszW:W1.heap.size=w.heap.size+2:=by rw [<- hW1];simp
 obtain⟨hM1,hK1⟩:=hM0.grow hgrow
 have hS1:di W1 (am N0 g0 σ.tab) g0 σ.tab σ.tmps a.tmps:=fun t x hx=>hK1.a (hS0 t x hx)
 let O:Nat->Prop:=fun b=>ib g0 σ.tab b\/b=w.heap.size+1\/b=w.heap.size
 have hlW:dZ P W1:=hM1.laid
 have hgO:∀ b,gbP P b->¬ O b:=fun b hb h=>by
  have hlt:=hM0.laid.lt hb
  rcases h with ⟨m,h1,h2⟩ | h | h
  ·exact hM0.gblk h1 h2 hb
  ·omega
  ·omega
 have hownlt:∀ b,ib g0 σ.tab b->b < w.heap.size:=fun b ⟨m,h1,h2⟩=>(hM0.rng m b h1 h2).2
 have hN0o:∀ b,N0 b->b < w.heap.size/\¬ ib g0 σ.tab b:=fun b hb=>by
  obtain⟨h1,h2,h3⟩:=hM0.n0 b hb
  refine⟨Nat.lt_of_lt_of_le h1 hM0.below.size,fun ⟨m,h4,h5⟩=>?_⟩
  exact (hM0.rng m b h4 h5).1.elim (fun h=>by omega) h2
 have hMB:Mem ⟨W1,O,hlW,hgO⟩ N0 g0 σ.tab W1:=⟨.refl,hM1.ents,hM1.inj,fun m b h1 h2=>⟨.inr (.inl ⟨m,h1,h2⟩),(hM1.rng m b h1 h2).2⟩,fun b hb=>by
  obtain⟨h1,h2⟩:=hN0o b hb
  exact⟨by simp only;rw [hszW];omega,fun h=>h.elim h2 fun h=>by omega,(hM0.n0 b hb).2.2⟩⟩
 have hO:∀ b,O b->w0.w.heap.size<=b\/w0.own b:=fun b hb=>by
  have:=hM0.below.size
  rcases hb with ⟨m,h1,h2⟩ | h | h
  ·exact (hM0.rng m b h1 h2).1
  ·exact .inl (by omega)
  ·exact .inl (by omega)
 have hOlt:∀ b,O b->b < W1.heap.size:=fun b hb=>by
  rcases hb with h | h | h
  ·have:=hownlt b h;omega
  ·omega
  ·omega
 obtain⟨fr,hfr⟩:∃ fr,fr=W1.heap.size:=⟨_,rfl⟩
 obtain⟨NF,hNFd⟩:∃ X:Nat->Prop,X=(fun k=>N0 k\/k=fr):=⟨_,rfl⟩
 have hNFfr:NF fr:=by rw [hNFd];exact .inr rfl
 have hNF0:∀ b,N0 b->NF b:=fun b h=>by rw [hNFd];exact .inl h
 have hov:∀ V,Below W1.heap.size W1 V->pC w0 w0.w V:=fun V hV=>hM0.below.trans ⟨hV.os.trans hgrow.os,hV.tape.trans hgrow.tape,hV.output.trans hgrow.output,Nat.le_trans hgrow.size hV.size,fun k hk ho=>by
  have:=hM0.below.size
  rw [hV.block k (by omega)]
  exact hgrow.block k (by omega)⟩
 have hmk1:∀ (V W:World) (_:Below W1.heap.size W1 V) (hlV:dZ P V) (N:Nat->Prop) (g':Gh) (T':Tab),Mem ⟨V,O,hlV,hgO⟩ N g' T' W->pQ w0 svv a.defers W:=fun V W hV hlV N g' T' hM=>by
  refine⟨hmk.1,hmk.2.1,fun d hd=>?_⟩
  obtain⟨D,h1,h2,h3⟩:=hmk.2.2 d hd
  have hlt:=(Array.getElem?_eq_some_iff.1 h3).1
  refine⟨D,h1,h2,?_⟩
  have:=hV.size
  rw [hM.below.block D (by simp only;omega) fun h=>?_]
  ·show V.heap[D]?=_
   rw [hV.block D (by omega),hgrow.block D hlt]
   exact h3
  ·rcases h with h | h | h
   ·exact hM0.not_owned h3 rfl h
   ·omega
   ·omega
 -- the state between two rounds
 let Mid:St->World->Prop:=fun τ W=>∃ (V:World) (hlV:dZ P V) (g':Gh),Below W1.heap.size W1 V/\fr < V.heap.size/\Mem ⟨V,O,hlV,hgO⟩ NF g' τ.tab W/\di W (am NF g' τ.tab) g' τ.tab τ.tmps a.tmps/\τ.sv=[]/\W.heap[w.heap.size]?=some (.deferred (some []))
 let Any2:St->World->Prop:=fun τ W=>(W.heap.size<=fr/\τ=σ/\Below W1.heap.size W1 W)\/(fr < W.heap.size/\Mid τ W)
 let K:Nat->St->Prop:=fun i=>cQ false g (wpA P E aa) (wpA P E ab) ps.toList td Q (xs.drop i)
 let J:Nat->World->Prop:=fun i W=>∃ τ,K i τ/\Any2 τ W/\W.heap[w.heap.size+1]?=some (.loop (rec .ready none))
 let Jx:World->Prop:=fun W=>∃ τ c,((c=Code.ret/\Q .ret τ)\/∃ id,c=Code.exit id/\Q (.exit id) τ)/\(fr < W.heap.size/\Mid τ W)/\W.heap[w.heap.size+1]?=some (.loop (rec .done (some c)))
 have hfr1:(some fr:Option Nat) ≠ some w.heap.size:=fun e=>by have:=Option.some.inj e;omega
 have hfr2:(some fr:Option Nat) ≠ some (w.heap.size+1):=fun e=>by have:=Option.some.inj e;omega
 have hMidGrow:∀ τ W W',Mid τ W->aW (some fr) W W'->Mid τ W':=fun τ W W' h hb=>by
  obtain⟨V,hlV,g',hv,hfv,h1,h2,h3,h4⟩:=h
  obtain⟨V',hlV',hv',h5,h6⟩:=h1.vary hb fun b e=>by rw [<- Option.some.inj e];exact hNFfr
  refine⟨V',hlV',g',⟨hv'.os.trans hv.os,hv'.tape.trans hv.tape,hv'.output.trans hv.output,by rw [hv'.size];exact hv.size,fun k hk=>?_⟩,by rw [hv'.size];exact hfv,h5,fun t x hx=>h6.a (h2 t x hx),h3,by rw [hb.block _ (Array.getElem?_eq_some_iff.1 h4).1 hfr1];exact h4⟩
  rw [hv'.block k fun e=>by have:=Option.some.inj e;omega]
  exact hv.block k hk
 have hAnyGrow:∀ τ W W',Any2 τ W->aW (some fr) W W'->Any2 τ W':=fun τ W W' h hb=>by
  rcases h with ⟨h1,h2,h3⟩ | ⟨h1,h2⟩
  ·have hbel:Below W.heap.size W W':=⟨hb.os,hb.tape,hb.output,hb.size,fun k hk=>hb.block k hk fun e=>by have:=Option.some.inj e;omega⟩
   have hbel1:Below W1.heap.size W1 W':=⟨hb.os.trans h3.os,hb.tape.trans h3.tape,hb.output.trans h3.output,Nat.le_trans h3.size hb.size,fun k hk=>by rw [hbel.block k (Nat.lt_of_lt_of_le hk h3.size)];exact h3.block k hk⟩
   by_cases c:W'.heap.size<=fr
   ·exact .inl ⟨c,h2,hbel1⟩
   ·subst h2
    have c':fr < W'.heap.size:=by omega
    obtain⟨hMW,hKW⟩:=hMB.grow h3
    have hl':dZ P W':=hlW.keep fun b hgb=>hbel1.block b (hlW.lt hgb)
    obtain⟨m1,m2⟩:=hMW.fresh (fr:=fr) h1 (fun m b q1 q2=>.inl ⟨m,q1,q2⟩) (fun b hb=>by have:=hOlt b hb;omega) (fun b hb h=>by
     obtain⟨q1,q2⟩:=hN0o b hb
     exact h.elim q2 fun h=>by omega) hbel c' hl'
    rw [<- hNFd] at m1 m2
    refine .inr ⟨c',W',hl',g0,hbel1,c',m1,fun t x hx=>m2 _ _ (hKW.a (hS1 t x hx)),hsv,?_⟩
    rw [hbel1.block _ (by omega)]
    exact hD1
  ·exact .inr ⟨Nat.lt_of_lt_of_le h1 hb.size,hMidGrow τ W W' h2 hb⟩
 have hMidPut:∀ τ W o o',Mid τ W->W.heap[w.heap.size+1]?=some o->o.isCells=false->Mid τ (W.putObj (w.heap.size+1) o'):=fun τ W o o' h hl ho=>by
  obtain⟨V,hlV,g',hv,hfv,h1,h2,h3,h4⟩:=h
  obtain⟨h5,h6⟩:=h1.putObj (o':=o') hl ho (.inr (.inr (.inl rfl)))
  exact⟨V,hlV,g',hv,hfv,h5,fun t x hx=>h6.a (h2 t x hx),h3,by rw [World.putObj_heap_other (by omega)];exact h4⟩
 -- a stretch of code within a round
 have stretch:∀ (V:World) (hlV:dZ P V) (c:Code) (ac:au),vD P E nt c ac (some (w.heap.size+1)) false->∀ (Q1:Exit->St->Prop) (Q2:Exit->Act->World->Prop) (τ:St) (tmps:Array Value) (W:World) (o:Obj),wpA P E ac Q1 τ ->
   W.heap[w.heap.size+1]?=some o->o.isCells=false->(∃ g',Mem ⟨V,O,hlV,hgO⟩ NF g' τ.tab W/\di W (am NF g' τ.tab) g' τ.tab τ.tmps tmps/\tmps.size=nt/\di W (am NF g' τ.tab) g' τ.tab τ.sv a.tmps/\W.heap[w.heap.size]?=some (.deferred (some []))) ->
   (∀ e τ' a' W',Q1 e τ'->(∃ g',Mem ⟨V,O,hlV,hgO⟩ NF g' τ'.tab W'/\di W' (am NF g' τ'.tab) g' τ'.tab τ'.tmps a'.tmps/\a'.tmps.size=nt/\di W' (am NF g' τ'.tab) g' τ'.tab τ'.sv a.tmps/\W'.heap[w.heap.size]?=some (.deferred (some []))) ->
    W'.heap[w.heap.size+1]?=some o->(∀ b,b < V.heap.size->¬ O b->W'.heap[b]?=V.heap[b]?)->W.heap.size<=W'.heap.size->a'.defers=[]->Q2 e a' W') ->
   c.wpIn ((Fw none).inRound (w.heap.size+1)) (n+1) P Q2 { tmps:=tmps,defers:=[] } W:=by
  intro V hlV c ac hsound Q1 Q2 τ tmps W o hwp hl ho hst hpost
  obtain⟨g',h1,h2,h3,h4,h5⟩:=hst
  refine hsound (n+1) h1.base NF (a.tmps.push undef) Q1 Q2 τ _ W (fun h=>by cases h) (fun e τ' a' W' hq hR'=>?_) ⟨g',h1.rebase,h2,h3,⟨List.nodup_nil,fun _=>rfl,fun d hd=>by simp at hd⟩,(om).2 h4⟩ hwp
  obtain⟨g2,k1,k2,k3,km,k4'⟩:=hR'
  have k4:=om.1 k4'
  have hdf:a'.defers=[]:=km.2.1 (by simp)
  have hun:=h1.unbase k1
  exact hpost e τ' a' W' hq ⟨g2,hun,k2,k3,k4,h1.others k1 h5 rfl⟩ (h1.others k1 hl ho) (fun b hb hob=>hun.below.block b hb hob) k1.below.size hdf
 refine⟨w.heap.size+1,[{ target:=.collected w.heap.size,args:=#[] }],W1,{ target:=.fn (.func f) lb,args:=#[.func (.yield (w.heap.size+1)) #[] #[]] },W1,f,
  #[.func (.yield (w.heap.size+1)) #[] #[]]++lb,W1,?_,?_,fun _ _=>trivial,?_,fun h=>by simp [Fw,Fence.wide] at h,?_⟩
 ·rw [<- hW1,hrec];exact run_enterLoop_outer _ _ _ _ _
 ·simp only [resolve,hgv]
  simp [go_sem]
 ·simp [invoke,go_sem,iw hf0 hbody0 hname0]
 ·let N:Nat->Prop:=fun b=>am N0 g0 σ.tab b\/b=w.heap.size+1\/b=w.heap.size
  have hN0lt:∀ b,am N0 g0 σ.tab b->b < w.heap.size:=fun b h=>h.elim (fun h=>(hN0o b h).1) (hownlt b)
  have hNlt:∀ b,N b->b < W1.heap.size:=fun b hb=>by
   rcases hb with h | h | h
   ·have:=hN0lt b h;omega
   ·omega
   ·omega
  have hrun:=hit W1 N lb hNlt hlW
   (fun b hb hN=>by
    have hlt:=hM0.laid.lt hb
    rcases hN with (h | ⟨m,h1,h2⟩) | h | h
    ·exact (hM0.n0 b h).2.2 hb
    ·exact hM0.gblk h1 h2 hb
    ·omega
    ·omega)
   hlen (fun i d v h1 h2=>(hlb i d v h1 h2).mono hgrow.size (fun b hb _=>hgrow.block b hb) fun b hb h=>by
    rcases h with h | h | h
    ·exact h
    ·omega
    ·omega)
  have hcalls:=hrun (w.heap.size+1) J Jx (n+1)
   (fun i W W' ⟨τ,h1,h2,h3⟩ hb=>by
    rw [<- hfr] at hb
    exact⟨τ,h1,hAnyGrow τ W W' h2 hb,by rw [hb.block _ (Array.getElem?_eq_some_iff.1 h3).1 hfr2];exact h3⟩)
   (fun W W' ⟨τ,c,h1,h2,h3⟩ hb=>by
    rw [<- hfr] at hb
    exact⟨τ,c,h1,⟨Nat.lt_of_lt_of_le h2.1 hb.size,hMidGrow τ W W' h2.2 hb⟩,by rw [hb.block _ (Array.getElem?_eq_some_iff.1 h3).1 hfr2];exact h3⟩)
   ?_ ⟨σ,hw,.inl ⟨by rw [hfr];exact Nat.le_refl _,rfl,Below.refl _ _⟩,hL1⟩
  ·-- behind the iterator
   refine callsIn_wide.2 (hcalls.mono ?_)
   have finN:({ target:=.collected w.heap.size,args:=#[] }:Deferred) ∉ a.defers:=fun hin=>by
    obtain⟨D,k1,k2,k3⟩:=hmk.2.2 _ hin
    simp only [Deferred.mk.injEq,Target.collected.injEq,and_true] at k1
    have:=(Array.getElem?_eq_some_iff.1 k3).1
    omega
   have finB:∀ τ W jump,Mid τ W->(W.heap[w.heap.size+1]?=some (.loop jump))->Rel w0 N0 nt svv τ { a with defers:={ target:=.collected w.heap.size,args:=#[] }::a.defers } (W.putObj (w.heap.size+1) (.loop { jump with state:=.exhausted })):=fun τ W jump hm hl=>by
    obtain⟨V,hlV,g',hv,hfv,h1,h2,h3,h4⟩:=hMidPut τ W _ (.loop { jump with state:=.exhausted }) hm hl rfl
    obtain⟨u1,u2⟩:=Mem.unbaseX (hov V hv) hO hM0.n0 hNF0 h1
    refine⟨g',u1,fun t x hx=>u2 _ _ (h2 t x hx),hsz,⟨List.nodup_cons.2 ⟨finN,hmk.1⟩,fun h=>by omega,fun d hd=>?_⟩,fun t x hx=>by rw [h3] at hx;simp [aj] at hx⟩
    rcases List.mem_cons.1 hd with rfl | hd
    ·exact⟨_,rfl,hM0.below.size,h4⟩
    ·exact (hmk1 V _ hv hlV _ _ _ h1).2.2 d hd
   have finA:∀ W jump,Below W1.heap.size W1 W->(W.heap[w.heap.size+1]?=some (.loop jump))->Rel w0 N0 nt svv σ { a with defers:={ target:=.collected w.heap.size,args:=#[] }::a.defers } (W.putObj (w.heap.size+1) (.loop { jump with state:=.exhausted })):=fun W jump hb hl=>by
    obtain⟨hMW,hKW⟩:=hMB.grow hb
    obtain⟨h5,h6⟩:=hMW.putObj (o':=.loop { jump with state:=.exhausted }) hl rfl (.inr (.inr (.inl rfl)))
    obtain⟨u1,u2⟩:=Mem.unbaseX (hov W1 (Below.refl _ _)) hO hM0.n0 (fun _ h=>h) h5
    refine⟨g0,u1,fun t x hx=>u2 _ _ (h6.a (hKW.a (hS1 t x hx))),hsz,⟨List.nodup_cons.2 ⟨finN,hmk.1⟩,fun h=>by omega,fun d hd=>?_⟩,fun t x hx=>by rw [hsv] at hx;simp [aj] at hx⟩
    rcases List.mem_cons.1 hd with rfl | hd
    ·exact⟨_,rfl,hM0.below.size,by rw [World.putObj_heap_other (by omega),hb.block _ (by omega)];exact hD1⟩
    ·exact (hmk1 W1 _ (Below.refl _ _) hlW _ _ _ h5).2.2 d hd
   have fin:∀ τ W jump,Any2 τ W->(W.heap[w.heap.size+1]?=some (.loop jump))->Rel w0 N0 nt svv τ { a with defers:={ target:=.collected w.heap.size,args:=#[] }::a.defers } (W.putObj (w.heap.size+1) (.loop { jump with state:=.exhausted })):=fun τ W jump hm hl=>by
    rcases hm with ⟨_,rfl,hb⟩ | ⟨_,hm⟩
    ·exact finA W jump hb hl
    ·exact finB τ W jump hm hl
   rintro e W2 ⟨⟨v,rfl⟩,hJ | hJ⟩
   ·obtain⟨τ,h1,h2,h3⟩:=hJ
    refine⟨none,_,by have:=run_endLoop (P:=P) h3 (by rw [hrec];simp);rw [hrec] at this;exact this,?_⟩
    have hq:Q .normal τ:=by simpa [K,cQ] using h1
    have:=fin τ W2 _ h2 h3
    rw [hrec] at this
    exact hQ _ _ _ _ hq this
   ·obtain⟨τ,c,h1,h2,h3⟩:=hJ
    refine⟨some c,_,by have:=run_endLoop (P:=P) h3 (by rw [hrec];simp);rw [hrec] at this;exact this,?_⟩
    have:=finB τ W2 _ h2.2 h3
    rw [hrec] at this
    rcases h1 with ⟨rfl,hq⟩ | ⟨id,rfl,hq⟩
    ·exact wpIn_ret (hQ _ _ _ _ hq this)
    ·exact wpIn_exit (hQ _ _ _ _ hq this)
  ·-- a round
   rintro i y x W0 W' hx ⟨τ,hk,hAny,hl0⟩ hfW hbW hlxy hfx
   rw [<- hfr] at hfW hbW
   obtain⟨V0,hlV0,g',hv0,hfv0,m01,m02,m3,m04⟩:Mid τ W0:=by
    rcases hAny with ⟨h,_⟩ | ⟨_,h⟩
    ·omega
    ·exact h
   obtain⟨V,hlV,hvv,m1,mK⟩:=m01.vary hbW fun b e=>by rw [<- Option.some.inj e];exact hNFfr
   have hv:Below W1.heap.size W1 V:=⟨hvv.os.trans hv0.os,hvv.tape.trans hv0.tape,hvv.output.trans hv0.output,by rw [hvv.size];exact hv0.size,fun k hk=>by
    rw [hvv.block k fun e=>by have:=Option.some.inj e;omega];exact hv0.block k hk⟩
   have hfv:fr < V.heap.size:=by rw [hvv.size];exact hfv0
   have m2:di W' (am NF g' τ.tab) g' τ.tab τ.tmps a.tmps:=fun t x hx=>mK.a (m02 t x hx)
   have m4:W'.heap[w.heap.size]?=some (.deferred (some [])):=by rw [hbW.block _ (Array.getElem?_eq_some_iff.1 m04).1 hfr1];exact m04
   have hl:W'.heap[w.heap.size+1]?=some (.loop (rec .ready none)):=by rw [hbW.block _ (Array.getElem?_eq_some_iff.1 hl0).1 hfr2];exact hl0
   have hNW0:∀ b,am NF g' τ.tab b->b < W0.heap.size:=fun b h=>by
    rcases h with h | ⟨m,h1,h2⟩
    ·exact Nat.lt_of_lt_of_le (m01.n0 b h).1 m01.below.size
    ·exact (m01.rng m b h1 h2).2
   have hdrop:xs.drop i=y::xs.drop (i+1):=by
    obtain⟨hi,hxi⟩:=List.getElem?_eq_some_iff.1 hx
    rw [List.drop_eq_getElem_cons hi,hxi]
   simp only [K,hdrop,cQ,DN] at hk
   have hlenx:x.length=ps.toList.length:=hlxy.trans hk.1
   obtain⟨hps1,hps2⟩:=zZ ps.toList y x τ.tmps a.tmps hsz hps hlxy (fun j a b h1 h2=>ai1 (hfx j a b h1 h2) hNW0) m2
   have hwp:=hk.2
   have hy:=run_yield (P:=P) (args:=x.toArray) hl (by rw [hrec];simpa using hlenx)
   rw [hrec] at hy
   refine⟨fn,_,ca,cb,hy,roundIn_of_wpIn hfn ?_⟩
   have htm:((ps.zip x.toArray).foldl (fun tmps (q:Tmp × Value)=>tmps.setIfInBounds q.1 q.2) a.tmps)=((ps.toList.zip x).foldl (fun t (q:Nat × Value)=>t.setIfInBounds q.1 q.2) a.tmps):=by
    rw [<- Array.foldl_toList,Array.toList_zip]
   have htm':((ps.zip x.toArray).foldl (fun tmps (x:Tmp × Value)=>match x with | (t,a)=>tmps.setIfInBounds t a) a.tmps)=((ps.toList.zip x).foldl (fun t (q:Nat × Value)=>t.setIfInBounds q.1 q.2) a.tmps):=htm
   simp only [] at htm' ⊢
   rw [htm']
   refine stretch V hlV ca aa (ha _) _ _ ⟨_,τ.tab,τ.tmps⟩ _ W' _ hwp hl rfl ⟨g',m1,hps2,hps1,m2,m4⟩ (fun e τ1 a1 w1 hq1 hst1 hl1 hov1 hsz1 hdf1=>?_)
   cases e with
   | normal=>
    obtain⟨g1,n1,n2,n3,n4,n5⟩:=hst1
    refine⟨_,run_beginRound hl1 (by rw [hrec]),?_⟩
    have hlt1:w.heap.size+1 < w1.heap.size:=(Array.getElem?_eq_some_iff.1 hl1).1
    obtain⟨p1,p2⟩:=n1.putObj (o':=.loop { rec .ready none with state:=.busy }) hl1 rfl (.inr (.inr (.inl rfl)))
    have hbody:=stretch V hlV cb ab (hb _) (p8 td (K (i+1)) Q) (roundPost P (w.heap.size+1) fun e W''=>F2 W1.heap.size N W' W''/\(W''.heap[W1.heap.size]?=W'.heap[W1.heap.size]?/\W'.heap.size<=W''.heap.size)/\((e=.returned (.bool true)/\J (i+1) W'')\/(e=.returned (.bool false)/\Jx W'')))
     τ1 a1.tmps (w1.putObj (w.heap.size+1) (.loop { rec .ready none with state:=.busy })) (.loop { rec .ready none with state:=.busy }) hq1 (World.putObj_heap_same hlt1) rfl
     ⟨g1,p1,fun t x hx=>p2.a (n2 t x hx),n3,fun t x hx=>p2.a (n4 t x hx),by rw [World.putObj_heap_other (by omega)];exact n5⟩
     (fun e2 τ2 a2 w2 hq2 hst2 hl2 hov2 hsz2 _=>by
      obtain⟨g2,q1,q2,q3,q4,q5⟩:=hst2
      have hsame:∀ o' b,b < V.heap.size->¬ O b->(w2.putObj (w.heap.size+1) o').heap[b]?=W'.heap[b]?:=fun o' b hbV hOb=>by
       rw [World.putObj_heap_other (fun h=>hOb (.inr (.inl h))),hov2 b hbV hOb]
       exact (m1.below.block b hbV hOb).symm
      have hkept:∀ o',F2 W1.heap.size N W' (w2.putObj (w.heap.size+1) o'):=fun o'=>⟨by simp at hsz2 ⊢;omega,fun b hb hN=>by
       have hOb:¬ O b:=fun h=>hN (h.elim (fun h=>.inl (.inr h)) .inr)
       exact hsame o' b (by omega) hOb⟩
      have hkx:∀ o',(w2.putObj (w.heap.size+1) o').heap[W1.heap.size]?=W'.heap[W1.heap.size]?/\W'.heap.size<=(w2.putObj (w.heap.size+1) o').heap.size:=fun o'=>
       ⟨hsame o' _ (by omega) fun h=>by have:=hOlt _ h;omega,by simp at hsz2 ⊢;omega⟩
      have hmid2:Mid ⟨τ2.sv,τ2.tab,[]⟩ w2:=⟨V,hlV,g2,hv,hfv,q1,q4,rfl,q5⟩
      have hlt2:w.heap.size+1 < w2.heap.size:=(Array.getElem?_eq_some_iff.1 hl2).1
      have hfw2:fr < w2.heap.size:=Nat.lt_of_lt_of_le hfv q1.below.size
      cases e2 with
      | normal=>
       obtain⟨τ3,h3,h4⟩:=gM hq2
       have hrel:Rel ⟨V,O,hlV,hgO⟩ NF nt #[] ⟨τ2.sv,τ2.tab,[]⟩ { tmps:=a.tmps,defers:=[] } w2:=⟨g2,q1,q4,hsz,⟨List.nodup_nil,fun _=>rfl,fun d hd=>by simp at hd⟩,fun t x hx=>by simp [aj] at hx⟩
       obtain⟨g3,r1,r2,_,_,_⟩:=hrel.tidy h3
       have hmid3:Mid τ3 w2:=⟨V,hlV,g3,hv,hfv,r1,r2,OO h3 rfl,q5⟩
       have hend:=run_endRound (P:=P) none hl2
       refine⟨_,_,hend,hkept _,hkx _,.inl ⟨rfl,τ3,h4,.inr ⟨by simpa using hfw2,hMidPut τ3 w2 _ _ hmid3 hl2 rfl⟩,?_⟩⟩
       rw [World.putObj_heap_same hlt2,hrec]
       rfl
      | ret=>
       have hend:=run_endRound (P:=P) (some .ret) hl2
       refine⟨_,_,hend,hkept _,hkx _,.inr ⟨rfl,⟨τ2.sv,τ2.tab,[]⟩,.ret,.inl ⟨rfl,hq2⟩,⟨by simpa using hfw2,hMidPut _ w2 _ _ hmid2 hl2 rfl⟩,?_⟩⟩
       rw [World.putObj_heap_same hlt2,hrec]
       rfl
      | exit id=>
       have hend:=run_endRound (P:=P) (some (.exit id)) hl2
       refine⟨_,_,hend,hkept _,hkx _,.inr ⟨rfl,⟨τ2.sv,τ2.tab,[]⟩,.exit id,.inr ⟨id,rfl,hq2⟩,⟨by simpa using hfw2,hMidPut _ w2 _ _ hmid2 hl2 rfl⟩,?_⟩⟩
       rw [World.putObj_heap_same hlt2,hrec]
       rfl
      | _=>exact hq2.elim)
    have ha1:a1={ tmps:=a1.tmps,defers:=[] }:=by rw [<- hdf1]
    rw [ha1]
    exact hbody
   | exit id=>exact hq1.elim
   | ret=>exact hq1.elim
   | _=>exact hq1.elim
theorem VE (hE:eZ P E){g:Operand}{ps:Array Tmp}{ca cb:Code}{aa ab:au}{td:Option cH}(hps:∀ p ∈ ps.toList,p < nt)(ha:∀ l,vD P E nt ca aa (some l) false)(hb:∀ l,vD P E nt cb ab (some l) false) :
  vD P E nt (.rangeFunc g ps ca cb) (.rangeF g ps.toList td aa ab) none true:=by
 intro n w0 N0 svv Q Q' σ a w hsvv hQ hR hw
 obtain⟨g0,hM0,hS0,hsz,hmk,_⟩:=hR
 have hlaid0:dZ P w:=hM0.laid
 by_cases hfr:zU E σ g=none/\∃ f caps lb xs,eK σ (evO σ.tmps g)=σ/\σ.sv=[]/\zW E σ.tab (evO σ.tmps g) σ.sv=some xs/\a.eval g=.func (.func f) #[] lb/\caps.length=lb.size /\
   (∀ (i:Nat) (d:DC) (v:Value),caps[i]?=some d->lb[i]?=some v->aH w (am N0 g0 σ.tab) d v)/\de P f/\sG P f caps xs
 ·obtain⟨h1,f,caps,lb,xs,h2,h3,h4,h5,h6,h7,h8,h9⟩:=hfr
  simp only [wpA,h1,h4,h2,Gc] at hw
  exact Zx hps ha hb (hsvv rfl) hQ hM0 hS0 hsz hmk h3 h5 h8 h9 h6 h7 hw
 have hsetup:∃ (K:Nat->St->Prop) (X:Nat->World->List Value->Prop) (m:Nat) (σk:St) (ob:Option Nat) (f:Nat) (lb:Array Value) (hgo:∀ b,gbP P b->¬ ib g0 σk.tab b),
   K 0 σk/\(∀ τ,K m τ->Q .normal τ) /\
   (∀ i τ (W:World) (N:Nat->Prop) (g':Gh),i < m->K i τ->(∀ k e,aj τ.tab k=some e->pv W (am N g' τ.tab) g' τ.tab k e)->di W (am N g' τ.tab) g' τ.tab τ.tmps a.tmps->∃ x,X i W x) /\
   (∀ i x τ (W:World) (N:Nat->Prop) (g':Gh),i < m->X i W x->K i τ->(∀ k e,aj τ.tab k=some e->pv W (am N g' τ.tab) g' τ.tab k e)->di W (am N g' τ.tab) g' τ.tab τ.tmps a.tmps ->
    x.length=ps.toList.length/\∃ tm,(((ps.toList.zip x).foldl (fun t (q:Nat × Value)=>t.setIfInBounds q.1 q.2) a.tmps).size=nt/\di W (am N g' τ.tab) g' τ.tab tm ((ps.toList.zip x).foldl (fun t (q:Nat × Value)=>t.setIfInBounds q.1 q.2) a.tmps)) /\
     wpA P E aa (vz (wpA P E ab (p8 td (K (i+1)) Q)) (fun _ _=>False)) ⟨tm,τ.tab,τ.tmps⟩) /\
   σk.tmps=σ.tmps/\σk.sv=[]/\a.eval g=.func (.func f) #[] lb/\de P f /\
   (∀ b,ob=some b->(w0.w.heap.size<=b\/w0.own b)/\∃ cells t,w.heap[b]?=some (.cells cells t (0,0)))/\(∀ b,ib g0 σk.tab b->ib g0 σ.tab b) /\
   Mem ⟨w,ib g0 σk.tab,hlaid0,hgo⟩ (fun k=>N0 k\/ob=some k) g0 σk.tab w /\
   (∀ x v,aJ w (am N0 g0 σ.tab) g0 σ.tab x v->aJ w (am (fun k=>N0 k\/ob=some k) g0 σk.tab) g0 σk.tab x v) /\
   ∀ (W:World) (N:Nat->Prop),Below w.heap.size w W->(∀ b,N b->b < W.heap.size)->dZ P W->(∀ b,gbP P b->¬ N b)->(∀ b,N b->b < w.heap.size->am N0 g0 σk.tab b)->zY P f lb ob X m W N:=by
  simp only [wpA] at hw
  split at hw
  ·rename_i rows hlw
   obtain⟨f,n1,m,k0,hsv,hlr0,hone,hbox,hptr,hk0⟩:=Ka hlw
   obtain⟨cs,hgv,hlen,hcap⟩:=aM (iJ (a:=a) hS0 g) hone
   have hl1:cs.size=1:=by simpa using hlen.symm
   obtain⟨_,bx,hblk,hpv⟩:=hcap 0 _ (cs[0]'(by omega)) rfl (by simp [hl1])
   have hcs:cs=#[.pointer (some ⟨bx,0,none⟩)]:=by
    apply Array.ext
    ·simp [hl1]
    ·intro i h1 h2
     have:i=0:=by omega
     subst this
     simpa using hpv
   subst hcs
   obtain⟨tt,hgt,hone1,hown⟩:=wv hlr0
   obtain⟨hsm,hsvm,sa,sl,sc,hsl⟩:=aM (iJ (a:=a) hS0 (.tmp (tt - 1))) hone1
   have hlm:live σ.tab m:=by unfold live;rw [hbox];trivial
   have hkl:∀ k,live (aput σ.tab m .dead) k->k ≠ m/\live σ.tab k:=fun k h=>by
    rw [dw] at h
    by_cases e:k=m
    ·simp [e] at h
    ·simp only [e,if_false] at h;exact⟨e,h⟩
   have hks:eK σ (evO σ.tmps g)=⟨σ.tmps,aput σ.tab m .dead,σ.sv⟩:=by unfold eK;rw [hone]
   have hbc:∃ t,w.heap[bx]?=some (.cells #[.slice sa sl sc] t (0,0)):=by
    obtain⟨b',cells,t,k1,k2,k3,k4,_⟩:=hM0.ents m _ hbox
    have:b'=bx:=Option.some.inj (k1.symm.trans hblk)
    subst this
    have hc1:cells.size=1:=by simpa using k3
    obtain⟨_,h2,_⟩:=k4 0 _ (cells[0]'(by omega)) rfl (by simp [hc1])
    refine⟨t,?_⟩
    rw [k2]
    congr 2
    apply Array.ext
    ·simp [hc1]
    ·intro i h3 h4
     have:i=0:=by omega
     subst this
     simp only [List.getElem_toArray,List.getElem_cons_zero]
     rw [h2,<- hsvm,hsl]
   obtain⟨tb,hbc⟩:=hbc
   have hslice:∀ (τ:St) (W:World) (N:Nat->Prop) (g':Gh) (n':Nat) (rows':List (List DC)),ql τ g=some (n',rows')->(∀ k e,aj τ.tab k=some e->pv W (am N g' τ.tab) g' τ.tab k e)->di W (am N g' τ.tab) g' τ.tab τ.tmps a.tmps ->
     ci W (am N g' τ.tab) 2 rows' (.slice sa sl sc) (g'.blk n'):=fun τ W N g' n' rows' hr he hS=>by
    obtain⟨t',hg',hone',hown'⟩:=wv hr
    rw [hgt] at hg'
    cases hg'
    obtain⟨_,h2,_⟩:=aM (iJ (a:=a) hS (.tmp (tt - 1))) hone'
    have h3:=(he n' _ hown').1
    rw [<- h2,hsl] at h3
    exact h3
   have hlr:rows.length=sl:=by
    have h3:=hslice σ w N0 g0 n1 rows hlr0 (fun k e he=>hM0.ents k e he) hS0
    rcases h3 with ⟨h4,h5,_⟩ | ⟨b,off,cap,cells,t,fz,_,h4,_⟩
    ·simp only [Value.slice.injEq] at h4;rw [h5,h4.2.1];rfl
    ·simp only [Value.slice.injEq] at h4;exact h4.2.1.symm
   have hslm:sl<=maxLen:=by
    have h3:=hslice σ w N0 g0 n1 rows hlr0 (fun k e he=>hM0.ents k e he) hS0
    rcases h3 with ⟨h4,h5,_⟩ | ⟨b,off,cap,cells,t,fz,_,h4,_,h5,h6,_⟩
    ·rw [<- hlr,h5];exact Nat.zero_le _
    ·omega
   have hidl:(uX rows.length).length=sl - (sl / 2+1):=by simp [uX,hlr]
   have hidx:∀ i,i < sl - (sl / 2+1)->(uX rows.length).drop i=[.int .i64 ((sl / 2+1+i:Nat):Int)]::(uX rows.length).drop (i+1):=fun i hi=>by
    rw [List.drop_eq_getElem_cons (by rw [hidl];exact hi)]
    simp [uX,hlr]
   have hread:∀ i τ (W:World) (N:Nat->Prop) (g':Gh),i < sl - (sl / 2+1)->cQ true g (wpA P E aa) (wpA P E ab) ps.toList td Q ((uX rows.length).drop i) τ->(∀ k e,aj τ.tab k=some e->pv W (am N g' τ.tab) g' τ.tab k e)->di W (am N g' τ.tab) g' τ.tab τ.tmps a.tmps ->
     ∃ (b o:Nat) (cells:Array Value) (t:TypeId) (fz:Nat × Nat) (p q:Nat) (r:List DC),sa=some ⟨b,o,none⟩/\W.heap[b]?=some (.cells cells t fz)/\o+(sl / 2+1+i)*2+2<=cells.size/\r.length=2/\ps.toList=[p,q] /\
      (∀ (j:Nat) (d:DC),r[j]?=some d->∃ c,cells[o+(sl / 2+1+i)*2+j]?=some c/\aH W (am N g' τ.tab) d c) /\
      wpA P E aa (vz (wpA P E ab (p8 td (cQ true g (wpA P E aa) (wpA P E ab) ps.toList td Q ((uX rows.length).drop (i+1))) Q)) (fun _ _=>False))
       ⟨(q,.val true (r.map .d))::(p,.val false [.d (.v (.int .i64 ((sl / 2+1+i:Nat):Int)))])::τ.tmps,τ.tab,τ.tmps⟩:=fun i τ W N g' hi hk he hS=>by
    rw [hidx i hi] at hk
    simp only [cQ,DN] at hk
    generalize hpl:cQ true g (wpA P E aa) (wpA P E ab) ps.toList td Q ((uX rows.length).drop (i+1))=KK at hk ⊢
    split at hk
    ·rename_i n' rows' t' p q hr hx hps
     simp only [List.cons.injEq,Value.int.injEq,true_and,and_true] at hx
     subst hx
     split at hk
     ·rename_i r hrow
      simp only [Int.toNat_natCast] at hrow
      have hso:=hslice τ W N g' n' rows' hr he hS
      have hlt:=(List.getElem?_eq_some_iff.1 hrow).1
      rcases hso with ⟨_,h5,_⟩ | ⟨b,off,cap,cells,t,fz,_,h4,h5,h6,_,h7,_,h8,_,h9⟩
      ·rw [h5] at hlt;simp at hlt
      ·simp only [Value.slice.injEq] at h4
       rw [List.take_of_length_le (by rw [h8 r (List.mem_of_getElem? hrow)];exact Nat.le_refl _)] at hk
       refine⟨b,off,cells,t,fz,p,q,r,h4.1,h5,?_,h8 r (List.mem_of_getElem? hrow),hps,fun j d hd=>h9 _ j r d hrow hd,?_⟩
       ·have:(sl / 2+1+i)*2+2<=cap*2:=by omega
        omega
       ·exact hk
     ·exact hk.elim
    ·exact hk.elim
   have hgo:∀ b,gbP P b->¬ ib g0 (aput σ.tab m .dead) b:=fun b h ⟨k,h1,h2⟩=>hM0.gblk (hkl k h1).2 h2 h
   obtain⟨hMk,hAk⟩:=hM0.kill hbox hblk (hl:=hlaid0) (hg:=hgo) fun _=>Iff.rfl
   have hbl:=(Array.getElem?_eq_some_iff.1 hbc).1
   rw [hks] at hw
   refine⟨fun i=>cQ true g (wpA P E aa) (wpA P E ab) ps.toList td Q ((uX rows.length).drop i),ahf sa sl 2,sl - (sl / 2+1),⟨σ.tmps,aput σ.tab m .dead,σ.sv⟩,some bx,f,_,hgo,by simpa using hw,fun τ h=>?_,fun i τ W N g' hi hk he hS=>?_,fun i x τ W N g' hi hx hk he hS=>?_,rfl,hsv,hgv,?_,fun c hc=>?_,fun c ⟨k,h1,h2⟩=>⟨k,(hkl k h1).2,h2⟩,hMk,hAk,fun W N hW hN hlW hgN hav=>?_⟩
   ·have h:cQ true g (wpA P E aa) (wpA P E ab) ps.toList td Q ((uX rows.length).drop (sl - (sl / 2+1))) τ:=h
    rw [List.drop_eq_nil_of_le (by rw [hidl];exact Nat.le_refl _)] at h
    exact h
   ·obtain⟨b,o,cells,t,fz,p,q,r,h1,h2,h3,_⟩:=hread i τ W N g' hi hk he hS
    exact⟨_,b,o,cells,t,fz,h1,h2,h3,rfl⟩
   ·obtain⟨b,o,cells,t,fz,p,q,r,h1,h2,h3,h4,h5,h6,h7⟩:=hread i τ W N g' hi hk he hS
    obtain⟨b',o',cells',t',fz',k1,k2,k3,rfl⟩:=hx
    rw [h1] at k1
    simp only [Option.some.injEq,Addr.mk.injEq,and_true] at k1
    obtain⟨rfl,rfl⟩:=k1
    rw [h2] at k2
    simp only [Option.some.injEq,Obj.cells.injEq] at k2
    obtain⟨rfl,rfl,rfl⟩:=k2
    refine⟨by rw [h5];rfl,_,⟨by simpa [h5] using hsz,?_⟩,h7⟩
    rw [h5] at hps ⊢
    simp only [List.zip_cons_cons,List.zip_nil_right,List.foldl_cons,List.foldl_nil]
    refine (hS.put (by rw [hsz];exact hps p (by simp)) (v:=.int .i64 ((sl / 2+1+i:Nat):Int)) (y:=.val false [.d (.v (.int .i64 ((sl / 2+1+i:Nat):Int)))]) ⟨_,rfl,aH.v rfl⟩).put (by rw [Array.size_setIfInBounds,hsz];exact hps q (by simp)) ⟨_,rfl,?_,fun j c v hc hv=>?_⟩
    ·simp only [List.length_map,h4,Array.size_extract];omega
    ·rw [List.getElem?_map] at hc
     cases hq:r[j]? with
     | none=>rw [hq] at hc;cases hc
     | some d=>
      rw [hq] at hc
      simp only [Option.map_some,Option.some.injEq] at hc
      subst hc
      obtain⟨c,h8,h9⟩:=h6 j d hq
      have hj:j < 2:=by rw [<- h4];exact (List.getElem?_eq_some_iff.1 hq).1
      have hv':cells[o+(sl / 2+1+i)*2+j]?=some v:=by
       rw [Array.getElem?_extract] at hv
       split at hv
       ·exact hv
       ·cases hv
      rw [h8] at hv'
      simp only [Option.some.injEq] at hv'
      have hv:=hv'
      subst hv
      exact h9
   ·have h3:=hE.ptrs f _ hptr
    unfold lA at h3
    simp only [QM,YH,SI,show 1000000<=k0 by omega,if_true,show ¬ k0 < 2000000 by omega,if_false] at h3
    exact h3.2
   ·have:bx=c:=Option.some.inj hc
    subst this
    exact⟨(hM0.rng m bx hlm hblk).1,_,tb,hbc⟩
   ·have h3:=hE.ptrs f _ hptr
    unfold lA at h3
    simp only [QM,YH,SI,show 1000000<=k0 by omega,if_true,show ¬ k0 < 2000000 by omega,if_false] at h3
    refine h3.1 sa sl sc bx tb W N hN hslm (fun h=>?_) (by rw [hW.block bx hbl,hbc])
    rcases hav bx h hbl with h | ⟨k,h1,h2⟩
    ·obtain⟨h1,h2,_⟩:=hM0.n0 bx h
     exact (hM0.rng m bx hlm hblk).1.elim (fun h=>by omega) h2
    ·exact (hkl k h1).1 (hM0.inj k m bx (hkl k h1).2 hlm h2 hblk)
  ·rename_i hnl
   unfold Gc at hw
   split at hw
   rotate_left
   ·exact hw.elim
   rename_i xs hseq0
   obtain⟨hsv,hsq⟩:=JU (σ:=σ) (iJ (a:=a) hS0 g) hseq0
   have hstart:∃ (ob:Option Nat) (f:Nat) (lb:Array Value) (hgo:∀ b,gbP P b->¬ ib g0 (eK σ (evO σ.tmps g)).tab b),(eK σ (evO σ.tmps g)).tmps=σ.tmps/\(eK σ (evO σ.tmps g)).sv=[]/\a.eval g=.func (.func f) #[] lb/\de P f/\(∀ x ∈ xs,∀ v ∈ x,uo v=true) /\
     (∀ b,ob=some b->(w0.w.heap.size<=b\/w0.own b)/\∃ cells t,w.heap[b]?=some (.cells cells t (0,0)))/\(∀ b,ib g0 (eK σ (evO σ.tmps g)).tab b->ib g0 σ.tab b) /\
     Mem ⟨w,ib g0 (eK σ (evO σ.tmps g)).tab,hlaid0,hgo⟩ (fun k=>N0 k\/ob=some k) g0 (eK σ (evO σ.tmps g)).tab w /\
     (∀ x v,aJ w (am N0 g0 σ.tab) g0 σ.tab x v->aJ w (am (fun k=>N0 k\/ob=some k) g0 (eK σ (evO σ.tmps g)).tab) g0 (eK σ (evO σ.tmps g)).tab x v) /\
     ∀ (W:World) (N:Nat->Prop),Below w.heap.size w W->(∀ b,N b->b < W.heap.size)->dZ P W->(∀ b,gbP P b->¬ N b)->(∀ b,N b->b < w.heap.size->am N0 g0 (eK σ (evO σ.tmps g)).tab b)->ro P f lb ob xs W N:=by
    have hN0:(fun k=>N0 k\/(none:Option Nat)=some k)=N0:=by funext k;simp
    rcases hsq with ⟨f,caps,lb,hk,hseq,hgv,hlen,hlb⟩ | ⟨f,m,b,cs,vs,hk,hseq,hgv,hcs,hpb,hblk⟩
    ·obtain⟨hit,hbod⟩:=hE.seq f caps xs hseq
     have hnm:∀ cs o,caps ≠ [.mref cs o]:=fun cs o e=>by
      subst e
      have h1:lb.size=1:=by simpa using hlen.symm
      have:=hlb 0 _ (lb[0]'(by omega)) rfl (by simp [h1])
      cases this
     have h0:xV P f caps xs:=(hit.2 hnm).resolve_right fun hF=>hfr ⟨hnl,f,caps,lb,xs,hk,hsv,hseq0,hgv,hlen,hlb,hbod,hF⟩
     obtain⟨hplain,hiter⟩:=h0
     rw [hk]
     refine⟨none,f,lb,fun b h k=>?_,rfl,hsv,hgv,hbod,hplain,fun _ h=>(nomatch h),fun _ h=>h,?_,fun x v h=>?_,fun W N hW hN hlW hgN hav=>?_⟩
     ·obtain⟨m,h1,h2⟩:=k
      exact hM0.gblk h1 h2 h
     ·rw [hN0]
      refine⟨.refl,hM0.ents,hM0.inj,fun m b h1 h2=>⟨.inr ⟨m,h1,h2⟩,(hM0.rng m b h1 h2).2⟩,fun b hb=>?_⟩
      obtain⟨h1,h2,h3⟩:=hM0.n0 b hb
      refine⟨Nat.lt_of_lt_of_le h1 hM0.below.size,fun ⟨m,h4,h5⟩=>?_,h3⟩
      exact (hM0.rng m b h4 h5).1.elim (fun h=>by omega) h2
     ·rw [hN0];exact h
     ·exact hiter W N lb hN hlW hgN hlen fun i d v hd hv=>(hlb i d v hd hv).mono hW.size (fun b hb _=>hW.block b hb) fun b hb h=>hav b h hb
    ·obtain⟨hit,hbod⟩:=hE.seq f _ xs hseq
     obtain⟨hplain,hiter⟩:=hit.1 vs rfl
     have hlm:live σ.tab m:=by unfold live;rw [hcs];trivial
     have hkl:∀ k,live (aput σ.tab m .dead) k->k ≠ m/\live σ.tab k:=fun k h=>by
      rw [dw] at h
      by_cases e:k=m
      ·simp [e] at h
      ·simp only [e,if_false] at h;exact⟨e,h⟩
     rw [hk]
     have hgo:∀ b,gbP P b->¬ ib g0 (aput σ.tab m .dead) b:=fun b h ⟨k,h1,h2⟩=>hM0.gblk (hkl k h1).2 h2 h
     obtain⟨hMk,hAk⟩:=hM0.kill hcs hblk (hl:=hlaid0) (hg:=hgo) fun _=>Iff.rfl
     obtain⟨b',cells,t,k1,k2,k3,k4,_⟩:=hM0.ents m _ hcs
     have:b'=b:=Option.some.inj (k1.symm.trans hblk)
     subst this
     have hbl:=(Array.getElem?_eq_some_iff.1 k2).1
     refine⟨some b',f,_,hgo,rfl,hsv,hgv,hbod,hplain,fun c hc=>?_,fun c ⟨k,h1,h2⟩=>⟨k,(hkl k h1).2,h2⟩,hMk,hAk,fun W N hW hN hlW hgN hav=>?_⟩
     ·have:b'=c:=Option.some.inj hc
      subst this
      exact⟨(hM0.rng m b' hlm hblk).1,cells,t,k2⟩
     ·have hcv:cells=vs.toArray:=by
       apply Array.ext'
       rw [rz (cells:=cells.toList) hpb (by simpa using k3) fun i c x hc hx=>k4 i c x hc (by simpa using hx)]
      refine hiter W N b' t hN hlW hgN (fun h=>?_) (hM0.gblk hlm hblk) (by rw [hW.block b' hbl,k2,hcv])
      rcases hav b' h hbl with h | ⟨k,h1,h2⟩
      ·obtain⟨h1,h2,_⟩:=hM0.n0 b' h
       exact (hM0.rng m b' hlm hblk).1.elim (fun h=>by omega) h2
      ·exact (hkl k h1).1 (hM0.inj k m b' (hkl k h1).2 hlm h2 hblk)
   obtain⟨ob,f,lb,hgo,hktm,hksv,hgv,hbod,hplain,hobf,hownS,hMw,hAw,hiter⟩:=hstart
   refine⟨fun i=>cQ false g (wpA P E aa) (wpA P E ab) ps.toList td Q (xs.drop i),fun i _ x=>xs[i]?=some x,xs.length,eK σ (evO σ.tmps g),ob,f,lb,hgo,by simpa using hw,fun τ h=>by simpa [cQ] using h,fun i τ W N g' hi _ _ _=>⟨_,List.getElem?_eq_getElem hi⟩,fun i x τ W N g' _ hx hk _ hS=>?_,hktm,hksv,hgv,hbod,hobf,hownS,hMw,hAw,fun W N h1 h2 h3 h4 h5=>(hiter W N h1 h2 h3 h4 h5).gen⟩
   have hdrop:xs.drop i=x::xs.drop (i+1):=by
    obtain⟨hi,hxi⟩:=List.getElem?_eq_some_iff.1 hx
    rw [List.drop_eq_getElem_cons hi,hxi]
   simp only [hdrop,cQ,DN] at hk
   exact⟨hk.1,_,CD ps.toList x τ.tmps a.tmps hsz hps (hplain x (List.mem_of_getElem? hx)) hS,hk.2⟩
 obtain⟨K,X,m,σk,ob,f,lb,hgo,hK0,hKend,hKread,hKround,hktm,hksv,hgv,hbod,hobf,hownS,hMw,hAw,hiter⟩:=hsetup
 obtain⟨NX,hNXd⟩:∃ X:Nat->Prop,X=(fun k=>N0 k\/ob=some k):=⟨_,rfl⟩
 rw [<- hNXd] at hMw hAw
 have hNXo:∀ b,ob=some b->NX b:=fun b h=>by rw [hNXd];exact .inr h
 have hNX0:∀ b,N0 b->NX b:=fun b h=>by rw [hNXd];exact .inl h
 have hoblt:∀ b,ob=some b->b < w.heap.size:=fun b h=>(hMw.n0 b (hNXo b h)).1
 have hob1:ob ≠ some w.heap.size:=fun e=>by have:=hoblt _ e;omega
 have hob2:ob ≠ some (w.heap.size+1):=fun e=>by have:=hoblt _ e;omega
 ·obtain⟨fn0,hf0,hbody0,hname0⟩:=hbod
  refine wpIn_rangeFunc ?_
  intro fn hfn
  obtain⟨rec,hrec⟩:∃ rec:LoopState->Option Code->Loop,rec=fun st pe=>{ state:=st,pending:=pe,fn,tmps:=a.tmps,params:=ps,assign:=ca,body:=cb,defers:=w.heap.size }:=⟨_,rfl⟩
  obtain⟨W1,hW1⟩:∃ W1,(w.alloc (.deferred (some []))).alloc (.loop (rec .ready none))=W1:=⟨_,rfl⟩
  have hL1:W1.heap[w.heap.size+1]?=some (.loop (rec .ready none)):=by
   rw [<- hW1];have:=World.alloc_heap_new (w.alloc (.deferred (some []))) (.loop (rec .ready none));rwa [World.size_alloc] at this
  have hD1:W1.heap[w.heap.size]?=some (.deferred (some [])):=by
   rw [<- hW1];exact (Below.heap_alloc _ _ _ (by simp)).trans (World.alloc_heap_new w _)
  have hgrow:Below w.heap.size w W1:=by
   rw [<- hW1];exact (((Below.refl _ w).alloc (Nat.le_refl _) _).alloc (by simp) _)
  have hszW:W1.heap.size=w.heap.size+2:=by rw [<- hW1];simp
  obtain⟨hM1,hK1⟩:=hMw.grow hgrow
  have hS1:di W1 (am NX g0 σk.tab) g0 σk.tab σk.tmps a.tmps:=fun t x hx=>hK1.a (hAw _ _ (hS0 t x (by rw [<- hktm];exact hx)))
  let O:Nat->Prop:=fun b=>ib g0 σk.tab b\/b=w.heap.size+1\/b=w.heap.size
  have hlW:dZ P W1:=hM1.laid
  have hgO:∀ b,gbP P b->¬ O b:=fun b hb h=>by
   have hlt:=hM0.laid.lt hb
   rcases h with h | h | h
   ·exact hgo b hb h
   ·omega
   ·omega
  have hMB:Mem ⟨W1,O,hlW,hgO⟩ NX g0 σk.tab W1:=⟨.refl,hM1.ents,hM1.inj,fun m b h1 h2=>⟨.inr (.inl ⟨m,h1,h2⟩),(hM1.rng m b h1 h2).2⟩,fun b hb=>by
   obtain⟨h1,h2,h3⟩:=hMw.n0 b hb
   simp only at h1
   exact⟨by rw [hszW];omega,fun h=>h.elim h2 fun h=>by omega,h3⟩⟩
  have hO:∀ b,O b->w0.w.heap.size<=b\/w0.own b:=fun b hb=>by
   have:=hM0.below.size
   rcases hb with h | h | h
   ·obtain⟨m,h1,h2⟩:=hownS b h
    exact (hM0.rng m b h1 h2).1
   ·exact .inl (by omega)
   ·exact .inl (by omega)
  have hov:∀ V,Bx ob W1 V->pC w0 w0.w V:=fun V hV=>hM0.below.trans ⟨hV.os.trans hgrow.os,hV.tape.trans hgrow.tape,hV.output.trans hgrow.output,by rw [hV.size];exact hgrow.size,fun k hk ho=>by
   rw [hV.block k fun e=>(hobf k e).1.elim (fun h=>by omega) ho]
   exact hgrow.block k (Nat.lt_of_lt_of_le hk hM0.below.size)⟩
  have hmk1:∀ (V W:World) (_:Bx ob W1 V) (hlV:dZ P V) (g':Gh) (T':Tab),Mem ⟨V,O,hlV,hgO⟩ NX g' T' W->pQ w0 svv a.defers W:=fun V W hV hlV g' T' hM=>by
   refine⟨hmk.1,hmk.2.1,fun d hd=>?_⟩
   obtain⟨D,h1,h2,h3⟩:=hmk.2.2 d hd
   have hlt:=(Array.getElem?_eq_some_iff.1 h3).1
   refine⟨D,h1,h2,?_⟩
   rw [hM.below.block D (by simp only;rw [hV.size];omega) fun h=>?_]
   ·show V.heap[D]?=_
    rw [hV.block D fun e=>?_,hgrow.block D hlt]
    ·exact h3
    ·obtain⟨_,cells,t,hc⟩:=hobf D e
     rw [h3] at hc
     cases hc
   ·rcases h with h | h | h
    ·exact hM0.not_owned h3 rfl (hownS D h)
    ·omega
    ·omega
  -- the state between two rounds
  let Mid:St->World->Prop:=fun τ W=>∃ (V:World) (hlV:dZ P V) (g':Gh),Bx ob W1 V/\Mem ⟨V,O,hlV,hgO⟩ NX g' τ.tab W/\di W (am NX g' τ.tab) g' τ.tab τ.tmps a.tmps/\τ.sv=[]/\W.heap[w.heap.size]?=some (.deferred (some []))
  let J:Nat->World->Prop:=fun i W=>∃ τ,K i τ/\Mid τ W/\W.heap[w.heap.size+1]?=some (.loop (rec .ready none))
  let Jx:World->Prop:=fun W=>∃ τ c,((c=Code.ret/\Q .ret τ)\/∃ id,c=Code.exit id/\Q (.exit id) τ)/\Mid τ W/\W.heap[w.heap.size+1]?=some (.loop (rec .done (some c)))
  have hMidGrow:∀ τ W W',Mid τ W->aW ob W W'->Mid τ W':=fun τ W W' h hb=>by
   obtain⟨V,hlV,g',hv,h1,h2,h3,h4⟩:=h
   obtain⟨V',hlV',hv',h5,h6⟩:=h1.vary hb hNXo
   exact⟨V',hlV',g',hv.trans hv',h5,fun t x hx=>h6.a (h2 t x hx),h3,by rw [hb.block _ (Array.getElem?_eq_some_iff.1 h4).1 hob1];exact h4⟩
  have hMidPut:∀ τ W o o',Mid τ W->W.heap[w.heap.size+1]?=some o->o.isCells=false->Mid τ (W.putObj (w.heap.size+1) o'):=fun τ W o o' h hl ho=>by
   obtain⟨V,hlV,g',hv,h1,h2,h3,h4⟩:=h
   obtain⟨h5,h6⟩:=h1.putObj (o':=o') hl ho (.inr (.inr (.inl rfl)))
   exact⟨V,hlV,g',hv,h5,fun t x hx=>h6.a (h2 t x hx),h3,by rw [World.putObj_heap_other (by omega)];exact h4⟩
  -- a stretch of code within a round
  have stretch:∀ (V:World) (hlV:dZ P V) (c:Code) (ac:au),vD P E nt c ac (some (w.heap.size+1)) false->∀ (Q1:Exit->St->Prop) (Q2:Exit->Act->World->Prop) (τ:St) (tmps:Array Value) (W:World) (o:Obj),wpA P E ac Q1 τ ->
    W.heap[w.heap.size+1]?=some o->o.isCells=false->(∃ g',Mem ⟨V,O,hlV,hgO⟩ NX g' τ.tab W/\di W (am NX g' τ.tab) g' τ.tab τ.tmps tmps/\tmps.size=nt/\di W (am NX g' τ.tab) g' τ.tab τ.sv a.tmps/\W.heap[w.heap.size]?=some (.deferred (some []))) ->
    (∀ e τ' a' W',Q1 e τ'->(∃ g',Mem ⟨V,O,hlV,hgO⟩ NX g' τ'.tab W'/\di W' (am NX g' τ'.tab) g' τ'.tab τ'.tmps a'.tmps/\a'.tmps.size=nt/\di W' (am NX g' τ'.tab) g' τ'.tab τ'.sv a.tmps/\W'.heap[w.heap.size]?=some (.deferred (some []))) ->
     W'.heap[w.heap.size+1]?=some o->(∀ b,b < V.heap.size->¬ O b->W'.heap[b]?=V.heap[b]?)->W.heap.size<=W'.heap.size->a'.defers=[]->Q2 e a' W') ->
    c.wpIn ((Fw none).inRound (w.heap.size+1)) (n+1) P Q2 { tmps:=tmps,defers:=[] } W:=by
   intro V hlV c ac hsound Q1 Q2 τ tmps W o hwp hl ho hst hpost
   obtain⟨g',h1,h2,h3,h4,h5⟩:=hst
   refine hsound (n+1) h1.base NX (a.tmps.push undef) Q1 Q2 τ _ W (fun h=>by cases h) (fun e τ' a' W' hq hR'=>?_) ⟨g',h1.rebase,h2,h3,⟨List.nodup_nil,fun _=>rfl,fun d hd=>by simp at hd⟩,(om).2 h4⟩ hwp
   obtain⟨g2,k1,k2,k3,km,k4'⟩:=hR'
   have k4:=om.1 k4'
   have hdf:a'.defers=[]:=km.2.1 (by simp)
   have hun:=h1.unbase k1
   exact hpost e τ' a' W' hq ⟨g2,hun,k2,k3,k4,h1.others k1 h5 rfl⟩ (h1.others k1 hl ho) (fun b hb hob=>hun.below.block b hb hob) k1.below.size hdf
  refine⟨w.heap.size+1,[{ target:=.collected w.heap.size,args:=#[] }],W1,{ target:=.fn (.func f) lb,args:=#[.func (.yield (w.heap.size+1)) #[] #[]] },W1,f,
   #[.func (.yield (w.heap.size+1)) #[] #[]]++lb,W1,?_,?_,fun _ _=>trivial,?_,fun h=>by simp [Fw,Fence.wide] at h,?_⟩
  ·rw [<- hW1,hrec];exact run_enterLoop_outer _ _ _ _ _
  ·simp only [resolve,hgv]
   simp [go_sem]
  ·simp [invoke,go_sem,iw hf0 hbody0 hname0]
  ·let N:Nat->Prop:=fun b=>am N0 g0 σk.tab b\/b=w.heap.size+1\/b=w.heap.size
   have hcalls:=hiter W1 N hgrow (fun b hb=>by
     rcases hb with (h | ⟨m,h1,h2⟩) | h | h
     ·have:=(hM0.n0 b h).1
      have:=hM0.below.size
      omega
     ·exact (hM1.rng m b h1 h2).2
     ·omega
     ·omega) hlW
    (fun b hb hN=>by
     have hlt:=hM0.laid.lt hb
     rcases hN with (h | h) | h | h
     ·exact (hM0.n0 b h).2.2 hb
     ·exact hgo b hb h
     ·omega
     ·omega)
    (fun b hb hlt=>by
     rcases hb with h | h | h
     ·exact h
     ·omega
     ·omega)
    (w.heap.size+1) J Jx (n+1)
    (fun i W W' ⟨τ,h1,h2,h3⟩ hb=>⟨τ,h1,hMidGrow τ W W' h2 hb,by rw [hb.block _ (Array.getElem?_eq_some_iff.1 h3).1 hob2];exact h3⟩)
    (fun W W' ⟨τ,c,h1,h2,h3⟩ hb=>⟨τ,c,h1,hMidGrow τ W W' h2 hb,by rw [hb.block _ (Array.getElem?_eq_some_iff.1 h3).1 hob2];exact h3⟩)
    (fun i W hi ⟨τ,h1,⟨V,hlV,g',hv,m1,m2,m3,m4⟩,h3⟩=>hKread i τ W _ g' hi h1 (fun k e he=>m1.ents k e he) m2) ?_ ⟨σk,hK0,⟨W1,hlW,g0,.refl,hMB,hS1,hksv,hD1⟩,hL1⟩
   ·-- behind the iterator
    refine callsIn_wide.2 (hcalls.mono ?_)
    have fin:∀ τ W jump,Mid τ W->(W.heap[w.heap.size+1]?=some (.loop jump))->Rel w0 N0 nt svv τ { a with defers:={ target:=.collected w.heap.size,args:=#[] }::a.defers } (W.putObj (w.heap.size+1) (.loop { jump with state:=.exhausted })):=fun τ W jump hm hl=>by
     obtain⟨V,hlV,g',hv,h1,h2,h3,h4⟩:=hMidPut τ W _ (.loop { jump with state:=.exhausted }) hm hl rfl
     obtain⟨u1,u2⟩:=Mem.unbaseX (hov V hv) hO hM0.n0 hNX0 h1
     refine⟨g',u1,fun t x hx=>u2 _ _ (h2 t x hx),hsz,⟨List.nodup_cons.2 ⟨fun hin=>?_,hmk.1⟩,fun h=>by have:=hsvv rfl;omega,fun d hd=>?_⟩,fun t x hx=>by rw [h3] at hx;simp [aj] at hx⟩
     ·obtain⟨D,k1,k2,k3⟩:=hmk.2.2 _ hin
      simp only [Deferred.mk.injEq,Target.collected.injEq,and_true] at k1
      have:=(Array.getElem?_eq_some_iff.1 k3).1
      omega
     ·rcases List.mem_cons.1 hd with rfl | hd
      ·exact⟨_,rfl,hM0.below.size,h4⟩
      ·exact (hmk1 V _ hv hlV _ _ h1).2.2 d hd
    rintro e W2 ⟨⟨v,rfl⟩,hJ | hJ⟩
    ·obtain⟨τ,h1,h2,h3⟩:=hJ
     refine⟨none,_,by have:=run_endLoop (P:=P) h3 (by rw [hrec];simp);rw [hrec] at this;exact this,?_⟩
     have hq:Q .normal τ:=hKend τ h1
     have:=fin τ W2 _ h2 h3
     rw [hrec] at this
     exact hQ _ _ _ _ hq this
    ·obtain⟨τ,c,h1,h2,h3⟩:=hJ
     refine⟨some c,_,by have:=run_endLoop (P:=P) h3 (by rw [hrec];simp);rw [hrec] at this;exact this,?_⟩
     have:=fin τ W2 _ h2 h3
     rw [hrec] at this
     rcases h1 with ⟨rfl,hq⟩ | ⟨id,rfl,hq⟩
     ·exact wpIn_ret (hQ _ _ _ _ hq this)
     ·exact wpIn_exit (hQ _ _ _ _ hq this)
   ·-- a round
    rintro i x W' him hx ⟨τ,hk,⟨V,hlV,g',hv,m1,m2,m3,m4⟩,hl⟩
    obtain⟨hlenx,tm,⟨hps1,hps2⟩,hwp⟩:=hKround i x τ W' _ g' him hx hk (fun k e he=>m1.ents k e he) m2
    have hy:=run_yield (P:=P) (args:=x.toArray) hl (by rw [hrec];simpa using hlenx)
    rw [hrec] at hy
    refine⟨fn,_,ca,cb,hy,roundIn_of_wpIn hfn ?_⟩
    have htm:((ps.zip x.toArray).foldl (fun tmps (q:Tmp × Value)=>tmps.setIfInBounds q.1 q.2) a.tmps)=((ps.toList.zip x).foldl (fun t (q:Nat × Value)=>t.setIfInBounds q.1 q.2) a.tmps):=by
     rw [<- Array.foldl_toList,Array.toList_zip]
    have htm':((ps.zip x.toArray).foldl (fun tmps (x:Tmp × Value)=>match x with | (t,a)=>tmps.setIfInBounds t a) a.tmps)=((ps.toList.zip x).foldl (fun t (q:Nat × Value)=>t.setIfInBounds q.1 q.2) a.tmps):=htm
    simp only [] at htm' ⊢
    rw [htm']
    refine stretch V hlV ca aa (ha _) _ _ ⟨tm,τ.tab,τ.tmps⟩ _ W' _ hwp hl rfl ⟨g',m1,hps2,hps1,m2,m4⟩ (fun e τ1 a1 w1 hq1 hst1 hl1 hov1 hsz1 hdf1=>?_)
    cases e with
    | normal=>
     obtain⟨g1,n1,n2,n3,n4,n5⟩:=hst1
     refine⟨_,run_beginRound hl1 (by rw [hrec]),?_⟩
     have hlt1:w.heap.size+1 < w1.heap.size:=(Array.getElem?_eq_some_iff.1 hl1).1
     obtain⟨p1,p2⟩:=n1.putObj (o':=.loop { rec .ready none with state:=.busy }) hl1 rfl (.inr (.inr (.inl rfl)))
     have hbody:=stretch V hlV cb ab (hb _) (p8 td (K (i+1)) Q) (roundPost P (w.heap.size+1) fun e W''=>F2 W1.heap.size N W' W''/\((e=.returned (.bool true)/\J (i+1) W'')\/(e=.returned (.bool false)/\Jx W'')))
      τ1 a1.tmps (w1.putObj (w.heap.size+1) (.loop { rec .ready none with state:=.busy })) (.loop { rec .ready none with state:=.busy }) hq1 (World.putObj_heap_same hlt1) rfl
      ⟨g1,p1,fun t x hx=>p2.a (n2 t x hx),n3,fun t x hx=>p2.a (n4 t x hx),by rw [World.putObj_heap_other (by omega)];exact n5⟩
      (fun e2 τ2 a2 w2 hq2 hst2 hl2 hov2 hsz2 _=>by
       obtain⟨g2,q1,q2,q3,q4,q5⟩:=hst2
       have hkept:∀ o',F2 W1.heap.size N W' (w2.putObj (w.heap.size+1) o'):=fun o'=>⟨by simp at hsz2 ⊢;omega,fun b hb hN=>by
        have hOb:¬ O b:=fun h=>hN (h.elim (fun h=>.inl (.inr h)) .inr)
        have hbV:b < V.heap.size:=by rw [hv.size];exact hb
        rw [World.putObj_heap_other (fun h=>hN (.inr (.inl h))),hov2 b hbV hOb]
        exact (m1.below.block b hbV hOb).symm⟩
       have hmid2:Mid ⟨τ2.sv,τ2.tab,[]⟩ w2:=⟨V,hlV,g2,hv,q1,q4,rfl,q5⟩
       have hlt2:w.heap.size+1 < w2.heap.size:=(Array.getElem?_eq_some_iff.1 hl2).1
       cases e2 with
       | normal=>
        obtain⟨τ3,h3,h4⟩:=gM hq2
        have hrel:Rel ⟨V,O,hlV,hgO⟩ NX nt #[] ⟨τ2.sv,τ2.tab,[]⟩ { tmps:=a.tmps,defers:=[] } w2:=⟨g2,q1,q4,hsz,⟨List.nodup_nil,fun _=>rfl,fun d hd=>by simp at hd⟩,fun t x hx=>by simp [aj] at hx⟩
        obtain⟨g3,r1,r2,_,_,_⟩:=hrel.tidy h3
        have hmid3:Mid τ3 w2:=⟨V,hlV,g3,hv,r1,r2,OO h3 rfl,q5⟩
        have hend:=run_endRound (P:=P) none hl2
        refine⟨_,_,hend,hkept _,.inl ⟨rfl,τ3,h4,hMidPut τ3 w2 _ _ hmid3 hl2 rfl,?_⟩⟩
        rw [World.putObj_heap_same hlt2,hrec]
        rfl
       | ret=>
        have hend:=run_endRound (P:=P) (some .ret) hl2
        refine⟨_,_,hend,hkept _,.inr ⟨rfl,⟨τ2.sv,τ2.tab,[]⟩,.ret,.inl ⟨rfl,hq2⟩,hMidPut _ w2 _ _ hmid2 hl2 rfl,?_⟩⟩
        rw [World.putObj_heap_same hlt2,hrec]
        rfl
       | exit id=>
        have hend:=run_endRound (P:=P) (some (.exit id)) hl2
        refine⟨_,_,hend,hkept _,.inr ⟨rfl,⟨τ2.sv,τ2.tab,[]⟩,.exit id,.inr ⟨id,rfl,hq2⟩,hMidPut _ w2 _ _ hmid2 hl2 rfl,?_⟩⟩
        rw [World.putObj_heap_same hlt2,hrec]
        rfl
       | _=>exact hq2.elim)
     have ha1:a1={ tmps:=a1.tmps,defers:=[] }:=by rw [<- hdf1]
     rw [ha1]
     exact hbody
    | exit id=>exact hq1.elim
    | ret=>exact hq1.elim
    | _=>exact hq1.elim
theorem Dy {id:Nat}{x:au}{Q:Exit->St->Prop}(h:wpA P E (ade tr id x) Q σ):∃ σ1,wpA P E x Q σ1/\∀ a w,Rel w0 N0 nt svv σ a w->Rel w0 N0 nt svv σ1 a w:=by
 unfold ade at h
 split at h
 ·exact⟨σ,h,fun _ _ hR=>hR⟩
 ·obtain⟨σ1,h1,h2⟩:=gM h
  exact⟨σ1,h2,fun _ _ hR=>hR.tidy h1⟩
theorem aiW (hE:eZ P E)(hm:P.follows .mixedOrders=true):∀ (c:Code) (top:Bool) (ac:au),mk P nt tr tl top c=some ac->∀ (r:Option Nat),(top=true->r=none)->vD P E nt c ac r top:=by
 intro c
 induction c with
 | skip=>intro top ac h r htop n w0 N0 svv Q Q' σ a w hsv hQ hR hw;simp only [mk,Option.some.injEq] at h;subst h;exact wpIn_skip (hQ _ _ _ _ hw hR)
 | ret=>intro top ac h r htop n w0 N0 svv Q Q' σ a w hsv hQ hR hw;simp only [mk,Option.some.injEq] at h;subst h;exact wpIn_ret (hQ _ _ _ _ hw hR)
 | exit id=>intro top ac h r htop n w0 N0 svv Q Q' σ a w hsv hQ hR hw;simp only [mk,Option.some.injEq] at h;subst h;exact wpIn_exit (hQ _ _ _ _ hw hR)
 | region id ops d=>
  intro top ac h r htop n w0 N0 svv Q Q' σ a w hsv hQ hR hw
  simp only [mk] at h
  split at h
  ·rename_i as hc
   split at h
   ·rename_i hds
    have fin:∀ σ1,jL (ip (aj tr id) σ1) (Q .normal)->∀ a' w',Rel w0 N0 nt svv σ1 a' w'->Q' .normal a' w':=fun σ1 h1 a' w' hR'=>by
     obtain⟨σ2,h2,h3⟩:=gM h1
     exact hQ _ _ _ _ h3 (hR'.tidy h2)
    split at h
    ·rename_i hd
     split at h
     ·rename_i hb
      simp only [Bool.and_eq_true] at hb
      simp only [Option.some.injEq] at h
      subst h
      subst hd
      obtain⟨σ,hw,hpre⟩:=Dy hw
      have hR:=hpre _ _ hR
      have:∃ os σ1,iu P E as σ=some (os,σ1)/\(aiC as (TF ops)).all (qz os)=true/\jL (ip (aj tr id) σ1) (Q .normal):=by
       simp only [wpA] at hw
       revert hw
       unfold jS
       split
       ·rename_i hnil
        intro hw
        obtain⟨σ1,h1,h2⟩:=oZ _ _ hw
        obtain⟨os,hos⟩:=vv as σ σ1 h1
        exact⟨os,σ1,hos,by rw [hnil];rfl,h2⟩
       ·intro hw
        obtain⟨os,σ1,h1,h2,h3⟩:=qF _ _ _ hw
        exact⟨os,σ1,h1,by simpa using h2,h3⟩
      obtain⟨os,σ1,hos,hp,h2⟩:=this
      exact acZ hE hm hds hc hb.1 hb.2 hos hp hR (fin σ1 h2)
     ·cases h
    ·rename_i hd
     simp only [Option.some.injEq] at h
     subst h
     obtain⟨σ,hw,hpre⟩:=Dy hw
     have hR:=hpre _ _ hR
     obtain⟨σ1,h1,h2⟩:=oZ _ _ hw
     have hd':d=false:=by simpa using hd
     subst hd'
     exact Ri hE hds hc hR h1 (fin σ1 h2)
   ·cases h
  ·cases h
 | seq x y ihx ihy=>
  intro top ac h r htop n w0 N0 svv Q Q' σ a w hsv hQ hR hw
  simp only [mk] at h
  split at h
  ·rename_i ax ay hx hy
   simp only [Option.some.injEq] at h
   subst h
   refine wpIn_seq (ihx top ax hx r htop n w0 N0 svv _ _ σ a w hsv (fun e σ1 a1 w1 h1 hR1=>?_) hR hw)
   cases e with
   | normal=>exact ihy top ay hy r htop n w0 N0 svv Q Q' σ1 a1 w1 hsv hQ hR1 h1
   | exit id=>exact hQ _ _ _ _ h1 hR1
   | ret=>exact hQ _ _ _ _ h1 hR1
   | _=>exact h1.elim
  ·cases h
 | cond c x y ihx ihy=>
  intro top ac h r htop n w0 N0 svv Q Q' σ a w hsv hQ hR hw
  simp only [mk] at h
  split at h
  ·rename_i ax ay hx hy
   simp only [Option.some.injEq] at h
   subst h
   obtain⟨g,hM,hS,hsz,hd,hS2⟩:=hR
   have hR:Rel w0 N0 nt svv σ a w:=⟨g,hM,hS,hsz,hd,hS2⟩
   rcases fk hw with ⟨hb,hw⟩ | ⟨hb,hw⟩
   ·exact wpIn_cond_true (uV (iJ hS c) hb) (ihx top ax hx r htop n w0 N0 svv Q Q' σ a w hsv hQ hR hw)
   ·exact wpIn_cond_false (uV (iJ hS c) hb) (ihy top ay hy r htop n w0 N0 svv Q Q' σ a w hsv hQ hR hw)
  ·cases h
 | block id b ih=>
  intro top ac h r htop n w0 N0 svv Q Q' σ a w hsv hQ hR hw
  simp only [mk,Option.map_eq_some_iff] at h
  obtain⟨ab,hb,rfl⟩:=h
  refine wpIn_block (ih top ab hb r htop n w0 N0 svv _ _ σ a w hsv (fun e σ1 a1 w1 h1 hR1=>?_) hR hw)
  cases e with
  | normal=>exact hQ _ _ _ _ h1 hR1
  | exit id'=>
   simp only [uC] at h1
   simp only [Exit.inBlock]
   split at h1
   ·rename_i he;rw [if_pos he];exact hQ _ _ _ _ h1 hR1
   ·rename_i he;rw [if_neg he];exact hQ _ _ _ _ h1 hR1
  | ret=>exact hQ _ _ _ _ h1 hR1
  | _=>exact h1.elim
 | loop b ih=>
  intro top ac h r htop n w0 N0 svv Q Q' σ a w hsv hQ hR hw
  simp only [mk,Option.map_eq_some_iff] at h
  obtain⟨ab,hb,rfl⟩:=h
  obtain⟨k,hk⟩:=hw
  refine wpIn_loop_rounds k ?_
  have key:∀ k σ a w,Rel w0 N0 nt svv σ a w->pL (wpA P E ab) (aj tl (mT b)) Q k σ->Code.roundsIn (Fw r) n P b Q' k a w:=by
   intro k
   induction k with
   | zero=>intro σ a w _ h;exact h.elim
   | succ k ihk=>
    intro σ a w hR h
    obtain⟨σ1,h1,h2⟩:=gM h
    rw [roundsIn_succ]
    refine ih top ab hb r htop n w0 N0 svv _ _ σ1 a w hsv (fun e σ2 a2 w2 h3 hR2=>?_) (hR.tidy h1) h2
    cases e with
    | normal=>exact ihk σ2 a2 w2 hR2 h3
    | exit id=>exact hQ _ _ _ _ h3 hR2
    | ret=>exact hQ _ _ _ _ h3 hR2
    | _=>exact h3.elim
  exact key k σ a w hR hk
 | rangeFunc g ps ca cb iha ihb=>
  intro top ac h r htop
  simp only [mk] at h
  split at h
  ·rename_i hcond
   simp only [Bool.and_eq_true] at hcond
   split at h
   ·rename_i x y hx hy
    simp only [Option.some.injEq] at h
    subst h
    rw [htop hcond.1,hcond.1]
    exact VE hE (fun p hp=>by simpa using List.all_eq_true.1 hcond.2 p hp) (fun l=>iha false x hx (some l) fun h=>by cases h) (fun l=>ihb false y hy (some l) fun h=>by cases h)
   ·cases h
  ·cases h
 | _=>intro top ac h;simp [mk] at h
def zh:au->Bool
 | .seq a b=>zh a && zh b
 | .cond _ a b=>zh a && zh b
 | .block _ b=>zh b
 | .loop _ b=>zh b
 | .rangeF ..=>false
 | _=>true
theorem Vo:∀ (c:Code) (ac:au),mk P nt tr tl true c=some ac->zh ac=true->mk P nt tr tl false c=some ac:=by
 intro c
 induction c with
 | skip=>intro ac h _;exact h
 | ret=>intro ac h _;exact h
 | exit id=>intro ac h _;exact h
 | region id ops d=>intro ac h _;exact h
 | seq a b iha ihb=>
  intro ac h hn
  simp only [mk] at h ⊢
  split at h
  ·rename_i x y hx hy
   simp only [Option.some.injEq] at h
   subst h
   simp only [zh,Bool.and_eq_true] at hn
   rw [iha x hx hn.1,ihb y hy hn.2]
  ·cases h
 | cond c a b iha ihb=>
  intro ac h hn
  simp only [mk] at h ⊢
  split at h
  ·rename_i x y hx hy
   simp only [Option.some.injEq] at h
   subst h
   simp only [zh,Bool.and_eq_true] at hn
   rw [iha x hx hn.1,ihb y hy hn.2]
  ·cases h
 | block id b ih=>
  intro ac h hn
  simp only [mk,Option.map_eq_some_iff] at h ⊢
  obtain⟨ab,hb,rfl⟩:=h
  exact⟨ab,ih ab hb hn,rfl⟩
 | loop b ih=>
  intro ac h hn
  simp only [mk,Option.map_eq_some_iff] at h ⊢
  obtain⟨ab,hb,rfl⟩:=h
  exact⟨ab,ih ab hb hn,rfl⟩
 | rangeFunc g ps ca cb iha ihb=>
  intro ac h hn
  simp only [mk] at h
  split at h
  ·split at h
   ·simp only [Option.some.injEq] at h
    subst h
    simp [zh] at hn
   ·cases h
  ·cases h
 | _=>intro ac h;simp [mk] at h
inductive dV where
 | tmp (t:Nat)
 | cell (t:Nat) (agg:Bool) (sz:Nat)
 | out (k:Nat)
def HU (σ:St):dV->Option AV
 | .tmp t=>some (evO σ.tmps (.tmp t))
 | .cell t agg sz=>match cE (evO σ.tmps (.tmp t)) with
  | some (.ptr n off)=>match aj σ.tab n with
   | some (.box cs)=>if off+sz<=cs.length then jz agg ((cs.drop off).take sz) else none
   | _=>none
  | _=>none
 | .out k=>match aj σ.sv k with
  | some x=>match (cE x).bind Q5 with
   | some (_,n,_)=>match aj σ.tab n with
    | some (.box cs)=>some (.val true cs)
    | _=>none
   | _=>none
  | none=>none
def gp (σ:St):List dV->Option (List AV)
 | []=>some []
 | x::r=>match HU σ x,gp σ r with
  | some y,some ys=>some (y::ys)
  | _,_=>none
def yt (T:Tab)(i:Nat):Nat->List C->List ((Nat × Nat) × Nat)
 | _,[]=>[]
 | j,c::r=>match c with
  | .ref n=>match aj T n with
   | some (.own _ _)=>((i,j),n)::yt T i (j+1) r
   | _=>yt T i (j+1) r
  | _=>yt T i (j+1) r
def Ev (T:Tab)(b:Bool)(cs:List C):Option Nat:=
 match b,cs with
 | false,[.ptr n _]=>match aj T n with
  | some (.box ds)=>match ds.mapM Ra with
   | some _=>some n
   | none=>none
  | _=>none
 | _,_=>none
def iR (T:Tab):Nat->List AV->List ((Nat × Nat) × Nat)
 | _,[]=>[]
 | i,x::r=>(match x with | .val b cs=>(match Ev T b cs with | some n=>[((i,0),n)] | none=>yt T i 0 cs) | .tup _=>[])++iR T (i+1) r
def jW (T:Tab)(c:C):Option (RC × List Nat):=
 match c with
 | .ref n=>match aj T n with
  | some (.own sz rows)=>some (.own sz rows,[])
  | some (.imm rows)=>some (.d (.sl rows),[n])
  | _=>none
 | c=>(dh T 4 c).map fun d=>(.d d,aX T 4 c)
def mR (T:Tab):List C->Option (List RC × List Nat)
 | []=>some ([],[])
 | c::r=>match jW T c,mR T r with
  | some (x,l),some (xs,ls)=>some (x::xs,l++ls)
  | _,_=>none
def abc (T:Tab)(b:Bool)(cs:List C):Option (List RC × List Nat):=
 match b,cs with
 | false,[.ptr n off]=>match aj T n with
  | some (.box ds)=>match ds.mapM Ra with
   | some l=>some ([.obj l off],[])
   | none=>mR T cs
  | _=>mR T cs
 | _,_=>mR T cs
def JT (T:Tab):List AV->Option (List RV × List Nat)
 | []=>some ([],[])
 | .val b cs::r=>match abc T b cs,JT T r with
  | some (x,l),some (xs,ls)=>some ((b,x)::xs,l++ls)
  | _,_=>none
 | .tup _::_=>none
def Td (l:List ((Nat × Nat) × Nat))(names:List Nat):Bool:=
 l.all fun p=>!inN names p.2 && l.all fun q=>!(p.2 == q.2) || (p.1.1 == q.1.1 && p.1.2 == q.1.2)
def Zo (names:List Nat):List (Nat × AV)->Bool
 | []=>true
 | p::r=>(match (cE p.2).bind Q5 with | some (_,n,_)=>!inN names n | _=>true) && Zo names r
def At (rs:List dV)(σ:St):Option (List RV):=
 match gp σ rs with
 | some avs=>match JT σ.tab avs with
  | some (res,names)=>if Td (iR σ.tab 0 avs) names && Zo (names++(iR σ.tab 0 avs).map (·.2)) σ.sv then some res else none
  | none=>none
 | none=>none
def gF (P:Program):List ResultVar->Option (List dV)
 | []=>some []
 | .tmp t::r=>(gF P r).map (.tmp t::·)
 | .cell t ty::r=>match P.underlying ty,bH P ty with
  | some d,some s=>(gF P r).map (.cell t (bX d) (if bX d then s else 1)::·)
  | _,_=>none
end Go.AM

namespace Go.AM
open Go.RowKit
variable {P:Program}{E:Env}{w0:fi P}{w w':World}{N0:Nat->Prop}{g g':Gh}{T T':Tab}{nt:Nat}{svv:Array Value}{a:Act}{σ σ':St}{tr tl:List (Nat × cH)}
def zr (tmps:Array Value):ResultVar->Sem Value
 | .tmp t=>pure (tmps.getD t undef)
 | .cell a t=>do loadVar t (<- asAddr (tmps.getD a undef))
theorem Zk (hM:Mem w0 N0 g σ.tab w)(hS:di w (am N0 g σ.tab) g σ.tab σ.tmps a.tmps):∀ (rv:ResultVar) (l:List ResultVar) (rs:List dV),gF P (rv::l)=some rs->∃ x r,rs=x::r/\gF P l=some r /\
  ∀ y,HU σ x=some y->∃ v,(zr a.tmps rv).run P w=.ok v w/\aJ w (am N0 g σ.tab) g σ.tab y v:=by
 intro rv l rs h
 cases rv with
 | tmp t=>
  simp only [gF,Option.map_eq_some_iff] at h
  obtain⟨r,h1,rfl⟩:=h
  refine⟨_,r,rfl,h1,fun y hy=>?_⟩
  simp only [HU,Option.some.injEq] at hy
  subst hy
  exact⟨_,rfl,iJ (a:=a) hS (.tmp t)⟩
 | cell t ty=>
  simp only [gF] at h
  split at h
  ·rename_i d s hu hs
   simp only [Option.map_eq_some_iff] at h
   obtain⟨r,h1,rfl⟩:=h
   refine⟨_,r,rfl,h1,fun y hy=>?_⟩
   simp only [HU] at hy
   split at hy
   ·rename_i m off hx
    obtain⟨_,b,hb,hv⟩:=aM (iJ (a:=a) hS (.tmp t)) hx
    have hv':a.tmps.getD t undef=.pointer (some ⟨b,off,none⟩):=hv
    generalize hk:(if bX d=true then s else 1)=k at hy
    split at hy
    ·rename_i cs hm
     split at hy
     ·rename_i hlen
      obtain⟨b',cells,t',h1',h2,h3,h4,h5⟩:=hM.box hm
      rw [hb] at h1'
      simp only [Option.some.injEq] at h1'
      subst h1'
      have hcell:∀ j c,((cs.drop off).take k)[j]?=some c->w.cell? ⟨b,off+j,none⟩=some ((cells[off+j]?).getD undef)/\cu w (am N0 g σ.tab) g σ.tab c ((cells[off+j]?).getD undef):=by
       intro j c hc
       obtain⟨hj,hc⟩:=getElem?_seg hc
       have hlt:off+j < cells.size:=by rw [h3];exact (List.getElem?_eq_some_iff.1 hc).1
       simp only [World.cell?,h2]
       refine⟨by simp [hlt],?_⟩
       have:=h4 (off+j) c cells[off+j] hc (by simp [hlt])
       simpa [hlt] using this
      simp only [zr,hv',asAddr]
      unfold jz at hy
      cases hd:bX d with
      | true=>
       simp only [hd,if_true] at hk
       subst hk
       simp only [hd,if_true,Option.some.injEq] at hy
       subst hy
       have hl:((cs.drop off).take s).length=s:=by simp;omega
       refine⟨.agg ((List.range s).map fun j=>(cells[off+j]?).getD undef).toArray,?_,?_⟩
       ·have:=G0 (P:=P) (w:=w) hu hd hs (fun j=>(cells[off+j]?).getD undef) (b:=b) (o:=off) (fun j hj=>(hcell j ((cs.drop off).take s)[j] (by rw [List.getElem?_eq_getElem])).1)
        simpa using this
       ·refine⟨_,rfl,by rw [hl];simp,fun i c x hc hx=>?_⟩
        have h1:=(hcell i c hc).2
        have hi:i < s:=by rw [<- hl];exact (List.getElem?_eq_some_iff.1 hc).1
        simp [hi] at hx
        rwa [<- hx]
      | false=>
       simp only [hd,Bool.false_eq_true,if_false] at hk
       subst hk
       simp only [hd,Bool.false_eq_true,if_false] at hy
       split at hy
       ·rename_i c hc
        simp only [Option.some.injEq] at hy
        subst hy
        obtain⟨h6,h7⟩:=hcell 0 c (by rw [hc];rfl)
        refine⟨_,?_,⟨c,rfl,h7⟩⟩
        have:=HZ (P:=P) (w:=w) hu hd (show w.cell? ⟨b,off,none⟩=some ((cells[off+0]?).getD undef) by simpa using h6)
        simpa using this
       ·cases hy
     ·cases hy
    ·cases hy
   ·cases hy
  ·cases h
theorem Da (hM:Mem w0 N0 g σ.tab w)(hS:di w (am N0 g σ.tab) g σ.tab σ.tmps a.tmps):∀ (l:List ResultVar) (rs:List dV) (ys:List AV),gF P l=some rs->gp σ rs=some ys ->
  ∃ vs:List Value,(l.mapM (zr a.tmps)).run P w=.ok vs w/\vs.length=ys.length/\∀ (i:Nat) (y:AV) (v:Value),ys[i]?=some y->vs[i]?=some v->aJ w (am N0 g σ.tab) g σ.tab y v
 | [],rs,ys,h,hy=>by
  simp only [gF,Option.some.injEq] at h
  subst h
  simp only [gp,Option.some.injEq] at hy
  subst hy
  exact⟨[],rfl,rfl,fun i y v h=>by simp at h⟩
 | rv::l,rs,ys,h,hy=>by
  obtain⟨x,r,rfl,h1,h2⟩:=Zk (P:=P) hM hS rv l rs h
  simp only [gp] at hy
  split at hy
  ·rename_i y ys' hy1 hy2
   simp only [Option.some.injEq] at hy
   subst hy
   obtain⟨v,hv,hr⟩:=h2 y hy1
   obtain⟨vs,hvs,hl,hrs⟩:=Da hM hS l r ys' h1 hy2
   refine⟨v::vs,?_,by simp [hl],fun i y' v' hi hv'=>?_⟩
   ·rw [List.mapM_cons]
    simp [Sem.run_bind,hv,hvs]
   ·cases i with
    | zero=>simp at hi hv';subst hi;subst hv';exact hr
    | succ i=>exact hrs i y' v' (by simpa using hi) (by simpa using hv')
  ·cases hy
theorem GD {fn:Func}{tmps:Array Value}{vs:List Value}(h:(fn.results.toList.mapM (zr tmps)).run P w=.ok vs w) :
  (results fn tmps).run P w=.ok (if h:vs.toArray.size=1 then vs.toArray[0] else .tuple vs.toArray) w:=by
 have e:results fn tmps=(do let vs <- fn.results.mapM (zr tmps);pure (if h:vs.size=1 then vs[0] else .tuple vs)):=by
  unfold results
  congr 1
 rw [e,Sem.run_bind,Array.mapM_eq_mapM_toList,Sem.run_map,h]
 rfl
theorem Rz {b:Bool}{cs:List C}{n:Nat}(h:Ev T b cs=some n):∃ off ds l,b=false/\cs=[.ptr n off]/\aj T n=some (.box ds)/\ds.mapM Ra=some l:=by
 unfold Ev at h
 split at h
 ·split at h
  ·rename_i ds hT
   split at h
   ·rename_i l hl
    simp only [Option.some.injEq] at h
    subst h
    exact⟨_,ds,l,rfl,rfl,hT,hl⟩
   ·cases h
  ·cases h
 ·cases h
theorem Sw {b:Bool}{cs:List C}{xs:List RC}{l':List Nat}(h:abc T b cs=some (xs,l')) :
  (∃ n off ds l,b=false/\cs=[.ptr n off]/\aj T n=some (.box ds)/\ds.mapM Ra=some l/\xs=[.obj l off]/\Ev T b cs=some n)\/(Ev T b cs=none/\mR T cs=some (xs,l')):=by
 unfold abc at h
 unfold Ev
 split at h
 ·rename_i n off
  split at h
  ·rename_i ds hT
   split at h
   ·rename_i l hl
    simp only [Option.some.injEq,Prod.mk.injEq] at h
    exact .inl ⟨n,off,ds,l,rfl,rfl,hT,hl,h.1.symm,rfl⟩
   ·rename_i hl
    exact .inr ⟨rfl,h⟩
  ·rename_i hT
   exact .inr ⟨rfl,h⟩
 ·rename_i hne
  exact .inr ⟨rfl,h⟩
def lV (g:Gh)(T:Tab)(avs:List AV)(i j:Nat):Option Nat:=
 match avs[i]? with
 | some (.val b cs)=>match Ev T b cs with
  | some n=>match j with
   | 0=>g.blk n
   | _+1=>none
  | none=>match cs[j]? with
   | some (.ref n)=>match aj T n with
    | some (.own _ _)=>g.blk n
    | _=>none
   | _=>none
 | _=>none
theorem BZ {i:Nat}:∀ {cs:List C} {j k n s:Nat} {rows:List (List DC)},cs[k]?=some (.ref n)->aj T n=some (.own s rows)->((i,j+k),n) ∈ yt T i j cs
 | [],j,k,n,s,rows,h,_=>by simp at h
 | c::r,j,0,n,s,rows,h,ho=>by
  simp only [List.getElem?_cons_zero,Option.some.injEq] at h
  subst h
  simp [yt,ho]
 | c::r,j,k+1,n,s,rows,h,ho=>by
  have:=BZ (i:=i) (j:=j+1) (cs:=r) (k:=k) (by simpa using h) ho
  rw [show j+1+k=j+(k+1) by omega] at this
  simp only [yt]
  split
  ·split
   ·exact List.mem_cons_of_mem _ this
   ·exact this
  ·exact this
theorem BU:∀ {avs:List AV} {i k j n s:Nat} {b:Bool} {cs:List C} {rows:List (List DC)},avs[k]?=some (.val b cs)->Ev T b cs=none->cs[j]?=some (.ref n)->aj T n=some (.own s rows)->((i+k,j),n) ∈ iR T i avs
 | [],i,k,j,n,s,b,cs,rows,h,_,_,_=>by simp at h
 | x::r,i,0,j,n,s,b,cs,rows,h,hb,hc,ho=>by
  simp only [List.getElem?_cons_zero,Option.some.injEq] at h
  subst h
  have:=BZ (T:=T) (i:=i) (j:=0) hc ho
  simp only [iR,List.mem_append,hb]
  exact .inl (by simpa using this)
 | x::r,i,k+1,j,n,s,b,cs,rows,h,hb,hc,ho=>by
  have:=BU (i:=i+1) (avs:=r) (k:=k) (by simpa using h) hb hc ho
  rw [show i+1+k=i+(k+1) by omega] at this
  simp only [iR,List.mem_append]
  exact .inr this
theorem C4:∀ {avs:List AV} {i k n:Nat} {b:Bool} {cs:List C},avs[k]?=some (.val b cs)->Ev T b cs=some n->((i+k,0),n) ∈ iR T i avs
 | [],i,k,n,b,cs,h,_=>by simp at h
 | x::r,i,0,n,b,cs,h,hb=>by
  simp only [List.getElem?_cons_zero,Option.some.injEq] at h
  subst h
  simp only [iR,List.mem_append,hb]
  exact .inl (by simp)
 | x::r,i,k+1,n,b,cs,h,hb=>by
  have:=C4 (i:=i+1) (avs:=r) (k:=k) (by simpa using h) hb
  rw [show i+1+k=i+(k+1) by omega] at this
  simp only [iR,List.mem_append]
  exact .inr this
theorem wx:∀ {cs:List C} {xs:List RC} {l:List Nat},mR T cs=some (xs,l)->xs.length=cs.length/\∀ (i:Nat) (c:C),cs[i]?=some c->∃ x l',xs[i]?=some x/\jW T c=some (x,l')/\∀ m ∈ l',m ∈ l
 | [],xs,l,h=>by simp only [mR,Option.some.injEq,Prod.mk.injEq] at h;obtain⟨rfl,rfl⟩:=h;simp
 | c::r,xs,l,h=>by
  simp only [mR] at h
  split at h
  ·rename_i x l1 xs' l2 h1 h2
   simp only [Option.some.injEq,Prod.mk.injEq] at h
   obtain⟨rfl,rfl⟩:=h
   obtain⟨h3,h4⟩:=wx h2
   refine⟨by simp [h3],fun i c' hc=>?_⟩
   cases i with
   | zero=>simp at hc;subst hc;exact⟨x,l1,rfl,h1,fun m hm=>List.mem_append_left _ hm⟩
   | succ i=>
    obtain⟨y,l',hy,hc',hl⟩:=h4 i c' (by simpa using hc)
    exact⟨y,l',by simpa using hy,hc',fun m hm=>List.mem_append_right _ (hl m hm)⟩
  ·cases h
theorem C3:∀ {avs:List AV} {res:List RV} {l:List Nat},JT T avs=some (res,l)->res.length=avs.length/\∀ (i:Nat) (x:AV),avs[i]?=some x->∃ b cs xs l',x=.val b cs/\res[i]?=some (b,xs)/\abc T b cs=some (xs,l')/\∀ m ∈ l',m ∈ l
 | [],res,l,h=>by simp only [JT,Option.some.injEq,Prod.mk.injEq] at h;obtain⟨rfl,rfl⟩:=h;simp
 | .val b cs::r,res,l,h=>by
  simp only [JT] at h
  split at h
  ·rename_i x l1 xs' l2 h1 h2
   simp only [Option.some.injEq,Prod.mk.injEq] at h
   obtain⟨rfl,rfl⟩:=h
   obtain⟨h3,h4⟩:=C3 h2
   refine⟨by simp [h3],fun i c' hc=>?_⟩
   cases i with
   | zero=>simp at hc;subst hc;exact⟨b,cs,x,l1,rfl,rfl,h1,fun m hm=>List.mem_append_left _ hm⟩
   | succ i=>
    obtain⟨b',cs',y,l',h5,hy,hc',hl⟩:=h4 i c' (by simpa using hc)
    exact⟨b',cs',y,l',h5,by simpa using hy,hc',fun m hm=>List.mem_append_right _ (hl m hm)⟩
  ·cases h
 | .tup _::r,res,l,h=>by simp [JT] at h
theorem R0 {wb:World}{bs:List Nat}{is:List (Option Nat)}{N:Nat->Prop}{us:List Value}{hlb:dZ P wb}{hgb:∀ b,gbP P b->¬ (b ∈ gE bs is)}(hM:Mem ⟨wb,fun b=>b ∈ gE bs is,hlb,hgb⟩ N0 g σ.tab w){avs:List AV}{vs:List Value}{res:List RV}{names:List Nat}(hl:(vs++us).length=avs.length)
  (hr:∀ (i:Nat) (y:AV) (v:Value),avs[i]?=some y->(vs++us)[i]?=some v->aJ w (am N0 g σ.tab) g σ.tab y v)
  (ha:JT σ.tab avs=some (res,names)) (ho:Td (iR σ.tab 0 avs) names=true)
  (hbs:∀ b ∈ bs,∃ n cs,aj σ.tab n=some (.box cs)/\g.blk n=some b/\n ∉ names++(iR σ.tab 0 avs).map (·.2)) (hNb:∀ b,N b->N0 b\/b ∈ gE bs is) :
  xd wb N is res us (if h:vs.toArray.size=1 then vs.toArray[0] else .tuple vs.toArray) w:=by
 obtain⟨h1,h2⟩:=C3 ha
 have hown:∀ (i j b:Nat),lV g σ.tab avs i j=some b->∃ n,live σ.tab n/\g.blk n=some b/\((i,j),n) ∈ iR σ.tab 0 avs:=by
  intro i j b hb
  unfold lV at hb
  split at hb
  ·rename_i bb cs hi
   split at hb
   ·rename_i n hob
    split at hb
    ·obtain⟨off,ds,l,_,_,hT,_⟩:=Rz hob
     exact⟨n,by unfold live;rw [hT];trivial,hb,by have:=C4 (T:=σ.tab) (i:=0) hi hob;simpa using this⟩
    ·cases hb
   ·rename_i hob
    split at hb
    ·rename_i n hj
     split at hb
     ·rename_i s rows hn
      exact⟨n,by unfold live;rw [hn];trivial,hb,by have:=BU (T:=σ.tab) (i:=0) hi hob hj hn;simpa using this⟩
     ·cases hb
    ·cases hb
  ·cases hb
 have hok:∀ p ∈ iR σ.tab 0 avs,p.2 ∉ names/\∀ q ∈ iR σ.tab 0 avs,p.2=q.2->p.1=q.1:=by
  intro p hp
  have:=List.all_eq_true.1 ho p hp
  simp only [Bool.and_eq_true,Bool.not_eq_true'] at this
  refine⟨fun hx=>by rw [FL.2 hx] at this;exact absurd this.1 (by simp),fun q hq he=>?_⟩
  have:=List.all_eq_true.1 this.2 q hq
  simp only [he,beq_self_eq_true,Bool.not_true,Bool.false_or,Bool.and_eq_true,beq_iff_eq] at this
  exact Prod.ext this.1 this.2
 have hNb':∀ b,N b/\some b ∉ is->N0 b\/b ∈ bs:=fun b hb=>(hNb b hb.1).imp id fun h=>by
  unfold gE at h
  rcases List.mem_append.1 h with h | h
  ·exact h
  ·exact absurd (by simpa using h) hb.2
 have hbs':∀ b ∈ bs,∃ n cs,aj σ.tab n=some (.box cs)/\g.blk n=some b/\n ∉ names:=fun b hb=>by
  obtain⟨n,cs,h5,h6,h7⟩:=hbs b hb
  exact⟨n,cs,h5,h6,fun h=>h7 (List.mem_append_left _ h)⟩
 refine⟨vs.toArray,lV g σ.tab avs,rfl,by rw [h1,<- hl],fun i x u hx hu=>?_,fun i j b hb=>?_,fun i j i' j' b hb hb'=>?_⟩
 ·have hi:i < avs.length:=by rw [<- h1];exact (List.getElem?_eq_some_iff.1 hx).1
  obtain⟨b,cs,xs,l',hav,hres,hcs0,hsub⟩:=h2 i avs[i] (by simp [hi])
  rw [hx] at hres
  simp only [Option.some.injEq] at hres
  subst hres
  have hai:avs[i]?=some (.val b cs):=by rw [<- hav];simp [hi]
  have hrel:=hr i _ u hai hu
  have hN:∀ b',((N b'/\some b' ∉ is)\/∃ i j,lV g σ.tab avs i j=some b')->am N0 g σ.tab b':=by
   rintro b' (h | ⟨i',j',h⟩)
   ·rcases hNb' b' h with h | h
    ·exact .inl h
    ·obtain⟨n,cs',h5,h6,_⟩:=hbs' b' h
     exact .inr ⟨n,by unfold live;rw [h5];trivial,h6⟩
   ·obtain⟨n,hl,hb,_⟩:=hown i' j' b' h
    exact .inr ⟨n,hl,hb⟩
  have hNd:∀ b',((N b'/\some b' ∉ is)\/∃ i j,lV g σ.tab avs i j=some b')->cZ N0 g σ.tab names b':=by
   rintro b' (h | ⟨i',j',h⟩)
   ·rcases hNb' b' h with h | h
    ·exact .inl h
    ·obtain⟨n,cs',h5,h6,h7⟩:=hbs' b' h
     exact .inr ⟨n,h7,by unfold live;rw [h5];trivial,h6⟩
   ·obtain⟨n,hl,hb,hm⟩:=hown i' j' b' h
    exact .inr ⟨n,(hok _ hm).1,hl,hb⟩
  rcases Sw hcs0 with ⟨n,off,ds,l,rfl,rfl,hT,hl,rfl,hob⟩ | ⟨hob,hcs⟩
  ·obtain⟨c,e1,e2⟩:=hrel
   simp only [List.cons.injEq,and_true] at e1
   subst e1
   obtain⟨_,b,hb,hv⟩:=e2
   obtain⟨b',cells,t,k1,k2,k3,k4,_⟩:=hM.box hT
   rw [hb] at k1
   simp only [Option.some.injEq] at k1
   subst k1
   obtain⟨m1,m2⟩:=iQ hl
   refine⟨_,rfl,b,cells,t,?_,hv,k2,by rw [k3,m1],fun j d x hd hx=>?_⟩
   ·simp only [lV,hai,hob,hb]
   ·obtain⟨c,hc,hcd⟩:=tE hl hd
    exact (adm (k4 j c x hc hx) hcd).less hN
  obtain⟨h3,h4⟩:=wx hcs
  have cell:∀ (j:Nat) (c:C) (v:Value),cs[j]?=some c->cu w (am N0 g σ.tab) g σ.tab c v->∃ x',xs[j]?=some x'/\jh w (fun b'=>(N b'/\some b' ∉ is)\/∃ i j,lV g σ.tab avs i j=some b') (lV g σ.tab avs i j) x' v:=by
   intro j c v hc hv
   obtain⟨x',l1,hx',hcr,hl1⟩:=h4 j c hc
   refine⟨x',hx',?_⟩
   have hdata:∀ d,dh σ.tab 4 c=some d->x'=.d d->(∀ m ∈ aX σ.tab 4 c,m ∈ l1)->jh w (fun b'=>(N b'/\some b' ∉ is)\/∃ i j,lV g σ.tab avs i j=some b') (lV g σ.tab avs i j) x' v:=by
    intro d hd he hnm
    subst he
    exact (qZ hM (names:=names) 4 hv hd fun m hm=>hsub m (hl1 m (hnm m hm))).less hNd
   cases c with
   | ref n=>
    simp only [jW] at hcr
    split at hcr
    ·rename_i s rows hn
     simp only [Option.some.injEq,Prod.mk.injEq] at hcr
     obtain⟨rfl,rfl⟩:=hcr
     have hb:lV g σ.tab avs i j=g.blk n:=by simp only [lV,hai,hob,hc,hn]
     rw [hb]
     obtain⟨_,hvv,_⟩:=hv
     have:=(hM.ents n _ hn).1
     rw [hvv]
     rcases this with x | ⟨b',off,cap,cells,t,fz,e1,e2,e3,e4,e5,e6,e7,e8,e9,e10⟩
     ·exact .inl x
     ·exact .inr ⟨b',off,cap,cells,t,fz,e1,e2,e3,e4,e5,e6,e7,e8,e9,fun i j r d hr hd=>by
       obtain⟨c,hc,hx⟩:=e10 i j r d hr hd
       exact⟨c,hc,hx.less hN⟩⟩
    ·rename_i rows hn
     simp only [Option.some.injEq,Prod.mk.injEq] at hcr
     obtain⟨rfl,rfl⟩:=hcr
     exact hdata _ (by simp [dh,hn]) rfl (fun m hm=>by simpa [aX] using hm)
    ·cases hcr
   | d y=>
    simp only [jW,Option.map_eq_some_iff,Prod.mk.injEq] at hcr
    obtain⟨d,hd,rfl,rfl⟩:=hcr
    exact hdata d hd rfl fun m hm=>hm
   | nils=>
    simp only [jW,Option.map_eq_some_iff,Prod.mk.injEq] at hcr
    obtain⟨d,hd,rfl,rfl⟩:=hcr
    exact hdata d hd rfl fun m hm=>hm
   | und=>simp [jW,dh] at hcr
   | unk=>simp [jW,dh] at hcr
   | yld l=>simp [jW,dh] at hcr
   | sub n lo hi=>simp [jW,dh] at hcr
   | psl l=>simp [jW,dh] at hcr
   | pptr m off=>simp [jW,dh] at hcr
   | ptr m off=>
    simp only [jW,Option.map_eq_some_iff,Prod.mk.injEq] at hcr
    obtain⟨d,hd,rfl,rfl⟩:=hcr
    exact hdata d hd rfl fun m hm=>hm
   | eptr m k off=>
    simp only [jW,Option.map_eq_some_iff,Prod.mk.injEq] at hcr
    obtain⟨d,hd,rfl,rfl⟩:=hcr
    exact hdata d hd rfl fun m hm=>hm
   | fn f caps=>
    simp only [jW,Option.map_eq_some_iff,Prod.mk.injEq] at hcr
    obtain⟨d,hd,rfl,rfl⟩:=hcr
    exact hdata d hd rfl fun m hm=>hm
  cases b with
  | true=>
   obtain⟨ys,e1,e2,e3⟩:=hrel
   refine⟨ys,e1,by rw [h3];exact e2,fun j x' v hxj hv=>?_⟩
   have hj:j < cs.length:=by rw [<- h3];exact (List.getElem?_eq_some_iff.1 hxj).1
   obtain⟨x'',hx'',hrc⟩:=cell j cs[j] v (by simp [hj]) (e3 j cs[j] v (by simp [hj]) hv)
   rw [hxj] at hx''
   simp only [Option.some.injEq] at hx''
   subst hx''
   exact hrc
  | false=>
   obtain⟨c,e1,e2⟩:=hrel
   subst e1
   obtain⟨x'',hx'',hrc⟩:=cell 0 c u rfl e2
   refine⟨x'',?_,hrc⟩
   cases xs with
   | nil=>simp at hx''
   | cons y ys=>
    simp only [List.length_cons,List.length_nil,Nat.add_eq_right,List.length_eq_zero_iff] at h3
    subst h3
    simp at hx''
    subst hx''
    rfl
 ·obtain⟨n,hl,hbn,hm⟩:=hown i j b hb
  have:=hM.rng n b hl hbn
  refine⟨this.1.imp id fun h=>?_,this.2⟩
  unfold gE at h
  rcases List.mem_append.1 h with h | h
  ·obtain⟨n',cs',h5,h6,h7⟩:=hbs b h
   have:=hM.inj n n' b hl (by unfold live;rw [h5];trivial) hbn h6
   subst this
   exact absurd (List.mem_append_right _ (List.mem_map.2 ⟨_,hm,rfl⟩)) h7
  ·simpa using h
 ·obtain⟨n,hl,hbn,hm⟩:=hown i j b hb
  obtain⟨n',hl',hbn',hm'⟩:=hown i' j' b hb'
  have:=hM.inj n n' b hl hl' hbn hbn'
  have:=(hok _ hm).2 _ hm' this
  simpa using this
def mN (k:Nat):Nat:=500000000+1001*k
def mI (k j:Nat):Nat:=500000001+1001*k+j
def U8:Nat->List DV->List (Nat × AV)
 | _,[]=>[]
 | k,d::r=>(k,match bY d with | none=>.val d.1 (d.2.map .d) | some p=>.val false [mC d.1 (mN k) p.2])::U8 (k+1) r
def wD (k:Nat):Nat->List DC->List C
 | _,[]=>[]
 | j,d::r=>(match fg d with | none=>(match GH d with | true=>.nils | false=>.d d) | some _=>.ref (mI k j))::wD k (j+1) r
def AJ (k:Nat):Nat->List DC->Tab
 | _,[]=>[]
 | j,d::r=>match fg d with
  | none=>AJ k (j+1) r
  | some p=>(mI k j,.own p.1 p.2)::AJ k (j+1) r
def hZ:Nat->List DV->Tab
 | _,[]=>[]
 | k,d::r=>match bY d with
  | none=>hZ (k+1) r
  | some p=>(mN k,.box (wD k 0 p.1))::(AJ k 0 p.1++hZ (k+1) r)
def l6:Nat->List DV->List (Nat × AV)
 | _,[]=>[]
 | k,d::r=>match bY d with
  | none=>l6 (k+1) r
  | some p=>(k,.val false [mC d.1 (mN k) p.2])::l6 (k+1) r
def gx:Nat->List DV->List dV
 | _,[]=>[]
 | k,d::r=>match bY d with
  | none=>gx (k+1) r
  | some _=>.out k::gx (k+1) r
def zX (ds:List DV):St:=⟨U8 0 ds,hZ 0 ds,l6 0 ds⟩
def ko:List DV->Bool
 | []=>true
 | d::r=>(match bY d with | none=>true | some p=>decide (p.1.length<=1000)) && ko r
def Xx (ds:List DV)(ac:au):Bool:=match l6 0 ds with
 | []=>true
 | _=>zh ac && ko ds
theorem B0:∀ (ds:List DV) (k t:Nat) (x:AV),aj (U8 k ds) t=some x->∃ i d,t=k+i/\ds[i]?=some d/\x=match bY d with | none=>.val d.1 (d.2.map .d) | some p=>.val false [mC d.1 (mN (k+i)) p.2]
 | [],k,t,x,h=>by simp [U8,aj] at h
 | d::r,k,t,x,h=>by
  simp only [U8,aj] at h
  split at h
  ·rename_i hk
   simp only [Option.some.injEq] at h
   exact⟨0,d,by omega,rfl,h.symm⟩
  ·obtain⟨i,d',h1,h2,h3⟩:=B0 r (k+1) t x h
   exact⟨i+1,d',by omega,by simpa using h2,by rw [show k+(i+1)=k+1+i by omega];exact h3⟩
theorem np {α:Type}:∀ (l m:List (Nat × α)) (n:Nat),aj (l++m) n=match aj l n with | some x=>some x | none=>aj m n
 | [],_,_=>rfl
 | (k,x)::r,m,n=>by
  simp only [List.cons_append,aj]
  split
  ·rfl
  ·exact np r m n
theorem oX {k:Nat}:∀ (cs:List DC) (j n:Nat) (e:aD),aj (AJ k j cs) n=some e->∃ i d p,n=mI k (j+i)/\cs[i]?=some d/\fg d=some p/\e=.own p.1 p.2
 | [],j,n,e,h=>by simp [AJ,aj] at h
 | d::r,j,n,e,h=>by
  simp only [AJ] at h
  split at h
  ·obtain⟨i,d',p,h1,h2,h3,h4⟩:=oX r (j+1) n e h
   exact⟨i+1,d',p,by rw [show j+(i+1)=j+1+i by omega];exact h1,by simpa using h2,h3,h4⟩
  ·rename_i p hp
   simp only [aj] at h
   split at h
   ·rename_i hk
    simp only [Option.some.injEq] at h
    exact⟨0,d,p,hk.symm,rfl,hp,h.symm⟩
   ·obtain⟨i,d',p,h1,h2,h3,h4⟩:=oX r (j+1) n e h
    exact⟨i+1,d',p,by rw [show j+(i+1)=j+1+i by omega];exact h1,by simpa using h2,h3,h4⟩
theorem GI {k:Nat}:∀ (cs:List DC) (j i:Nat) (d:DC) (p:Nat × List (List DC)),cs[i]?=some d->fg d=some p->aj (AJ k j cs) (mI k (j+i))=some (.own p.1 p.2)
 | [],j,i,d,p,h,_=>by simp at h
 | d0::r,j,0,d,p,h,hp=>by
  simp only [List.getElem?_cons_zero,Option.some.injEq] at h
  subst h
  simp only [AJ,hp,aj,Nat.add_zero,if_true]
 | d0::r,j,i+1,d,p,h,hp=>by
  have ih:=GI (k:=k) r (j+1) i d p (by simpa using h) hp
  rw [show j+1+i=j+(i+1) by omega] at ih
  simp only [AJ]
  split
  ·exact ih
  ·simp only [aj]
   rw [if_neg (by simp only [mI];omega)]
   exact ih
theorem AZ {k:Nat}:∀ (cs:List DC) (j i:Nat) (c:C),(wD k j cs)[i]?=some c->∃ d,cs[i]?=some d/\c=match fg d with | none=>(match GH d with | true=>.nils | false=>.d d) | some _=>.ref (mI k (j+i))
 | [],j,i,c,h=>by simp [wD] at h
 | d::r,j,0,c,h=>by
  simp only [wD,List.getElem?_cons_zero,Option.some.injEq] at h
  exact⟨d,rfl,h.symm⟩
 | d::r,j,i+1,c,h=>by
  simp only [wD,List.getElem?_cons_succ] at h
  obtain⟨d',h1,h2⟩:=AZ r (j+1) i c h
  exact⟨d',by simpa using h1,by rw [show j+(i+1)=j+1+i by omega];exact h2⟩
theorem Hw {k:Nat}:∀ (cs:List DC) (j:Nat),(wD k j cs).length=cs.length
 | [],_=>rfl
 | d::r,j=>by simp [wD,Hw r (j+1)]
theorem Dr:∀ (ds:List DV) (k n:Nat) (e:aD),aj (hZ k ds) n=some e->∃ i d p,ds[i]?=some d/\bY d=some p /\
  ((n=mN (k+i)/\e=.box (wD (k+i) 0 p.1))\/∃ j c q,n=mI (k+i) j/\p.1[j]?=some c/\fg c=some q/\e=.own q.1 q.2)
 | [],k,t,x,h=>by simp [hZ,aj] at h
 | d::r,k,n,e,h=>by
  have next:aj (hZ (k+1) r) n=some e->∃ i d',∃ p,(d::r)[i]?=some d'/\bY d'=some p /\
    ((n=mN (k+i)/\e=.box (wD (k+i) 0 p.1))\/∃ j c q,n=mI (k+i) j/\p.1[j]?=some c/\fg c=some q/\e=.own q.1 q.2):=fun h=>by
   obtain⟨i,d',p,h1,h2,h3⟩:=Dr r (k+1) n e h
   exact⟨i+1,d',p,by simpa using h1,h2,by rw [show k+(i+1)=k+1+i by omega];exact h3⟩
  simp only [hZ] at h
  split at h
  ·exact next h
  ·rename_i p hp
   simp only [aj] at h
   split at h
   ·rename_i hk
    simp only [Option.some.injEq] at h
    exact⟨0,d,p,rfl,hp,.inl ⟨hk.symm,h.symm⟩⟩
   ·rw [np] at h
    split at h
    ·rename_i x hx
     simp only [Option.some.injEq] at h
     subst h
     obtain⟨i,c,q,h1,h2,h3,h4⟩:=oX _ _ _ _ hx
     exact⟨0,d,p,rfl,hp,.inr ⟨i,c,q,by rw [Nat.zero_add] at h1;exact h1,h2,h3,h4⟩⟩
    ·exact next h
theorem Dw {k j n:Nat}{cs:List DC}(h:∀ i,i < cs.length->n ≠ mI k (j+i)):aj (AJ k j cs) n=none:=by
 cases hq:aj (AJ k j cs) n with
 | none=>rfl
 | some e=>
  obtain⟨i,d,p,h1,h2,_⟩:=oX _ _ _ _ hq
  exact absurd h1 (h i (List.getElem?_eq_some_iff.1 h2).1)
theorem A9:∀ (ds:List DV) (k i:Nat) (d:DV) (p:List DC × Nat),ko ds=true->ds[i]?=some d->bY d=some p ->
  aj (hZ k ds) (mN (k+i))=some (.box (wD (k+i) 0 p.1))/\∀ (j:Nat) (c:DC) (q:Nat × List (List DC)),p.1[j]?=some c->fg c=some q->aj (hZ k ds) (mI (k+i) j)=some (.own q.1 q.2)
 | [],k,i,d,p,_,h,_=>by simp at h
 | d0::r,k,0,d,p,hs,h,hp=>by
  simp only [List.getElem?_cons_zero,Option.some.injEq] at h
  subst h
  refine⟨by simp only [hZ,hp,aj,Nat.add_zero,if_true],fun j c q hc hq=>?_⟩
  simp only [hZ,hp,aj,Nat.add_zero]
  rw [if_neg (by simp only [mN,mI];omega),np]
  have:=GI (k:=k) p.1 0 j c q hc hq
  rw [Nat.zero_add] at this
  rw [this]
 | d0::r,k,i+1,d,p,hs,h,hp=>by
  simp only [ko,Bool.and_eq_true] at hs
  obtain⟨i1,i2⟩:=A9 r (k+1) i d p hs.2 (by simpa using h) hp
  rw [show k+1+i=k+(i+1) by omega] at i1 i2
  simp only [hZ]
  split
  ·exact⟨i1,i2⟩
  ·rename_i q0 hq0
   have hl:q0.1.length<=1000:=by have:=hs.1;rw [hq0] at this;simpa using this
   refine⟨?_,fun j c q hc hq=>?_⟩
   ·simp only [aj]
    rw [if_neg (by simp only [mN];omega),np,Dw (fun m hm=>by simp only [mN,mI];omega)]
    exact i1
   ·simp only [aj]
    rw [if_neg (by simp only [mN,mI];omega),np,Dw (fun m hm=>by simp only [mI];omega)]
    exact i2 j c q hc hq
theorem uz:∀ (ds:List DV) (k t:Nat) (x:AV),aj (l6 k ds) t=some x->∃ i d p,t=k+i/\ds[i]?=some d/\bY d=some p/\x=.val false [mC d.1 (mN (k+i)) p.2]
 | [],k,t,x,h=>by simp [l6,aj] at h
 | d::r,k,t,x,h=>by
  simp only [l6] at h
  split at h
  ·obtain⟨i,d',p,h1,h2,h3,h4⟩:=uz r (k+1) t x h
   exact⟨i+1,d',p,by omega,by simpa using h2,h3,by rw [show k+(i+1)=k+1+i by omega];exact h4⟩
  ·rename_i p hp
   simp only [aj] at h
   split at h
   ·rename_i hk
    simp only [Option.some.injEq] at h
    exact⟨0,d,p,by omega,rfl,hp,h.symm⟩
   ·obtain⟨i,d',p,h1,h2,h3,h4⟩:=uz r (k+1) t x h
    exact⟨i+1,d',p,by omega,by simpa using h2,h3,by rw [show k+(i+1)=k+1+i by omega];exact h4⟩
theorem H5:∀ {ds:List DV} {k:Nat},l6 k ds=[]->hZ k ds=[]
 | [],_,_=>rfl
 | d::r,k,h=>by
  simp only [l6] at h
  simp only [hZ]
  split at h
  ·exact H5 h
  ·cases h
theorem pM.av {N:Nat->Prop}{d:DV}{v:Value}(h:pM w N d v):aJ w N g T (.val d.1 (d.2.map .d)) v:=by
 obtain⟨b,cs⟩:=d
 cases b with
 | true=>
  obtain⟨xs,h1,h2,h3⟩:=h
  refine⟨xs,h1,by simpa using h2,fun i c x hc hx=>?_⟩
  rw [List.getElem?_map] at hc
  cases hq:cs[i]? with
  | none=>rw [hq] at hc;cases hc
  | some d=>
   rw [hq] at hc
   simp only [Option.map_some,Option.some.injEq] at hc
   subst hc
   exact h3 i d x hq hx
 | false=>
  obtain⟨d,h1,h2⟩:=h
  subst h1
  exact⟨.d d,rfl,h2⟩
def zv:Value->Option Nat
 | .slice (some a) _ _=>some a.block
 | _=>none
def ptV (w:World):Value->Value
 | .slice (some a) _ _=>(w.cell? a).getD undef
 | v=>v
theorem Rx.ptV {N:Nat->Prop}{sl:Bool}{b off:Nat}{v:Value}(h:Rx w N sl b off v):AM.ptV w v=.pointer (some ⟨b,off,none⟩):=by
 cases sl with
 | false=>rw [show v=_ from h];rfl
 | true=>
  obtain⟨h,_⟩:=h
  generalize hr:[[DC.pt b off]]=rows at h
  cases h with
  | nil=>cases hr
  | @sl _ b2 off2 cap sz f hne hN hb hsz hll hcap hc hdd=>
   subst hr
   have h1:=hc 0 0 (by simp) hsz
   have h2:=hdd 0 0 _ _ rfl rfl
   simp only [Nat.zero_mul,Nat.add_zero] at h1
   show (w.cell? ⟨b2,off2,none⟩).getD undef=_
   rw [h1]
   generalize f 0 0=y at h2
   cases h2
   rfl
theorem Rx.same {w':World}{N:Nat->Prop}{sl:Bool}{b off:Nat}{v:Value}(h:Rx w N sl b off v)(hw:∀ k,k < w.heap.size->¬ N k->w'.heap[k]?=w.heap[k]?):AM.ptV w' v=AM.ptV w v:=by
 cases sl with
 | false=>rw [show v=_ from h];rfl
 | true=>
  obtain⟨h,_⟩:=h
  generalize hr:[[DC.pt b off]]=rows at h
  cases h with
  | nil=>cases hr
  | @sl _ b2 off2 cap sz f hne hN hb hsz hll hcap hc hdd=>
   show (w'.cell? ⟨b2,off2,none⟩).getD undef=(w.cell? ⟨b2,off2,none⟩).getD undef
   unfold World.cell?
   rw [hw b2 hb hN]
def pX (w:World)(v:Value)(j:Nat):Value:=
 match ptV w v with
 | .pointer (some a)=>match w.heap[a.block]? with
  | some (.cells cells _ _)=>cells.getD j undef
  | _=>undef
 | _=>undef
def lH (w:World)(v:Value):Option Nat:=
 match ptV w v with
 | .pointer (some a)=>some a.block
 | _=>none
theorem lL.pb {N:Nat->Prop}{b:Nat}{sl:Bool}{cs:List DC}{off:Nat}{v:Value}{is:List (Option Nat)}(h:lL w N b sl cs off v is):lH w v=some b:=by
 unfold lH
 rw [h.2.1.ptV]
def gR (w:World)(d:DV)(v:Value)(j:Nat):Option Nat:=
 match bY d with
 | some p=>match p.1[j]? with
  | some c=>match fg c with
   | some _=>zv (pX w v j)
   | none=>none
  | none=>none
 | none=>none
theorem ci.blk {N:Nat->Prop}{sz:Nat}{rows:List (List DC)}{v:Value}{ob:Option Nat}(h:ci w N sz rows v ob):ob=zv v:=by
 rcases h with ⟨rfl,_,rfl⟩ | ⟨b,off,cap,cells,t,fz,rfl,rfl,_⟩ <;> rfl
theorem gn.get {N:Nat->Prop}:∀ {ds:List DC} {xs:List Value} {is:List (Option Nat)},gn w N ds xs is->ds.length=xs.length /\
  (∀ (j:Nat) (d:DC) (x:Value),ds[j]?=some d->xs[j]?=some x->fg d=none->if GH d=true then x=.slice none 0 0 else aH w N d x) /\
  (∀ (j:Nat) (d:DC) (x:Value) (p:Nat × List (List DC)),ds[j]?=some d->xs[j]?=some x->fg d=some p->ci w N p.1 p.2 x (zv x)/\∀ b,zv x=some b->N b/\some b ∈ is) /\
  ((is.filterMap id).Nodup->∀ (j j':Nat) (d d':DC) (x x':Value) (p p':Nat × List (List DC)) (b:Nat),ds[j]?=some d->ds[j']?=some d'->xs[j]?=some x->xs[j']?=some x'->fg d=some p->fg d'=some p'->zv x=some b->zv x'=some b->j=j')
 | [],[],is,h=>⟨rfl,by simp,by simp,by simp⟩
 | [],_::_,_,h=>h.elim
 | _::_,[],_,h=>h.elim
 | d::ds,x::xs,is,h=>by
  simp only [gn] at h
  split at h
  ·rename_i hd
   obtain⟨h1,h2,h3,h4⟩:=h.2.get
   refine⟨by simp [h1],fun j d' x' hj hx ho=>?_,fun j d' x' p hj hx ho=>?_,fun hnd j j' d1 d2 x1 x2 p p' b hj hj' hx hx' ho ho' hb hb'=>?_⟩
   ·cases j with
    | zero=>simp at hj hx;subst hj;subst hx;exact h.1
    | succ j=>exact h2 j d' x' (by simpa using hj) (by simpa using hx) ho
   ·cases j with
    | zero=>simp at hj;subst hj;rw [hd] at ho;cases ho
    | succ j=>exact h3 j d' x' p (by simpa using hj) (by simpa using hx) ho
   ·cases j with
    | zero=>simp at hj;subst hj;rw [hd] at ho;cases ho
    | succ j=>cases j' with
     | zero=>simp at hj';subst hj';rw [hd] at ho';cases ho'
     | succ j'=>rw [h4 hnd j j' d1 d2 x1 x2 p p' b (by simpa using hj) (by simpa using hj') (by simpa using hx) (by simpa using hx') ho ho' hb hb']
  ·rename_i q hd
   split at h
   ·rename_i ob is'
    obtain⟨s1,s2,s3⟩:=h
    obtain⟨h1,h2,h3,h4⟩:=s3.get
    have hob:=s1.blk
    refine⟨by simp [h1],fun j d' x' hj hx ho=>?_,fun j d' x' p hj hx ho=>?_,fun hnd j j' d1 d2 x1 x2 p p' b hj hj' hx hx' ho ho' hb hb'=>?_⟩
    ·cases j with
     | zero=>simp at hj;subst hj;rw [hd] at ho;cases ho
     | succ j=>exact h2 j d' x' (by simpa using hj) (by simpa using hx) ho
    ·cases j with
     | zero=>
      simp at hj hx;subst hj;subst hx
      rw [hd] at ho
      simp only [Option.some.injEq] at ho
      subst ho
      exact⟨hob ▸ s1,fun b hb=>⟨s2 b (by rw [hob,hb]),by rw [hob,hb];simp⟩⟩
     | succ j=>
      obtain⟨e1,e2⟩:=h3 j d' x' p (by simpa using hj) (by simpa using hx) ho
      exact⟨e1,fun b hb=>⟨(e2 b hb).1,List.mem_cons_of_mem _ (e2 b hb).2⟩⟩
    ·have hsub:(is'.filterMap id).Nodup/\∀ b,ob=some b->some b ∉ is':=by
      cases ob with
      | none=>exact⟨by simpa using hnd,nofun⟩
      | some b0=>
       simp only [List.filterMap_cons,id_eq] at hnd
       obtain⟨n1,n2⟩:=List.nodup_cons.1 hnd
       exact⟨n2,fun b hb hm=>by simp only [Option.some.injEq] at hb;subst hb;exact n1 (List.mem_filterMap.2 ⟨_,hm,rfl⟩)⟩
     cases j with
     | zero=>cases j' with
      | zero=>rfl
      | succ j'=>
       simp at hx;subst hx
       exact absurd ((h3 j' d2 x2 p' (by simpa using hj') (by simpa using hx') ho').2 b hb').2 (hsub.2 b (by rw [hob,hb]))
     | succ j=>cases j' with
      | zero=>
       simp at hx';subst hx'
       exact absurd ((h3 j d1 x1 p (by simpa using hj) (by simpa using hx) ho).2 b hb).2 (hsub.2 b (by rw [hob,hb']))
      | succ j'=>rw [h4 hsub.1 j j' d1 d2 x1 x2 p p' b (by simpa using hj) (by simpa using hj') (by simpa using hx) (by simpa using hx') ho ho' hb hb']
   ·exact h.elim
theorem lL.inn {N:Nat->Prop}{b:Nat}{d:DV}{p:List DC × Nat}{v:Value}{is:List (Option Nat)}(hd:bY d=some p)(h:lL w N b d.1 p.1 p.2 v is) :
  (∀ (j:Nat) (c:DC) (q:Nat × List (List DC)),p.1[j]?=some c->fg c=some q->ci w N q.1 q.2 (pX w v j) (gR w d v j))/\(∀ j b',gR w d v j=some b'->N b'/\some b' ∈ is) /\
  ((is.filterMap id).Nodup->∀ j j' b',gR w d v j=some b'->gR w d v j'=some b'->j=j'):=by
 obtain⟨_,hv,cells,t,hh,hc⟩:=h
 have hv:=hv.ptV
 obtain⟨h1,h2,h3,h4⟩:=hc.get
 have hcv:∀ j,j < p.1.length->cells.toList[j]?=some (pX w v j):=fun j hj=>by
  simp only [pX,hv,hh]
  rw [Array.getD_eq_getD_getElem?]
  have:j < cells.size:=by rw [h1] at hj;simpa using hj
  simp [this]
 have hin:∀ j b',gR w d v j=some b'->∃ c q,p.1[j]?=some c/\fg c=some q/\zv (pX w v j)=some b':=fun j b' hb=>by
  simp only [gR,hd] at hb
  split at hb
  ·rename_i c hc
   split at hb
   ·rename_i q hq;exact⟨c,q,hc,hq,hb⟩
   ·cases hb
  ·cases hb
 refine⟨fun j c q hj hq=>?_,fun j b' hb=>?_,fun hnd j j' b' hb hb'=>?_⟩
 ·have:=(h3 j c _ q hj (hcv j (List.getElem?_eq_some_iff.1 hj).1) hq).1
  simp only [gR,hd,hj,hq]
  exact this
 ·obtain⟨c,q,e1,e2,e3⟩:=hin j b' hb
  exact (h3 j c _ q e1 (hcv j (List.getElem?_eq_some_iff.1 e1).1) e2).2 b' e3
 ·obtain⟨c,q,e1,e2,e3⟩:=hin j b' hb
  obtain⟨c',q',k1,k2,k3⟩:=hin j' b' hb'
  exact h4 hnd j j' c c' _ _ q q' b' e1 k1 (hcv j (List.getElem?_eq_some_iff.1 e1).1) (hcv j' (List.getElem?_eq_some_iff.1 k1).1) e2 k2 e3 k3
theorem gn.allN {N:Nat->Prop}:∀ {ds:List DC} {xs:List Value} {is:List (Option Nat)},gn w N ds xs is->∀ b,some b ∈ is->N b
 | [],[],is,h,b,hb=>by rw [show is=[] from h] at hb;simp at hb
 | [],_::_,_,h,_,_=>h.elim
 | _::_,[],_,h,_,_=>h.elim
 | d::ds,x::xs,is,h,b,hb=>by
  simp only [gn] at h
  split at h
  ·exact h.2.allN b hb
  ·split at h
   ·rcases List.mem_cons.1 hb with rfl | hb
    ·exact h.2.1 b rfl
    ·exact h.2.2.allN b hb
   ·exact h.elim
theorem fw.allN1 {N:Nat->Prop}:∀ {ds:List DV} {vs:List Value} {bs:List Nat} {is:List (Option Nat)},fw w N ds vs bs is->(∀ b ∈ bs,N b)/\∀ b,some b ∈ is->N b
 | [],[],bs,is,h=>by obtain⟨rfl,rfl⟩:bs=[]/\is=[]:=h;simp
 | [],_::_,_,_,h=>h.elim
 | _::_,[],_,_,h=>h.elim
 | d::ds,v::vs,bs,is,h=>by
  simp only [fw] at h
  split at h
  ·exact h.2.allN1
  ·split at h
   ·obtain⟨i1,i2,rfl,hm,hr⟩:=h
    obtain⟨r1,r2⟩:=hr.allN1
    refine⟨fun b hb=>?_,fun b hb=>?_⟩
    ·rcases List.mem_cons.1 hb with rfl | hb
     ·exact hm.1
     ·exact r1 b hb
    ·rcases List.mem_append.1 hb with hb | hb
     ·obtain⟨_,_,_,_,_,hc⟩:=hm
      exact hc.allN b hb
     ·exact r2 b hb
   ·exact h.elim
theorem fw.allN {N:Nat->Prop}{ds:List DV}{vs:List Value}{bs:List Nat}{is:List (Option Nat)}(h:fw w N ds vs bs is):∀ b,b ∈ gE bs is->N b:=fun b hb=>by
 rcases List.mem_append.1 hb with hb | hb
 ·exact h.allN1.1 b hb
 ·obtain⟨o,ho,he⟩:=List.mem_filterMap.1 hb
  exact h.allN1.2 b (by rw [show o=some b from he] at ho;exact ho)
theorem fw.get {N:Nat->Prop}:∀ {ds:List DV} {vs:List Value} {bs:List Nat} {is:List (Option Nat)},fw w N ds vs bs is->ds.length=vs.length /\
  (∀ (k:Nat) (d:DV) (v:Value),ds[k]?=some d->vs[k]?=some v->bY d=none->pM w N d v) /\
  (∀ (k:Nat) (d:DV) (v:Value) (p:List DC × Nat),ds[k]?=some d->vs[k]?=some v->bY d=some p->∃ b ∈ bs,∃ i1,(∀ o ∈ i1,o ∈ is)/\((is.filterMap id).Nodup->(i1.filterMap id).Nodup)/\lL w N b d.1 p.1 p.2 v i1) /\
  (bs.Nodup->∀ (k k':Nat) (d d':DV) (p p':List DC × Nat) (v v':Value) (b:Nat),ds[k]?=some d->ds[k']?=some d'->bY d=some p->bY d'=some p'->vs[k]?=some v->vs[k']?=some v'->lH w v=some b->lH w v'=some b->k=k') /\
  ((is.filterMap id).Nodup->∀ (k k':Nat) (d d':DV) (v v':Value) (j j' b:Nat),ds[k]?=some d->ds[k']?=some d'->vs[k]?=some v->vs[k']?=some v'->gR w d v j=some b->gR w d' v' j'=some b->k=k'/\j=j')
 | [],[],bs,is,h=>⟨rfl,by simp,by simp,by simp,by simp⟩
 | [],_::_,_,_,h=>h.elim
 | _::_,[],_,_,h=>h.elim
 | d::ds,v::vs,bs,is,h=>by
  simp only [fw] at h
  split at h
  ·rename_i hd
   obtain⟨h1,h2,h3,h5,h6⟩:=h.2.get
   have hno:∀ j,gR w d v j=none:=fun j=>by simp only [gR,hd]
   refine⟨by simp [h1],fun k d' v' hk hv hm=>?_,fun k d' v' p hk hv hm=>?_,fun hnd k k' d1 d2 p p' v1 v2 b hk hk' hp hp' hv hv' hb hb'=>?_,fun hnd k k' d1 d2 v1 v2 j j' b hk hk' hv hv' hi hi'=>?_⟩
   ·cases k with
    | zero=>simp at hk hv;subst hk;subst hv;exact h.1
    | succ k=>exact h2 k d' v' (by simpa using hk) (by simpa using hv) hm
   ·cases k with
    | zero=>simp at hk;subst hk;rw [hd] at hm;cases hm
    | succ k=>exact h3 k d' v' p (by simpa using hk) (by simpa using hv) hm
   ·cases k with
    | zero=>simp at hk;subst hk;rw [hd] at hp;cases hp
    | succ k=>cases k' with
     | zero=>simp at hk';subst hk';rw [hd] at hp';cases hp'
     | succ k'=>rw [h5 hnd k k' d1 d2 p p' v1 v2 b (by simpa using hk) (by simpa using hk') hp hp' (by simpa using hv) (by simpa using hv') hb hb']
   ·cases k with
    | zero=>simp at hk hv;subst hk;subst hv;rw [hno] at hi;cases hi
    | succ k=>cases k' with
     | zero=>simp at hk' hv';subst hk';subst hv';rw [hno] at hi';cases hi'
     | succ k'=>
      obtain⟨e1,e2⟩:=h6 hnd k k' d1 d2 v1 v2 j j' b (by simpa using hk) (by simpa using hk') (by simpa using hv) (by simpa using hv') hi hi'
      exact⟨by rw [e1],e2⟩
  ·rename_i q hd
   split at h
   ·rename_i b0 bs'
    obtain⟨i1,i2,rfl,hm0,hrest⟩:=h
    obtain⟨h1,h2,h3,h5,h6⟩:=hrest.get
    obtain⟨m1,m2,m3⟩:=hm0.inn hd
    have hblock:∀ (k:Nat) (d':DV) (p:List DC × Nat) (v':Value) (b:Nat),ds[k]?=some d'->bY d'=some p->vs[k]?=some v'->lH w v'=some b->b ∈ bs':=fun k d' p v' b hk hp hv hb=>by
     obtain⟨b',hb',_,_,_,hm⟩:=h3 k d' _ p hk hv hp
     have:=hm.pb
     rw [hb] at this
     rw [Option.some.inj this];exact hb'
    have h0:∀ b,lH w v=some b->b=b0:=fun b hv=>by
     have:=hm0.pb
     rw [hv] at this
     exact Option.some.inj this
    have hi2:∀ (k:Nat) (d':DV) (v':Value) (j b:Nat),ds[k]?=some d'->vs[k]?=some v'->gR w d' v' j=some b->some b ∈ i2:=fun k d' v' j b hk hv hi=>by
     cases hm:bY d' with
     | none=>simp only [gR,hm] at hi;cases hi
     | some p=>
      obtain⟨b',_,i3,hi3,_,hmr⟩:=h3 k d' v' p hk hv hm
      exact hi3 _ ((hmr.inn hm).2.1 j b hi).2
    have hnd2:((i1++i2).filterMap id).Nodup->(i1.filterMap id).Nodup/\(i2.filterMap id).Nodup/\∀ b,some b ∈ i1->some b ∉ i2:=fun hnd=>by
     rw [List.filterMap_append] at hnd
     obtain⟨a1,a2,a3⟩:=List.nodup_append.1 hnd
     exact⟨a1,a2,fun b hb hb'=>a3 b (List.mem_filterMap.2 ⟨_,hb,rfl⟩) b (List.mem_filterMap.2 ⟨_,hb',rfl⟩) rfl⟩
    refine⟨by simp [h1],fun k d' v' hk hv hm=>?_,fun k d' v' p hk hv hm=>?_,fun hnd k k' d1 d2 p p' v1 v2 b hk hk' hp hp' hv hv' hb hb'=>?_,fun hnd k k' d1 d2 v1 v2 j j' b hk hk' hv hv' hi hi'=>?_⟩
    ·cases k with
     | zero=>simp at hk;subst hk;rw [hd] at hm;cases hm
     | succ k=>exact h2 k d' v' (by simpa using hk) (by simpa using hv) hm
    ·cases k with
     | zero=>
      simp at hk hv;subst hk;subst hv
      rw [hd] at hm
      simp only [Option.some.injEq] at hm
      subst hm
      exact⟨b0,by simp,i1,fun o ho=>List.mem_append_left _ ho,fun hnd=>(hnd2 hnd).1,hm0⟩
     | succ k=>
      obtain⟨b,hb,i3,e1,e2,e3⟩:=h3 k d' v' p (by simpa using hk) (by simpa using hv) hm
      exact⟨b,List.mem_cons_of_mem _ hb,i3,fun o ho=>List.mem_append_right _ (e1 o ho),fun hnd=>e2 (hnd2 hnd).2.1,e3⟩
    ·obtain⟨n1,n2⟩:=List.nodup_cons.1 hnd
     cases k with
     | zero=>cases k' with
      | zero=>rfl
      | succ k'=>
       simp at hv
       subst hv
       have:=hblock k' d2 p' v2 b (by simpa using hk') hp' (by simpa using hv') hb'
       rw [h0 b hb] at this
       exact absurd this n1
     | succ k=>cases k' with
      | zero=>
       simp at hv'
       subst hv'
       have:=hblock k d1 p v1 b (by simpa using hk) hp (by simpa using hv) hb
       rw [h0 b hb'] at this
       exact absurd this n1
      | succ k'=>rw [h5 n2 k k' d1 d2 p p' v1 v2 b (by simpa using hk) (by simpa using hk') hp hp' (by simpa using hv) (by simpa using hv') hb hb']
    ·obtain⟨n1,n2,n3⟩:=hnd2 hnd
     cases k with
     | zero=>
      simp at hk hv;subst hk;subst hv
      cases k' with
      | zero=>
       simp at hk' hv';subst hk';subst hv'
       exact⟨rfl,m3 n1 j j' b hi hi'⟩
      | succ k'=>exact absurd (hi2 k' d2 v2 j' b (by simpa using hk') (by simpa using hv') hi') (n3 b (m2 j b hi).2)
     | succ k=>
      cases k' with
      | zero=>
       simp at hk' hv';subst hk';subst hv'
       exact absurd (hi2 k d1 v1 j b (by simpa using hk) (by simpa using hv) hi) (n3 b (m2 j' b hi').2)
      | succ k'=>
       obtain⟨e1,e2⟩:=h6 n2 k k' d1 d2 v1 v2 j j' b (by simpa using hk) (by simpa using hk') (by simpa using hv) (by simpa using hv') hi hi'
       exact⟨by rw [e1],e2⟩
   ·exact h.elim
theorem Sa {N:Nat->Prop}{ds:List DV}{vs:Array Value}{bs:List Nat}{is:List (Option Nat)}{svv:Array Value}(hN:∀ b,N b->b < w.heap.size)(hnd:(gE bs is).Nodup)(h:fw w N ds vs.toList bs is)(hn:vs.size<=nt)
  (hsv:l6 0 ds=[]\/(svv=vs/\ko ds=true)) (hlb:dZ P w) (hgl:∀ b,gbP P b->¬ N b/\b ∉ gE bs is):Rel ⟨w,fun b=>b ∈ gE bs is,hlb,fun b hb=>(hgl b hb).2⟩ (fun b=>N b/\b ∉ gE bs is) nt svv (zX ds) { tmps:=vs++Array.replicate (nt - vs.size) undef,defers:=[] } w:=by
 obtain⟨h1,h2,h3,h5,h6⟩:=h.get
 have hnb:bs.Nodup/\(is.filterMap id).Nodup/\∀ b ∈ bs,some b ∉ is:=by
  obtain⟨a1,a2,a3⟩:=List.nodup_append.1 hnd
  exact⟨a1,a2,fun b hb hb'=>a3 b hb b (List.mem_filterMap.2 ⟨_,hb',rfl⟩) rfl⟩
 let kk:Nat->Nat:=fun n=>(n - 500000000) / 1001
 let rr:Nat->Nat:=fun n=>(n - 500000000) % 1001
 let dd:Nat->DV:=fun k=>ds.getD k (true,[])
 let g:Gh:=⟨fun n=>if rr n=0 then lH w (vs.getD (kk n) undef) else gR w (dd (kk n)) (vs.getD (kk n) undef) (rr n - 1),fun n=>pX w (vs.getD (kk n) undef) (rr n - 1),
  fun n=>match bY (dd (kk n)) with | some p=>(match p.1[rr n - 1]? with | some c=>(match fg c with | some q=>q.1 | none=>0) | none=>0) | none=>0⟩
 have hkN:∀ k,kk (mN k)=k/\rr (mN k)=0:=fun k=>by simp only [kk,rr,mN];omega
 have hkI:∀ k j,j < 1000->kk (mI k j)=k/\rr (mI k j)=j+1:=fun k j hj=>by simp only [kk,rr,mI];omega
 have hvg:∀ (i:Nat) (v:Value),vs[i]?=some v->vs.getD i undef=v:=fun i v hv=>by rw [Array.getD_eq_getD_getElem?,hv];rfl
 have hdg:∀ (i:Nat) (d:DV),ds[i]?=some d->dd i=d:=fun i d hd=>by simp [dd,hd]
 have hgb:∀ (i:Nat) (v:Value),vs[i]?=some v->g.blk (mN i)=lH w v:=fun i v hv=>by
  simp only [g,(hkN i).1,(hkN i).2,if_true,hvg i v hv]
 have hgi:∀ (i j:Nat) (d:DV) (v:Value),j < 1000->ds[i]?=some d->vs[i]?=some v->g.blk (mI i j)=gR w d v j/\g.sv (mI i j)=pX w v j:=fun i j d v hj hd hv=>by
  simp only [g,(hkI i j hj).1,(hkI i j hj).2,hvg i v hv,hdg i d hd]
  exact⟨by rw [if_neg (by omega)];rfl,rfl⟩
 have hlen:∀ (i:Nat) (d:DV) (p:List DC × Nat),hZ 0 ds ≠ []->ds[i]?=some d->bY d=some p->p.1.length<=1000:=fun i d p hne hd hp=>by
  rcases hsv with hsv | ⟨_,hs⟩
  ·exact absurd (H5 hsv) hne
  ·have key:∀ (l:List DV) (i:Nat),ko l=true->l[i]?=some d->p.1.length<=1000:=by
    intro l
    induction l with
    | nil=>intro i _ h;simp at h
    | cons x r ih=>
     intro i h hi
     simp only [ko,Bool.and_eq_true] at h
     cases i with
     | zero=>simp at hi;subst hi;have:=h.1;rw [hp] at this;simpa using this
     | succ i=>exact ih i h.2 (by simpa using hi)
   exact key ds i hs hd
 -- what stands in the table
 have hent:∀ n e,aj (hZ 0 ds) n=some e->∃ i d p b v i1,ds[i]?=some d/\bY d=some p/\vs[i]?=some v/\b ∈ bs/\(∀ o ∈ i1,o ∈ is)/\lL w N b d.1 p.1 p.2 v i1/\p.1.length<=1000 /\
   ((n=mN i/\e=.box (wD i 0 p.1)/\g.blk n=some b)\/∃ j c q,n=mI i j/\j < 1000/\p.1[j]?=some c/\fg c=some q/\e=.own q.1 q.2/\g.blk n=gR w d v j/\g.sv n=pX w v j/\g.st n=q.1):=fun n e he=>by
  obtain⟨i,d,p,e2,e3,e4⟩:=Dr ds 0 n e he
  rw [Nat.zero_add] at e4
  have hi:i < vs.size:=by have:=(List.getElem?_eq_some_iff.1 e2).1;rw [h1] at this;simpa using this
  have hv:vs[i]?=some vs[i]:=by simp [hi]
  obtain⟨b,hb,i1,hi1,_,hm⟩:=h3 i d vs[i] p e2 (by simp [hi]) e3
  have hl:=hlen i d p (fun h0=>by rw [h0] at he;cases he) e2 e3
  refine⟨i,d,p,b,vs[i],i1,e2,e3,hv,hb,hi1,hm,hl,?_⟩
  rcases e4 with ⟨k1,k2⟩ | ⟨j,c,q,k1,k2,k3,k4⟩
  ·exact .inl ⟨k1,k2,by rw [k1,hgb i vs[i] hv,hm.pb]⟩
  ·have hj:j < 1000:=Nat.lt_of_lt_of_le (List.getElem?_eq_some_iff.1 k2).1 hl
   refine .inr ⟨j,c,q,k1,hj,k2,k3,k4,by rw [k1];exact (hgi i j d vs[i] hj e2 hv).1,by rw [k1];exact (hgi i j d vs[i] hj e2 hv).2,?_⟩
   subst k1
   simp only [g,(hkI i j hj).1,(hkI i j hj).2,hdg i d e2,e3,Nat.add_sub_cancel,k2,k3]
 have hlive:∀ n,live (hZ 0 ds) n->∃ e,aj (hZ 0 ds) n=some e:=fun n hl=>by
  have:=bT hl
  cases hq:aj (hZ 0 ds) n with
  | none=>rw [hq] at this;cases this
  | some e=>exact⟨e,rfl⟩
 -- the block of a live name
 have hblk:∀ n b,live (hZ 0 ds) n->g.blk n=some b->N b/\b ∈ gE bs is/\∃ i d v,ds[i]?=some d/\vs[i]?=some v/\((n=mN i/\b ∈ bs/\(∃ p,bY d=some p/\lH w v=some b))\/∃ j,n=mI i j/\some b ∈ is/\gR w d v j=some b):=fun n b hl hb=>by
  obtain⟨e,he⟩:=hlive n hl
  obtain⟨i,d,p,b',v,i1,e1,e2,e3,e4,e5,hm,_,k | k⟩:=hent n e he
  ·obtain⟨k1,k2,k3⟩:=k
   rw [hb] at k3
   simp only [Option.some.injEq] at k3
   subst k3
   exact⟨hm.1,List.mem_append_left _ e4,i,d,v,e1,e3,.inl ⟨k1,e4,p,e2,hm.pb⟩⟩
  ·obtain⟨j,c,q,k1,k2,k3,k4,k5,k6,_⟩:=k
   rw [hb] at k6
   have:=(hm.inn e2).2.1 j b k6.symm
   have hi:=e5 _ this.2
   exact⟨this.1,List.mem_append_right _ (List.mem_filterMap.2 ⟨_,hi,rfl⟩),i,d,v,e1,e3,.inr ⟨j,k1,hi,k6.symm⟩⟩
 have hav:∀ b,am (fun b=>N b/\b ∉ gE bs is) g (hZ 0 ds) b->N b:=by
  rintro b (hb | ⟨n,hl,hbn⟩)
  ·exact hb.1
  ·exact (hblk n b hl hbn).1
 have hptr:∀ (i:Nat) (d:DV) (p:List DC × Nat),ko ds=true->ds[i]?=some d->bY d=some p->∀ v,vs[i]?=some v->aJ w (am (fun b=>N b/\b ∉ gE bs is) g (hZ 0 ds)) g (hZ 0 ds) (.val false [mC d.1 (mN i) p.2]) v:=fun i d p hs hd hp v hv=>by
  obtain⟨b,hb,_,_,_,hm⟩:=h3 i d v p hd (by simpa using hv) hp
  have:=(A9 ds 0 i d p hs hd hp).1
  rw [Nat.zero_add] at this
  have hbk:g.blk (mN i)=some b:=by rw [hgb i v hv,hm.pb]
  have hsm:(aj (hZ 0 ds) (mN i)).isSome:=by rw [this];rfl
  have hp2:=hm.2.1
  refine⟨_,rfl,?_⟩
  generalize d.1=sl at hp2
  cases sl with
  | false=>exact⟨hsm,b,hbk,hp2⟩
  | true=>
   refine⟨[b],⟨rfl,hp2.2⟩,fun i' q c hq hc=>?_,hp2.1.less hav⟩
   cases i' with
   | zero=>simp at hq hc;subst hq;subst hc;exact⟨hsm,hbk⟩
   | succ i'=>simp at hq
 have hshort:l6 0 ds ≠ []->ko ds=true:=fun hne=>(hsv.resolve_left hne).2
 have hmref:∀ (i:Nat) (d:DV) (p:List DC × Nat),ds[i]?=some d->bY d=some p->l6 0 ds ≠ []:=by
  have key:∀ (l:List DV) (k i:Nat) (d:DV) (p:List DC × Nat),l[i]?=some d->bY d=some p->l6 k l ≠ []:=by
   intro l
   induction l with
   | nil=>intro k i d p h;simp at h
   | cons x r ih=>
    intro k i d p h hp
    simp only [l6]
    cases i with
    | zero=>simp at h;subst h;rw [hp];simp
    | succ i=>
     split
     ·exact ih (k+1) i d p (by simpa using h) hp
     ·simp
  exact fun i d p hd hp=>key ds 0 i d p hd hp
 refine⟨g,⟨.refl,fun n e he=>?_,fun n m b hn hm bn bm=>?_,fun n b hl hb=>?_,fun b hb=>⟨hN b hb.1,hb.2,fun h=>(hgl b h).1 hb.1⟩⟩,fun t x hx=>?_,by simp;omega,⟨List.nodup_nil,fun _=>rfl,fun d hd=>by simp at hd⟩,fun t x hx=>?_⟩
 ·obtain⟨i,d,p,b,v,i1,e1,e2,e3,e4,e5,hm,hl,k | k⟩:=hent n e he
  ·obtain⟨k1,rfl,hgn⟩:=k
   obtain⟨_,hmv,cells,t,k1',k2⟩:=hm
   obtain⟨c1,c2,c3,_⟩:=k2.get
   have hs:=hshort (hmref i d p e1 e2)
   refine⟨b,cells,t,hgn,k1',by rw [Hw,c1];simp,fun j c x hc hx=>?_,fun j c hc=>?_⟩
   ·obtain⟨d',hd',rfl⟩:=AZ _ _ _ _ hc
    rw [Nat.zero_add]
    cases hq:fg d' with
    | none=>
     have h0:=c2 j d' x hd' (by simpa using hx) hq
     cases hnm:GH d' with
     | true=>rw [if_pos hnm] at h0;exact h0
     | false=>rw [if_neg (by rw [hnm];simp)] at h0;exact h0.less hav
    | some q=>
     have hj:j < 1000:=Nat.lt_of_lt_of_le (List.getElem?_eq_some_iff.1 hd').1 hl
     have hso:=(c3 j d' x q hd' (by simpa using hx) hq).1
     have hcv:pX w v j=x:=by
      simp only [pX,hmv.ptV,k1']
      rw [Array.getD_eq_getD_getElem?,hx];rfl
     have hT:=(A9 ds 0 i d p hs e1 e2).2 j d' q hd' hq
     rw [Nat.zero_add] at hT
     refine⟨by show (aj (hZ 0 ds) (mI i j)).isSome=true;rw [hT];rfl,by rw [(hgi i j d v hj e1 e3).2,hcv],?_⟩
     rcases hso with ⟨e,_,_⟩ | ⟨_,_,_,_,_,_,_,e,_⟩
     ·exact⟨_,_,_,e⟩
     ·exact⟨_,_,_,e⟩
   ·obtain⟨d',hd',rfl⟩:=AZ _ _ _ _ hc
    cases fg d' with
    | none=>cases GH d' <;> rfl
    | some _=>rfl
  ·obtain⟨j,c,q,k1,hj,k2,k3,rfl,k5,k6,k7⟩:=k
   refine⟨?_,k7⟩
   rw [k5,k6]
   exact ((hm.inn e2).1 j c q k2 k3).sub hav
 ·obtain⟨_,_,i,d,v,e1,e2,e3⟩:=hblk n b hn bn
  obtain⟨_,_,i',d',v',c1,c2,c3⟩:=hblk m b hm bm
  rcases e3 with ⟨k1,k2,p,k3,k4⟩ | ⟨j,k1,k2,k3⟩ <;> rcases c3 with ⟨l1,l2,p',l3,l4⟩ | ⟨j',l1,l2,l3⟩
  ·have:=h5 hnb.1 i i' d d' p p' v v' b e1 c1 k3 l3 (by simpa using e2) (by simpa using c2) k4 l4
   rw [k1,l1,this]
  ·exact absurd l2 (hnb.2.2 b k2)
  ·exact absurd k2 (hnb.2.2 b l2)
  ·obtain⟨a1,a2⟩:=h6 hnb.2.1 i i' d d' v v' j j' b e1 c1 (by simpa using e2) (by simpa using c2) k3 l3
   rw [k1,l1,a1,a2]
 ·obtain⟨a1,a2,_⟩:=hblk n b hl hb
  exact⟨.inr a2,hN b a1⟩
 ·obtain⟨i,d,rfl,hd,rfl⟩:=B0 ds 0 t x hx
  rw [Nat.zero_add]
  have hi:i < vs.size:=by have:=(List.getElem?_eq_some_iff.1 hd).1;rw [h1] at this;simpa using this
  have hv:vs[i]?=some vs[i]:=by simp [hi]
  have hget:(vs++Array.replicate (nt - vs.size) undef).getD i undef=vs[i]:=by
   rw [Array.getD_eq_getD_getElem?,Array.getElem?_append_left hi,hv];rfl
  rw [hget]
  cases hp:bY d with
  | none=>
   have:=(h2 i d vs[i] hd (by simp [hi]) hp).av (g:=g) (T:=hZ 0 ds)
   simp only []
   refine aJ.mono (fun c v hc=>?_) this
   exact hc.mono (fun _ _ hd=>hd.less hav) (fun _ h=>h) fun _ _=>⟨rfl,rfl,rfl⟩
  | some p=>exact hptr i d p (hshort (hmref i d p hd hp)) hd hp _ hv
 ·obtain⟨i,d,p,rfl,hd,hp,rfl⟩:=uz ds 0 t x hx
  rw [Nat.zero_add]
  have hs:=hsv.resolve_left (hmref i d p hd hp)
  obtain⟨rfl,hs⟩:=hs
  have hi:i < svv.size:=by have:=(List.getElem?_eq_some_iff.1 hd).1;rw [h1] at this;simpa using this
  have hv:svv[i]?=some svv[i]:=by simp [hi]
  rw [Array.getD_eq_getD_getElem?,hv]
  exact hptr i d p hs hd hp _ hv
def abU (rs:List dV)(res:List RV)(e:Exit)(σ:St):Prop:=(e=.ret\/e=.normal)/\At rs σ=some res
theorem rF {F:Fence}{n:Nat}{fn:Func}{tmps:Array Value}{R:Ending->World->Prop}{svv sv2:Array Value}(hfin:∀ w g,Mem w0 N0 g σ.tab w->di w (am N0 g σ.tab) g σ.tab σ.tmps tmps->di w (am N0 g σ.tab) g σ.tab σ.sv sv2->LeavesIn F n P fn tmps R [] .returning w) :
  ∀ (l:List Deferred) (w:World) (g:Gh),Mem w0 N0 g σ.tab w->di w (am N0 g σ.tab) g σ.tab σ.tmps tmps->di w (am N0 g σ.tab) g σ.tab σ.sv sv2->pQ w0 svv l w->LeavesInM F n P fn tmps R l .returning w
 | [],w,g,hM,hS,hS2,_=>hfin w g hM hS hS2
 | d::l,w,g,hM,hS,hS2,hm=>by
  obtain⟨D,h1,h2,h3⟩:=hm.2.2 d (by simp)
  refine⟨nofun,.inl ⟨D,_,by rw [h1],run_takeDeferred h3,?_⟩⟩
  obtain⟨h4,h5⟩:=hM.putObj (o':=.deferred none) h3 rfl (.inl h2)
  refine rF hfin l _ g h4 (fun t x hx=>h5.a (hS t x hx)) (fun t x hx=>h5.a (hS2 t x hx)) ⟨(List.nodup_cons.1 hm.1).2,fun h=>absurd (hm.2.1 h) (List.cons_ne_nil _ _),fun d' hd'=>?_⟩
  obtain⟨D',k1,k2,k3⟩:=hm.2.2 d' (List.mem_cons_of_mem _ hd')
  refine⟨D',k1,k2,?_⟩
  rw [World.putObj_heap_other fun e=>(List.nodup_cons.1 hm.1).1 (by rw [h1,<- e,<- k1];exact hd')]
  exact k3
theorem pI {σ:St}:∀ {rs ts:List dV} {ys:List AV},gp σ (rs++ts)=some ys->∃ y1 y2,ys=y1++y2/\gp σ rs=some y1/\gp σ ts=some y2
 | [],ts,ys,h=>⟨[],ys,rfl,rfl,h⟩
 | r::rs,ts,ys,h=>by
  simp only [List.cons_append,gp] at h
  split at h
  ·rename_i y ys' h1 h2
   simp only [Option.some.injEq] at h
   subst h
   obtain⟨y1,y2,e1,e2,e3⟩:=pI h2
   exact⟨y::y1,y2,by rw [e1];rfl,by simp only [gp,h1,e2],e3⟩
  ·cases h
theorem CG {names:List Nat}:∀ {l:List (Nat × AV)},Zo names l=true->∀ (k:Nat) (x:AV) (b:Bool) (n off:Nat),aj l k=some x->(cE x).bind Q5=some (b,n,off)->n ∉ names
 | [],_,k,x,b,n,off,h,_=>by simp [aj] at h
 | p::r,h,k,x,b,n,off,hk,ho=>by
  simp only [Zo,Bool.and_eq_true] at h
  simp only [aj] at hk
  split at hk
  ·simp only [Option.some.injEq] at hk
   subst hk
   have:=h.1
   rw [ho] at this
   simp only [Bool.not_eq_true'] at this
   exact fun hx=>by rw [FL.2 hx] at this;cases this
  ·exact CG h.2 k x b n off hk ho
theorem Eu {wb:World}{bs0:List Nat}{N:Nat->Prop}{svv:Array Value}{hlb:dZ P wb}{hgb:∀ b,gbP P b->¬ (b ∈ bs0)}(hM:Mem ⟨wb,fun b=>b ∈ bs0,hlb,hgb⟩ N0 g σ.tab w)(hS:di w (am N0 g σ.tab) g σ.tab σ.sv svv){names:List Nat}(hno:Zo names σ.sv=true)(hbN:∀ b,b ∈ bs0->N b) :
  ∀ (ds:List DV) (vs:List Value) (bs:List Nat) (is:List (Option Nat)) (k:Nat) (ys:List AV),fw wb N ds vs bs is->(∀ (i:Nat) (v:Value),vs[i]?=some v->svv.getD (k+i) undef=v)->gp σ (gx k ds)=some ys ->
   (∃ us,jG w bs us/\us.length=ys.length/\∀ (i:Nat) (y:AV) (v:Value),ys[i]?=some y->us[i]?=some v->aJ w (am N0 g σ.tab) g σ.tab y v) /\
   ∀ b ∈ bs,∃ n cs,aj σ.tab n=some (.box cs)/\g.blk n=some b/\n ∉ names
 | [],[],bs,is,k,ys,h,_,hy=>by
  obtain⟨rfl,_⟩:bs=[]/\is=[]:=h
  simp only [gx,gp,Option.some.injEq] at hy
  subst hy
  exact⟨⟨[],rfl,rfl,fun i y v h=>by simp at h⟩,by simp⟩
 | [],_::_,bs,is,k,ys,h,_,_=>h.elim
 | _::_,[],bs,is,k,ys,h,_,_=>h.elim
 | d::ds,v::vs,bs,is,k,ys,h,hv,hy=>by
  have hv':∀ (i:Nat) (v:Value),vs[i]?=some v->svv.getD (k+1+i) undef=v:=fun i u hu=>by
   have:=hv (i+1) u (by simpa using hu)
   rwa [show k+(i+1)=k+1+i by omega] at this
  simp only [fw] at h
  simp only [gx] at hy
  split at h
  ·rename_i hd
   rw [hd] at hy
   exact Eu hM hS hno hbN ds vs bs is (k+1) ys h.2 hv' hy
  ·rename_i p hd
   rw [hd] at hy
   split at h
   ·rename_i b bs'
    obtain⟨i1,i2,rfl,hm0,hrest⟩:=h
    simp only [gp] at hy
    split at hy
    ·rename_i y ys' hy1 hy2
     simp only [Option.some.injEq] at hy
     subst hy
     obtain⟨⟨us,u1,u2,u3⟩,u4⟩:=Eu hM hS hno hbN ds vs bs' i2 (k+1) ys' hrest hv' hy2
     simp only [HU] at hy1
     split at hy1
     ·rename_i x hx
      split at hy1
      ·rename_i sb n off ho
       have ho':=ho
       obtain⟨c0,ho,hc0⟩:=Option.bind_eq_some_iff.1 ho
       obtain rfl:c0=mC sb n off:=uv hc0
       split at hy1
       ·rename_i cs hT
        simp only [Option.some.injEq] at hy1
        subst hy1
        have hrel:=aM (hS k x hx) ho
        have h0:=hv 0 v rfl
        rw [Nat.add_zero] at h0
        rw [h0] at hrel
        obtain⟨b',hb',hvb⟩:=TJ hrel fun _ h=>h
        have hvp:=hm0.2.1.ptV
        have hvq:=hvb.ptV
        rw [hm0.2.1.same fun k hk hn=>hM.below.block k hk fun h=>hn (hbN k h),hvp] at hvq
        simp only [Value.pointer.injEq,Option.some.injEq,Addr.mk.injEq,and_true] at hvq
        obtain⟨rfl,_⟩:=hvq
        obtain⟨b2,cells,t,k1,k2,k3,k4,k5⟩:=hM.box hT
        rw [hb'] at k1
        simp only [Option.some.injEq] at k1
        subst k1
        refine⟨⟨.agg cells::us,⟨⟨cells,t,k2,rfl⟩,u1⟩,by simp [u2],fun i y u hi hu=>?_⟩,fun b2 hb2=>?_⟩
        ·cases i with
         | zero=>
          simp at hi hu
          subst hi;subst hu
          exact⟨cells,rfl,k3.symm,k4⟩
         | succ i=>exact u3 i y u (by simpa using hi) (by simpa using hu)
        ·rcases List.mem_cons.1 hb2 with rfl | hb2
         ·exact⟨n,cs,hT,hb',CG hno k x sb n off hx ho'⟩
         ·exact u4 b2 hb2
       ·cases hy1
      ·cases hy1
     ·cases hy1
    ·cases hy
   ·exact h.elim
theorem Aa:∀ {ds:List DV} {k:Nat},l6 k ds=[]->gx k ds=[]/\∀ {w:World} {N:Nat->Prop} {vs:List Value} {bs:List Nat} {is:List (Option Nat)},fw w N ds vs bs is->bs=[]/\is=[]
 | [],k,_=>⟨rfl,fun {w N vs bs is} h=>by cases vs with | nil=>exact h | cons=>exact h.elim⟩
 | d::ds,k,h=>by
  simp only [l6] at h
  split at h
  ·rename_i hd
   obtain⟨h1,h2⟩:=Aa h
   refine⟨by simp only [gx,hd];exact h1,fun {w N vs bs is} ha=>?_⟩
   cases vs with
   | nil=>exact ha.elim
   | cons v vs=>
    simp only [fw,hd] at ha
    exact h2 ha.2
  ·cases h
theorem vx {f:FuncId}{fn:Func}{c:Code}{ac:au}{rs:List dV}{top:Bool}(hf:P.funcs[f]?=some fn)(hb:fn.body=some c)(hm:P.follows .mixedOrders=true)(hc:mk P fn.ntmps tr tl top c=some ac)
  (hr:gF P fn.results.toList=some rs) (hE:eZ P E) {ds:List DV} {res:List RV} (hn:ds.length<=fn.ntmps) (htop:top=true->l6 0 ds=[]) (hsh:l6 0 ds=[]\/ko ds=true) (h:wpA P E ac (abU (rs++gx 0 ds) res) (zX ds)):dc P f ds res:=by
 intro w vs N bs is hN hnd hargs hlb hgb
 have hlen:=hargs.get.1
 have hsz:vs.size<=fn.ntmps:=by
  have:ds.length=vs.size:=by simpa using hlen
  omega
 obtain⟨svv,hsvv⟩:∃ svv:Array Value,svv=if top then #[] else vs:=⟨_,rfl⟩
 refine callsIn_wide (n:=0).1 (callsIn_of_wp_marks hf hb trivial ?_)
 refine aiW hE hm c top ac hc none (fun _=>rfl) 0 ⟨w,fun b=>b ∈ gE bs is,hlb,fun b hb=>(hgb b hb).2⟩ (fun b=>N b/\b ∉ gE bs is) svv (abU (rs++gx 0 ds) res) _ (zX ds) _ w (fun ht=>by rw [hsvv,ht];rfl) (fun e σ a' w' hd hR=>?_) (Sa hN hnd hargs hsz (by
  cases top with
  | true=>exact .inl (htop rfl)
  | false=>exact hsh.imp id fun h=>⟨hsvv,h⟩) hlb hgb) h
 obtain⟨he,hres⟩:=hd
 obtain⟨g,hM,hS,hsz',hdf,hS2⟩:=hR
 have key:LeavesInM Fence.wide 0 P fn a'.tmps (fun e w'=>∃ v us,e=.returned v/\ux (gE bs is) w w'/\jG w' bs us/\xd w N is res us v w') a'.defers .returning w':=by
  refine rF (σ:=σ) (fun w2 g2 hM2 hT2 hV2=>?_) a'.defers w' g hM hS hS2 hdf
  unfold At at hres
  split at hres
  ·rename_i avs havs
   split at hres
   ·rename_i res' names har
    split at hres
    ·rename_i hown
     simp only [Option.some.injEq] at hres
     subst hres
     simp only [Bool.and_eq_true] at hown
     obtain⟨y1,y2,rfl,a1,a2⟩:=pI havs
     obtain⟨vs',hrun,hlen',hrel⟩:=Da (P:=P) (a:=a') hM2 hT2 fn.results.toList rs y1 hr a1
     have houts:(∃ us,jG w2 bs us/\us.length=y2.length/\∀ (i:Nat) (y:AV) (v:Value),y2[i]?=some y->us[i]?=some v->aJ w2 (am (fun b=>N b/\b ∉ gE bs is) g2 σ.tab) g2 σ.tab y v) /\
       ∀ b ∈ bs,∃ n cs,aj σ.tab n=some (.box cs)/\g2.blk n=some b/\n ∉ names++(iR σ.tab 0 (y1++y2)).map (·.2):=by
      cases top with
      | true=>
       obtain⟨o1,o2⟩:=Aa (htop rfl)
       obtain⟨rfl,rfl⟩:=o2 hargs
       rw [o1] at a2
       simp only [gp,Option.some.injEq] at a2
       subst a2
       exact⟨⟨[],rfl,rfl,fun i y v h=>by simp at h⟩,by simp⟩
      | false=>
       simp only [Bool.false_eq_true,if_false] at hsvv
       subst hsvv
       exact Eu hM2 hV2 hown.2 hargs.allN ds svv.toList bs is 0 y2 hargs (fun i v hv=>by
        rw [Nat.zero_add,Array.getD_eq_getD_getElem?,show svv[i]?=some v by simpa using hv];rfl) a2
     obtain⟨⟨us,u1,u2,u3⟩,u4⟩:=houts
     refine⟨_,GD hrun,_,us,rfl,⟨hM2.below.os,hM2.below.tape,hM2.below.output,hM2.below.size,fun k hk hkb=>hM2.below.block k hk hkb⟩,u1,R0 hM2 (by simp [hlen',u2]) (fun i y v hy hv=>?_) har hown.1 u4 fun b hb=>?_⟩
     ·rw [List.getElem?_append] at hy hv
      rw [hlen'] at hv
      split at hy
      ·rename_i hi
       rw [if_pos hi] at hv
       exact hrel i y v hy hv
      ·rename_i hi
       rw [if_neg hi] at hv
       exact u3 _ y v hy hv
     ·by_cases hbb:b ∈ gE bs is
      ·exact .inr hbb
      ·exact .inl ⟨hb,hbb⟩
    ·cases hres
   ·cases hres
  ·cases hres
 rcases he with rfl | rfl <;> exact key
end Go.AM

namespace Go.AM
open Go.RowKit
def vn (P:Program)(f:FuncId)(nt:Nat)(tr tl:List (Nat × cH))(ac:au)(rs:List dV):Prop:=
 ∃ fn, P.funcs[f]? = some fn ∧ fn.ntmps = nt ∧ fn.body.bind (mk P nt tr tl true) = some ac ∧ gF P fn.results.toList = some rs ∧ (fn.name == "runtime.NumGoroutine") = false
variable {P:Program}{E:Env}{f:FuncId}{nt:Nat}{tr tl:List (Nat × cH)}{ac:au}{rs:List dV}
theorem vn.contract (h:vn P f nt tr tl ac rs)(hm:P.follows .mixedOrders=true)(hE:eZ P E){ds:List DV}{res:List RV}(hn:ds.length<=nt)(hio:Xx ds ac=true)(hw:wpA P E ac (abU (rs++gx 0 ds) res) (zX ds)) :
  dc P f ds res/\de P f:=by
 obtain⟨fn,h1,h2,h3,h4,h5⟩:=h
 subst h2
 cases hb:fn.body with
 | none=>rw [hb] at h3;cases h3
 | some c=>
  rw [hb] at h3
  simp only [Option.bind_some] at h3
  have h3':mk P fn.ntmps tr tl true c=some ac:=h3
  refine⟨?_,fn,h1,by rw [hb];rfl,h5⟩
  unfold Xx at hio
  split at hio
  ·rename_i hv
   exact vx h1 hb hm h3' h4 hE hn (fun _=>hv) (.inl hv) hw
  ·simp only [Bool.and_eq_true] at hio
   exact vx (top:=false) h1 hb hm (Vo c ac h3' hio.1) h4 hE hn (fun h=>by cases h) (.inr hio.2) hw
def Env.add (E:Env)(f:Nat)(s:List DV->Option (List RV)):Env:=⟨fun g ds=>if g=f then s ds else E g ds,E.seq,E.io,E.ptrs⟩
theorem eZ.add (hE:eZ P E){s:List DV->Option (List RV)}(h:∀ ds res,s ds=some res->dc P f ds res/\de P f):eZ P (E.add f s):=by
 refine⟨fun g ds res hg=>?_,hE.seq,hE.ptrs⟩
 simp only [Env.add] at hg
 split at hg
 ·rename_i he;subst he;exact h ds res hg
 ·exact hE.call g ds res hg
def Env.nil:Env:=⟨fun _ _=>none,fun _ _=>none,fun _=>[],fun _=>none⟩
theorem eZ.nil:eZ P Env.nil:=⟨fun _ _ _ h=>(nomatch h),fun _ _ _ h=>(nomatch h),fun _ _ h=>(nomatch h)⟩
section
variable {t:TypeId}{x y:Operand}{k:IntKind}{a b:Int}
@[simp] theorem aog:cY P .add t x y (.int k a) (.int k b)=some (.int k (k.wrap (a+b))):=by simp [cY,eqGuard,binOp,Op.intArith,aC,bind,Sem.bind,pure]
@[simp] theorem amf:cY P .sub t x y (.int k a) (.int k b)=some (.int k (k.wrap (a - b))):=by simp [cY,eqGuard,binOp,Op.intArith,aC,bind,Sem.bind,pure]
@[simp] theorem amq:cY P .mul t x y (.int k a) (.int k b)=some (.int k (k.wrap (a*b))):=by simp [cY,eqGuard,binOp,Op.intArith,aC,bind,Sem.bind,pure]
theorem Ug (hb:b ≠ 0):cY P .quo t x y (.int k a) (.int k b)=some (.int k (k.wrap (a.tdiv b))):=by simp [cY,eqGuard,binOp,Op.intDiv,aC,bind,Sem.bind,pure,hb]
theorem VF (hb:b ≠ 0):cY P .rem t x y (.int k a) (.int k b)=some (.int k (a.tmod b)):=by simp [cY,eqGuard,binOp,Op.intDiv,aC,bind,Sem.bind,pure,hb]
@[simp] theorem ap9:cY P .eql t x y (.int k a) (.int k b)=some (.bool (a == b)):=by simp [cY,eqGuard,binOp,Op.intCmp,aC,bind,Sem.bind,pure]
@[simp] theorem apY:cY P .neq t x y (.int k a) (.int k b)=some (.bool (a != b)):=by simp [cY,eqGuard,binOp,Op.intCmp,aC,bind,Sem.bind,pure]
@[simp] theorem amN:cY P .lss t x y (.int k a) (.int k b)=some (.bool (decide (a < b))):=by simp [cY,eqGuard,binOp,Op.intCmp,aC,bind,Sem.bind,pure]
@[simp] theorem aqA:cY P .leq t x y (.int k a) (.int k b)=some (.bool (decide (a<=b))):=by simp [cY,eqGuard,binOp,Op.intCmp,aC,bind,Sem.bind,pure]
@[simp] theorem aps:cY P .gtr t x y (.int k a) (.int k b)=some (.bool (decide (b < a))):=by simp [cY,eqGuard,binOp,Op.intCmp,aC,bind,Sem.bind,pure]
@[simp] theorem anF:cY P .geq t x y (.int k a) (.int k b)=some (.bool (decide (b<=a))):=by simp [cY,eqGuard,binOp,Op.intCmp,aC,bind,Sem.bind,pure]
end
end Go.AM

namespace Go.AM
abbrev vI (n:Int):DV:=(false,[.v (.int .i64 n)])
abbrev rB (n:Bool):RV:=(false,[.d (.v (.bool n))])
inductive Kn where
 | nil
 | seq (b:au) (k:Kn)
 | blk (id:Nat) (k:Kn)
 | rounds (td:Option cH) (b:au) (n:Nat) (k:Kn)
section
variable {P:Program}{E:Env}{c a b:au}{k:Kn}{Q:Exit->St->Prop}{σ:St}{e:Exit}{i n:Nat}{td:Option cH}{ops:List bz}{ao:bz}{prs:List (Nat × Nat)}{acc:List df}{p:Nat × Nat}
end
end Go.AM

namespace Go.AM
set_option linter.unusedVariables false
open Go.RowKit
def Hx:AV->Bool
 | .val _ cs=>cs.all fun | .d (.v _) | .und | .yld _=>true | _=>false
 | .tup _=>false
def Pm:List (Nat × AV)->List (Nat × AV)
 | []=>[]
 | (k,x)::r=>(k,if Hx x then x else .val false [.unk])::Pm r
variable {P:Program}{E:Env}{xs:List (List Value)}{nt:Nat}{mvs:List Nat}{N:Nat->Prop}{B l:Nat}{J:Nat->World->Prop}{Jx:World->Prop}{w w':World}{a:Act}{σ σ':St}{i:Option Nat}{n:Nat}{g g':Gh}
def gh0:Gh:=⟨fun _=>none,fun _=>undef,fun _=>0⟩
def now (J:Nat->World->Prop)(Jx:World->Prop):Option Nat->World->Prop
 | some k,w=>J k w
 | none,w=>Jx w
def upB (N:Nat->Prop)(B:Nat):Nat->Prop:=fun b=>N b\/B<=b
def anp {P:Program}{wb:World}(hl:dZ P wb):fi P:=⟨wb,fun _=>False,hl,fun _ _ h=>h⟩
def ar9 (P:Program)(wb:World)(N:Nat->Prop)(g:Gh)(T:Tab)(w:World):Prop:=∃ hl:dZ P wb,Mem (anp hl) N g T w
def akg (P:Program)(A:List (Nat × AV))(N:Nat->Prop)(B:Nat)(nt:Nat)(J:Nat->World->Prop)(Jx:World->Prop)(i:Option Nat)(σ:St)(a:Act)(w:World):Prop:=
 a.tmps.size=nt/\a.defers=[]/\∃ (wb:World) (g:Gh),B<=wb.heap.size/\now J Jx i wb/\ar9 P wb N g σ.tab w/\di w (am N g σ.tab) g σ.tab σ.tmps a.tmps/\di wb (upB N B) gh0 [] A a.tmps
def anf (P:Program)(xs:List (List Value))(l:Nat)(B:Nat)(N:Nat->Prop)(n:Nat)(J:Nat->World->Prop)(Jx:World->Prop):Prop:=
 (∀ b,N b->b < B)/\(∀ i W W',J i W->Below W.heap.size W W'->J i W')/\(∀ W W',Jx W->Below W.heap.size W W'->Jx W') /\
 (∀ i x W1,xs[i]?=some x->J i W1->YieldAt (Fw none) n P l x.toArray W1 fun e W'=>F2 B N W1 W'/\((e=.returned (.bool true)/\J (i+1) W')\/(e=.returned (.bool false)/\Jx W')))/\∀ b,gbP P b->b < B/\¬ N b
theorem now.grow (hG:anf P xs l B N n J Jx)(h:now J Jx i w)(hb:Below w.heap.size w w'):now J Jx i w':=by
 cases i with
 | some k=>exact hG.2.1 k w w' h hb
 | none=>exact hG.2.2.1 w w' h hb
theorem Rk {M N':Nat->Prop}{T:Tab}{y:AV}{v:Value}(h:aJ w M g T y v):aJ w' N' g' [] (if Hx y then y else .val false [.unk]) v:=by
 split
 ·rename_i hf
  have cell:∀ (c:C) (v:Value),(match c with | .d (.v _) | .und | .yld _=>true | _=>false)=true->cu w M g T c v->cu w' N' g' [] c v:=by
   intro c v hc h
   split at hc
   ·cases h with
    | v hp=>exact aH.v hp
   ·exact h
   ·exact h
   ·cases hc
  cases y with
  | tup l=>simp [Hx] at hf
  | val b cs=>
   simp only [Hx] at hf
   have hall:=List.all_eq_true.1 hf
   cases b with
   | true=>
    obtain⟨xs,h1,h2,h3⟩:=h
    exact⟨xs,h1,h2,fun i c x hc hx=>cell c x (hall c (List.mem_of_getElem? hc)) (h3 i c x hc hx)⟩
   | false=>
    obtain⟨c,rfl,h2⟩:=h
    exact⟨c,rfl,cell c v (hall c (by simp)) h2⟩
 ·exact⟨.unk,rfl,trivial⟩
theorem Jz (l:List (Nat × AV))(t:Nat):aj (Pm l) t=(aj l t).map fun x=>if Hx x then x else .val false [.unk]:=by
 induction l with
 | nil=>rfl
 | cons p r ih=>
  obtain⟨k,y⟩:=p
  simp only [Pm,aj]
  split
  ·rfl
  ·exact ih
theorem di.flat {tmps:List (Nat × AV)}{vals:Array Value}{M N':Nat->Prop}{T:Tab}(h:di w M g T tmps vals):di w' N' g' [] (Pm tmps) vals:=by
 intro t x hx
 rw [Jz] at hx
 cases hq:aj tmps t with
 | none=>rw [hq] at hx;cases hx
 | some y=>
  rw [hq] at hx
  simp only [Option.map_some,Option.some.injEq] at hx
  subst hx
  exact Rk (h t y hq)
theorem akg.keep {A:List (Nat × AV)}{τ:St}(h:akg P A N B nt J Jx i σ a w)(ht:τ.tab=σ.tab)(hs:∀ t x,aj τ.tmps t=some x->aj σ.tmps t=some x):akg P A N B nt J Jx i τ a w:=by
 obtain⟨h1,h2,wb,g,h3,h4,h5,h6,h7⟩:=h
 refine⟨h1,h2,wb,g,h3,h4,?_,?_,h7⟩
 ·rw [ht];exact h5
 ·rw [ht];exact fun t x hx=>h6 t x (hs t x hx)
end Go.AM

namespace Go.AM
def FC (P:Program)(E:Env)(ops:List bz)(prs:List (Nat × Nat))(σ:St):Option St:=
 match prs with
 | []=>pY P E ops σ
 | _::_=>match iu P E ops σ with
  | some (os,σ')=>if prs.all (qz os) then some σ' else none
  | none=>none
def sZ (fa fb:St->Option (Exit × St))(ps:List Nat)(td:Option cH):List (List Value)->St->Option (Exit × St)
 | [],σ=>some (.normal,σ)
 | x::xs,σ=>if x.length=ps.length then match fa ⟨vN ps x σ.tmps,σ.tab,σ.tmps⟩ with
   | some (.normal,σ1)=>match fb σ1 with
    | some (.normal,σ2)=>match ip td ⟨σ2.sv,σ2.tab,[]⟩ with
     | some σ3=>sZ fa fb ps td xs σ3
     | none=>none
    | some (.ret,σ2)=>some (.ret,⟨σ2.sv,σ2.tab,[]⟩)
    | some (.exit id,σ2)=>some (.exit id,⟨σ2.sv,σ2.tab,[]⟩)
    | _=>none
   | _=>none
  else none
def kp (P:Program)(E:Env):Nat->au->St->Option (Exit × St)
 | 0,_,_=>none
 | n+1,c,σ=>match c with
  | .skip=>some (.normal,σ)
  | .ret=>some (.ret,σ)
  | .exit id=>some (.exit id,σ)
  | .region ops prs td=>match FC P E ops prs σ with
   | some σ1=>match ip td σ1 with
    | some σ2=>some (.normal,σ2)
    | none=>none
   | none=>none
  | .seq a b=>match kp P E n a σ with
   | some (.normal,σ1)=>kp P E n b σ1
   | some (.ret,σ1)=>some (.ret,σ1)
   | some (.exit id,σ1)=>some (.exit id,σ1)
   | _=>none
  | .cond c a b=>match wi (evO σ.tmps c) with
   | some true=>kp P E n a σ
   | some false=>kp P E n b σ
   | none=>none
  | .block id b=>match kp P E n b σ with
   | some (.normal,σ1)=>some (.normal,σ1)
   | some (.ret,σ1)=>some (.ret,σ1)
   | some (.exit id',σ1)=>if id'=id then some (.normal,σ1) else some (.exit id',σ1)
   | _=>none
  | .loop td b=>match ip td σ with
   | some σ0=>match kp P E n b σ0 with
    | some (.normal,σ1)=>kp P E n (.loop td b) σ1
    | some (.ret,σ1)=>some (.ret,σ1)
    | some (.exit id,σ1)=>some (.exit id,σ1)
    | _=>none
   | none=>none
  | .rangeF g ps td a b=>match zU E σ g with
   | some _=>none
   | none=>match zW E σ.tab (evO σ.tmps g) σ.sv with
    | some xs=>sZ (kp P E n a) (kp P E n b) ps td xs (eK σ (evO σ.tmps g))
    | none=>none
variable {P:Program}{E:Env}{Q:Exit->St->Prop}
theorem DJ {lv:Bool}{g:Operand}{ps:List Nat}{x:List Value}{σ:St}{K K':St->Prop}(hK:∀ σ,K σ->K' σ)(h:DN lv g ps x σ K):DN lv g ps x σ K':=by
 cases lv with
 | false=>exact⟨h.1,hK _ h.2⟩
 | true=>
  simp only [DN] at h ⊢
  split at h
  ·split at h
   ·exact hK _ h
   ·exact h
  ·exact h
theorem fK:∀ (c:au) {Q Q':Exit->St->Prop} {σ:St},(∀ e σ,Q e σ->Q' e σ)->wpA P E c Q σ->wpA P E c Q' σ:=by
 have run:∀ (l:List bz) {K K':St->Prop} {σ:St},(∀ σ,K σ->K' σ)->lZ P E l K σ->lZ P E l K' σ:=by
  intro l
  induction l with
  | nil=>intro K K' σ h hk;exact h σ hk
  | cons ao l ih=>
   intro K K' σ h hk
   rcases fk hk with ⟨h1,h2⟩ | ⟨h1,h2⟩
   ·obtain⟨y,es,h3,h4⟩:=iO h2
    simp only [lZ,h1,h3,fc,Be]
    exact⟨fun _=>ih h h4,nofun⟩
   ·simp only [lZ,h1,fc]
    exact⟨nofun,fun _=>ih h h2⟩
 have outs:∀ (l:List bz) {K K':List df->St->Prop} {acc:List df} {σ:St},(∀ os σ,K os σ->K' os σ)->gr P E l K acc σ->gr P E l K' acc σ:=by
  intro l
  induction l with
  | nil=>intro K K' acc σ h hk;exact h _ σ hk
  | cons ao l ih=>
   intro K K' acc σ h hk
   rcases fk hk with ⟨h1,h2⟩ | ⟨h1,h2⟩
   ·obtain⟨y,es,h3,h4⟩:=iO h2
    simp only [gr,h1,h3,fc,Be]
    exact⟨fun _=>ih h h4,nofun⟩
   ·simp only [gr,h1,fc]
    exact⟨nofun,fun _=>ih h h2⟩
 have some_:∀ {o:Option St} {K K':St->Prop},(∀ σ,K σ->K' σ)->jL o K->jL o K':=by
  intro o K K' h hk
  obtain⟨σ,h1,h2⟩:=gM hk
  subst h1
  exact h σ h2
 have thn:∀ {K K':St->Prop} {Q Q':Exit->St->Prop} {e:Exit} {σ:St},(∀ σ,K σ->K' σ)->(∀ e σ,Q e σ->Q' e σ)->vz K Q e σ->vz K' Q' e σ:=by
  intro K K' Q Q' e σ h1 h2 h
  cases e <;> first | exact h1 _ h | exact h2 _ _ h | exact h
 intro c
 induction c with
 | skip=>intro Q Q' σ h hw;exact h _ _ hw
 | ret=>intro Q Q' σ h hw;exact h _ _ hw
 | exit id=>intro Q Q' σ h hw;exact h _ _ hw
 | region ops prs td=>
  intro Q Q' σ h hw
  simp only [wpA] at hw ⊢
  unfold jS at hw ⊢
  cases prs with
  | nil=>exact run ops (fun σ hs=>some_ (fun σ hs=>h _ σ hs) hs) hw
  | cons p r=>exact outs ops (fun os σ hs=>⟨hs.1,some_ (fun σ hs=>h _ σ hs) hs.2⟩) hw
 | seq a b iha ihb=>intro Q Q' σ h hw;exact iha (fun e σ hs=>thn (fun σ hs=>ihb h hs) h hs) hw
 | cond c a b iha ihb=>
  intro Q Q' σ h hw
  rcases fk hw with ⟨h1,h2⟩ | ⟨h1,h2⟩
  ·simp only [wpA,h1,fc];exact⟨fun _=>iha h h2,nofun⟩
  ·simp only [wpA,h1,fc];exact⟨nofun,fun _=>ihb h h2⟩
 | block id b ih=>
  intro Q Q' σ h hw
  refine ih (fun e σ hs=>?_) hw
  cases e with
  | normal=>exact h _ _ hs
  | ret=>exact h _ _ hs
  | exit id'=>
   simp only [uC] at hs ⊢
   split at hs
   ·rename_i he;rw [if_pos he];exact h _ _ hs
   ·rename_i he;rw [if_neg he];exact h _ _ hs
  | _=>exact hs
 | loop td b ih=>
  intro Q Q' σ h hw
  obtain⟨k,hk⟩:=hw
  refine⟨k,?_⟩
  have key:∀ k σ,pL (wpA P E b) td Q k σ->pL (wpA P E b) td Q' k σ:=by
   intro k
   induction k with
   | zero=>intro σ h;exact h
   | succ k ihk=>intro σ hl;exact some_ (fun σ hs=>ih (fun e σ hs=>thn (fun σ hs=>ihk σ hs) h hs) hs) hl
  exact key k σ hk
 | rangeF g ps td a b iha ihb=>
  intro Q Q' σ h hw
  have key:∀ lv xs σ,cQ lv g (wpA P E a) (wpA P E b) ps td Q xs σ->cQ lv g (wpA P E a) (wpA P E b) ps td Q' xs σ:=by
   intro lv xs
   induction xs with
   | nil=>intro σ hs;exact h _ _ hs
   | cons x xs ihx=>
    intro σ hs
    refine DJ (fun σ hs=>iha (fun e σ hs=>thn (fun σ hs=>ihb (fun e σ hs=>?_) hs) (fun _ _ h=>h) hs) hs) hs
    cases e with
    | normal=>exact some_ (fun σ hs=>ihx σ hs) hs
    | ret=>exact h _ _ hs
    | exit id=>exact h _ _ hs
    | _=>exact hs
  simp only [wpA] at hw ⊢
  split at hw
  ·exact key _ _ _ hw
  ·unfold Gc at hw ⊢
   split at hw
   ·exact key _ _ _ hw
   ·exact hw.elim
theorem Ff {K:St->Prop}:∀ (l:List bz) (σ σ':St),pY P E l σ=some σ'->K σ'->lZ P E l K σ
 | [],σ,σ',h,hk=>by simp only [pY,Option.some.injEq] at h;subst h;exact hk
 | ao::l,σ,σ',h,hk=>by
  simp only [pY,tP,lE] at h
  split at h
  ·rename_i σ1 h1
   split at h1
   ·rename_i y es h2
    simp only [Option.some.injEq] at h1
    subst h1
    split at h2
    ·rename_i h3;simp only [lZ,h3,h2,fc,Be];exact⟨fun _=>Ff l _ _ h hk,nofun⟩
    ·rename_i h3
     simp only [Option.some.injEq,Prod.mk.injEq] at h2
     obtain⟨rfl,rfl⟩:=h2
     simp only [lZ,h3,fc];exact⟨nofun,fun _=>Ff l _ _ h hk⟩
    ·cases h2
   ·cases h1
  ·cases h
theorem Ab {K:List df->St->Prop}:∀ (l:List bz) (acc os:List df) (σ σ':St),iu P E l σ=some (os,σ')->K (acc.reverse++os) σ'->gr P E l K acc σ
 | [],acc,os,σ,σ',h,hk=>by simp only [iu,Option.some.injEq,Prod.mk.injEq] at h;obtain⟨rfl,rfl⟩:=h;simpa [gr] using hk
 | ao::l,acc,os,σ,σ',h,hk=>by
  simp only [iu,lE] at h
  split at h
  ·rename_i y es h2
   split at h
   ·rename_i os' σ1 h1
    simp only [Option.some.injEq,Prod.mk.injEq] at h
    obtain⟨rfl,rfl⟩:=h
    split at h2
    ·rename_i h3;simp only [gr,h3,h2,fc,Be];exact⟨fun _=>Ab l _ os' _ _ h1 (by simpa using hk),nofun⟩
    ·rename_i h3
     simp only [Option.some.injEq,Prod.mk.injEq] at h2
     obtain⟨rfl,rfl⟩:=h2
     simp only [gr,h3,fc];exact⟨nofun,fun _=>Ab l _ os' _ _ h1 (by simpa using hk)⟩
    ·cases h2
   ·cases h
  ·cases h
theorem Jb {K:St->Prop}{ops:List bz}{prs:List (Nat × Nat)}{σ σ':St}(h:FC P E ops prs σ=some σ')(hk:K σ'):jS P E ops prs K σ:=by
 unfold FC at h
 unfold jS
 split at h
 ·exact Ff _ _ _ h hk
 ·split at h
  ·rename_i os σ1 h1
   split at h
   ·rename_i h2
    simp only [Option.some.injEq] at h
    subst h
    exact Ab _ [] os _ _ h1 ⟨by simpa using h2,hk⟩
   ·cases h
  ·cases h
theorem Bt {fa fb:St->Option (Exit × St)}{a b:au}{g:Operand}{ps:List Nat}{td:Option cH}(ha:∀ σ e σ',fa σ=some (e,σ')->wpA P E a (fun e1 σ1=>e1=e/\σ1=σ') σ)
  (hb:∀ σ e σ',fb σ=some (e,σ')->wpA P E b (fun e1 σ1=>e1=e/\σ1=σ') σ):∀ (xs:List (List Value)) (σ:St) (e:Exit) (σ':St),sZ fa fb ps td xs σ=some (e,σ')->Q e σ'->cQ false g (wpA P E a) (wpA P E b) ps td Q xs σ
 | [],σ,e,σ',h,hq=>by
  simp only [sZ,Option.some.injEq,Prod.mk.injEq] at h
  obtain⟨rfl,rfl⟩:=h
  exact hq
 | x::xs,σ,e,σ',h,hq=>by
  simp only [sZ] at h
  split at h
  ·rename_i hlen
   split at h
   ·rename_i σ1 h1
    refine⟨hlen,fK a (fun e2 s2 hs=>?_) (ha _ _ _ h1)⟩
    obtain⟨rfl,rfl⟩:=hs
    split at h
    ·rename_i σ2 h2
     split at h
     ·rename_i σ3 h3
      refine fK b (fun e2 s2 hs=>?_) (hb _ _ _ h2)
      obtain⟨rfl,rfl⟩:=hs
      simp only [p8,h3,jL]
      exact Bt ha hb xs σ3 e σ' h hq
     ·cases h
    ·rename_i σ2 h2
     simp only [Option.some.injEq,Prod.mk.injEq] at h
     obtain⟨rfl,rfl⟩:=h
     refine fK b (fun e2 s2 hs=>?_) (hb _ _ _ h2)
     obtain⟨rfl,rfl⟩:=hs
     exact hq
    ·rename_i id σ2 h2
     simp only [Option.some.injEq,Prod.mk.injEq] at h
     obtain⟨rfl,rfl⟩:=h
     refine fK b (fun e2 s2 hs=>?_) (hb _ _ _ h2)
     obtain⟨rfl,rfl⟩:=hs
     exact hq
    ·cases h
   ·cases h
  ·cases h
theorem LJ:∀ (n:Nat) (c:au) (Q:Exit->St->Prop) (σ:St) (e:Exit) (σ':St),kp P E n c σ=some (e,σ')->Q e σ'->wpA P E c Q σ:=by
 intro n
 induction n with
 | zero=>intro c Q σ e σ' h;simp [kp] at h
 | succ n ih=>
  intro c Q σ e σ' h hq
  cases c with
  | skip=>simp only [kp,Option.some.injEq,Prod.mk.injEq] at h;obtain⟨rfl,rfl⟩:=h;exact hq
  | ret=>simp only [kp,Option.some.injEq,Prod.mk.injEq] at h;obtain⟨rfl,rfl⟩:=h;exact hq
  | exit id=>simp only [kp,Option.some.injEq,Prod.mk.injEq] at h;obtain⟨rfl,rfl⟩:=h;exact hq
  | region ops prs td=>
   simp only [kp] at h
   split at h
   ·rename_i σ1 h1
    split at h
    ·rename_i σ2 h2
     simp only [Option.some.injEq,Prod.mk.injEq] at h
     obtain⟨rfl,rfl⟩:=h
     exact Jb h1 (by simp only [h2,jL];exact hq)
    ·cases h
   ·cases h
  | seq a b=>
   simp only [kp] at h
   split at h
   ·rename_i σ1 h1;exact ih a _ σ _ σ1 h1 (ih b Q σ1 e σ' h hq)
   ·rename_i σ1 h1;simp only [Option.some.injEq,Prod.mk.injEq] at h;obtain⟨rfl,rfl⟩:=h;exact ih a _ σ _ σ1 h1 hq
   ·rename_i id σ1 h1;simp only [Option.some.injEq,Prod.mk.injEq] at h;obtain⟨rfl,rfl⟩:=h;exact ih a _ σ _ σ1 h1 hq
   ·cases h
  | cond c a b=>
   simp only [kp] at h
   split at h
   ·rename_i hb;simp only [wpA,hb,fc];exact⟨fun _=>ih a Q σ e σ' h hq,nofun⟩
   ·rename_i hb;simp only [wpA,hb,fc];exact⟨nofun,fun _=>ih b Q σ e σ' h hq⟩
   ·cases h
  | block id b=>
   simp only [kp] at h
   split at h
   ·rename_i σ1 h1;simp only [Option.some.injEq,Prod.mk.injEq] at h;obtain⟨rfl,rfl⟩:=h;exact ih b _ σ _ σ1 h1 hq
   ·rename_i σ1 h1;simp only [Option.some.injEq,Prod.mk.injEq] at h;obtain⟨rfl,rfl⟩:=h;exact ih b _ σ _ σ1 h1 hq
   ·rename_i id' σ1 h1
    split at h
    ·rename_i hid
     simp only [Option.some.injEq,Prod.mk.injEq] at h;obtain⟨rfl,rfl⟩:=h
     exact ih b _ σ _ σ1 h1 (by simp only [uC,hid,if_true];exact hq)
    ·rename_i hid
     simp only [Option.some.injEq,Prod.mk.injEq] at h;obtain⟨rfl,rfl⟩:=h
     exact ih b _ σ _ σ1 h1 (by simp only [uC,hid,if_false];exact hq)
   ·cases h
  | loop td b=>
   simp only [kp] at h
   split at h
   ·rename_i σ0 h0
    split at h
    ·rename_i σ1 h1
     obtain⟨k,hk⟩:=ih (.loop td b) Q σ1 e σ' h hq
     exact⟨k+1,by simp only [pL,h0,jL];exact ih b _ σ0 _ σ1 h1 hk⟩
    ·rename_i σ1 h1
     simp only [Option.some.injEq,Prod.mk.injEq] at h;obtain⟨rfl,rfl⟩:=h
     exact⟨1,by simp only [pL,h0,jL];exact ih b _ σ0 _ σ1 h1 hq⟩
    ·rename_i id σ1 h1
     simp only [Option.some.injEq,Prod.mk.injEq] at h;obtain⟨rfl,rfl⟩:=h
     exact⟨1,by simp only [pL,h0,jL];exact ih b _ σ0 _ σ1 h1 hq⟩
    ·cases h
   ·cases h
  | rangeF g ps td a b=>
   simp only [kp] at h
   split at h
   ·cases h
   rename_i hlw
   split at h
   ·rename_i xs hxs
    simp only [wpA,hlw,hxs,Gc]
    exact Bt (fun σ e σ' h=>ih a _ σ e σ' h ⟨rfl,rfl⟩) (fun σ e σ' h=>ih b _ σ e σ' h ⟨rfl,rfl⟩) xs _ e σ' h hq
   ·cases h
structure FnT where
 nt:Nat
 tr:List (Nat × cH)
 tl:List (Nat × cH)
 ac:au
 rs:List dV
def SL (P:Program)(E:Env)(aN:Nat)(t:FnT)(ds:List DV):Option (List RV):=
 if ds.length<=t.nt/\Xx ds t.ac=true then match kp P E aN t.ac (zX ds) with
  | some (.ret,σ)=>At (t.rs++gx 0 ds) σ
  | some (.normal,σ)=>At (t.rs++gx 0 ds) σ
  | _=>none
 else none
def B8 (P:Program):List (Nat × FnT)->Prop
 | []=>True
 | (f,t)::r=>vn P f t.nt t.tr t.tl t.ac t.rs/\B8 P r
theorem B8.get {P:Program}:∀ {tbl:List (Nat × FnT)},B8 P tbl->∀ {f:Nat} {t:FnT},aj tbl f=some t->vn P f t.nt t.tr t.tl t.ac t.rs
 | [],_,f,t,h=>by simp [aj] at h
 | (g,u)::r,hT,f,t,h=>by
  simp only [aj] at h
  split at h
  ·rename_i hg;subst hg;simp only [Option.some.injEq] at h;subst h;exact hT.1
  ·exact B8.get hT.2 h
theorem UF (hm:P.follows .mixedOrders=true)(hE:eZ P E){f:Nat}{t:FnT}(ht:vn P f t.nt t.tr t.tl t.ac t.rs){aN:Nat}{ds:List DV}{res:List RV}(h:SL P E aN t ds=some res):dc P f ds res/\de P f:=by
 unfold SL at h
 split at h
 ·rename_i hn
  split at h
  ·rename_i σ h1;exact ht.contract hm hE hn.1 hn.2 (LJ _ _ _ _ _ _ h1 ⟨.inl rfl,h⟩)
  ·rename_i σ h1;exact ht.contract hm hE hn.1 hn.2 (LJ _ _ _ _ _ _ h1 ⟨.inr rfl,h⟩)
  ·cases h
 ·cases h
abbrev oO (d:Nat)(a:AOp):bz:=⟨some d,a,none⟩
abbrev tT (k:Nat)(l:List Nat):Nat × cH:=(k,⟨l,true,[],[]⟩)
abbrev tF (k:Nat)(l:List Nat):Nat × cH:=(k,⟨l,false,[],[]⟩)
abbrev kI (n:Int):Operand:=.const (.int .i64 n)
end Go.AM

namespace Go.AM
section
variable (P:Program)(E:Env)(xs:List (List Value))(l:Nat)(A:List (Nat × AV))
end
section
variable {P:Program}{E:Env}{xs:List (List Value)}{l:Nat}{A:List (Nat × AV)}{c a b:au}{k:Kn}{Q:Exit->Option Nat->St->Prop}{σ:St}{i:Option Nat}{n m:Nat}{td:Option cH}{ops:List bz}{ao:bz}
 {prs:List (Nat × Nat)} {as:List Operand}
end
end Go.AM
