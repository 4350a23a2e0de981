/- Texts of one kind, put together. -/
import Derived.Test.YtffcelhcekillaaGreatAMb
import Derived.LoopNIn
namespace Go.AM
open Go.RowKit
structure dv where
 dst:Option Nat
 y:AV
 es:List (Nat × aL)
 lk:List Nat
def lkA (σ:St)(ao:bp)(es:List (Nat × aL)):List Nat:=
 match ew σ.tmps ao.guard with
 | some true=>kX σ.tab (evO σ.tmps) ao.op++es.map (·.1)
 | _=>[]
def eE (o:dv)(σ:St):St:=bN σ o.dst o.y o.es
def iG (P:Program)(E:Env):List bp->St->Option (List dv × St)
 | [],σ=>some ([],σ)
 | ao::l,σ=>match na P E ao σ with
  | some (y,es)=>match iG P E l (bN σ ao.dst y es) with
   | some (os,σ')=>some (⟨ao.dst,y,es,lkA σ ao es⟩::os,σ')
   | none=>none
  | none=>none
def bZ (p:Nat->Bool):Nat->List dv->St->St
 | _,[],σ=>σ
 | k,o::l,σ=>bZ p (k+1) l (if p k then eE o σ else σ)
theorem sR {tmps:List (Nat × AV)}{dst:Option Nat}{y:AV}{t:Nat}:an (xm tmps dst y) t=if dst=some t then some y else an tmps t:=by
 cases dst with
 | none=>simp [xm]
 | some d=>simp only [xm,an,zaI]
theorem fH {es:List (Nat × aL)}:∀ {T:Tab} {n:Nat},n ∉ es.map (·.1)->an (aputs T es) n=an T n:=by
 induction es with
 | nil=>intro T n _;rfl
 | cons p r ih=>
  intro T n hn;simp only [List.map_cons,List.mem_cons,not_or] at hn;simp only [aputs,ih hn.2,cM,if_neg hn.1]
theorem s9 {es:List (Nat × aL)}:∀ {T T':Tab} {n:Nat},n ∈ es.map (·.1)->an (aputs T es) n=an (aputs T' es) n:=by
 induction es with
 | nil=>intro T T' n hn;simp at hn
 | cons p r ih=>
  intro T T' n hn;simp only [aputs];by_cases hr:n ∈ r.map (·.1)
  ·exact ih hr
  ·simp only [List.map_cons,List.mem_cons] at hn
   rcases hn with hn | hn
   ·rw [fH hr,fH hr,cM,cM,if_pos hn,if_pos hn]
   ·exact absurd hn hr
theorem lE {p q:Nat->Bool}{t:Nat}:∀ (os:List dv) (k:Nat) (σ σ':St),an σ.tmps t=an σ'.tmps t ->
  (∀ i o,os[i]?=some o->o.dst=some t->p (k+i)=q (k+i))->an (bZ p k os σ).tmps t=an (bZ q k os σ').tmps t
 | [],_,_,_,h,_=>h
 | o::l,k,σ,σ',h,hp=>by
  simp only [bZ];refine lE l (k+1) _ _ ?_ fun i o' ho hd=>by have:=hp (i+1) o' (by simpa using ho) hd;simpa [Nat.add_assoc,Nat.add_comm 1 i] using this
  by_cases hd:o.dst=some t
  ·have:=hp 0 o rfl hd
   simp only [Nat.add_zero] at this;rw [this];split
   ·simp [eE,bN,sR,hd]
   ·exact h
  ·have h1:an (if p k=true then eE o σ else σ).tmps t=an σ.tmps t:=by split <;> simp [eE,bN,sR,hd]
   have h2:an (if q k=true then eE o σ' else σ').tmps t=an σ'.tmps t:=by split <;> simp [eE,bN,sR,hd]
   rw [h1,h2,h]
theorem lG {p q:Nat->Bool}{n:Nat}:∀ (os:List dv) (k:Nat) (σ σ':St),an σ.tab n=an σ'.tab n ->
  (∀ i o,os[i]?=some o->n ∈ o.es.map (·.1)->p (k+i)=q (k+i))->an (bZ p k os σ).tab n=an (bZ q k os σ').tab n
 | [],_,_,_,h,_=>h
 | o::l,k,σ,σ',h,hp=>by
  simp only [bZ];refine lG l (k+1) _ _ ?_ fun i o' ho hd=>by have:=hp (i+1) o' (by simpa using ho) hd;simpa [Nat.add_assoc,Nat.add_comm 1 i] using this
  by_cases hd:n ∈ o.es.map (·.1)
  ·have:=hp 0 o rfl hd
   simp only [Nat.add_zero] at this;rw [this];split
   ·exact s9 hd
   ·exact h
  ·have h1:an (if p k=true then eE o σ else σ).tab n=an σ.tab n:=by
    split
    ·exact fH hd
    ·rfl
   have h2:an (if q k=true then eE o σ' else σ').tab n=an σ'.tab n:=by
    split
    ·exact fH hd
    ·rfl
   rw [h1,h2,h]
theorem OG {p:Nat->Bool}:∀ (os:List dv) (k:Nat) (σ:St),(bZ p k os σ).sv=σ.sv
 | [],_,_=>rfl
 | o::l,k,σ=>by
  simp only [bZ];rw [OG l];split <;> rfl
theorem oz {q:Nat->Bool}{t:Nat}{oj:dv}(hd:oj.dst=some t):∀ (os:List dv) (k m:Nat) (σ:St),os[m]?=some oj->q (k+m)=true ->
  (∀ i o,os[i]?=some o->m < i->q (k+i)=true->o.dst ≠ some t)->an (bZ q k os σ).tmps t=some oj.y
 | [],_,_,_,h,_,_=>by simp at h
 | o::l,k,0,σ,h,hq,hl=>by
  simp only [List.getElem?_cons_zero,zaI] at h;subst h;simp only [bZ];rw [if_pos (by simpa using hq)];have e1:∀ (l:List dv) (k:Nat) (σ:St),bZ (fun _=>false) k l σ=σ:=by
   intro l
   induction l with
   | nil=>intro k σ;rfl
   | cons o l ih=>intro k σ;simp [bZ,ih]
  have:=lE (p:=q) (q:=fun _=>false) (t:=t) l (k+1) (eE o σ) (eE o σ) rfl fun i o' ho hdo=>by
   cases hq':q (k+1+i) with
   | false=>rfl
   | true=>exact absurd hdo (hl (i+1) o' (by simpa using ho) (by omega) (by rw [show k+(i+1)=k+1+i by omega];exact hq'))
  rw [this,e1];simp [eE,bN,sR,hd]
 | o::l,k,m+1,σ,h,hq,hl=>by
  simp only [bZ];exact oz hd l (k+1) m _ (by simpa using h) (by rw [show k+1+m=k+(m+1) by omega];exact hq)
   fun i o' ho hi hq'=>hl (i+1) o' (by simpa using ho) (by omega) (by rw [show k+(i+1)=k+1+i by omega];exact hq')
theorem px {q:Nat->Bool}{t:Nat}{oj:dv}(hd:t ∈ oj.es.map (·.1))(T:Tab):∀ (os:List dv) (k m:Nat) (σ:St),os[m]?=some oj->q (k+m)=true ->
  (∀ i o,os[i]?=some o->m < i->q (k+i)=true->t ∉ o.es.map (·.1))->an (bZ q k os σ).tab t=an (aputs T oj.es) t
 | [],_,_,_,h,_,_=>by simp at h
 | o::l,k,0,σ,h,hq,hl=>by
  simp only [List.getElem?_cons_zero,zaI] at h;subst h;simp only [bZ];rw [if_pos (by simpa using hq)];have e1:∀ (l:List dv) (k:Nat) (σ:St),bZ (fun _=>false) k l σ=σ:=by
   intro l
   induction l with
   | nil=>intro k σ;rfl
   | cons o l ih=>intro k σ;simp [bZ,ih]
  have:=lG (p:=q) (q:=fun _=>false) (n:=t) l (k+1) (eE o σ) (eE o σ) rfl fun i o' ho hdo=>by
   cases hq':q (k+1+i) with
   | false=>rfl
   | true=>exact absurd hdo (hl (i+1) o' (by simpa using ho) (by omega) (by rw [show k+(i+1)=k+1+i by omega];exact hq'))
  rw [this,e1];exact s9 hd
 | o::l,k,m+1,σ,h,hq,hl=>by
  simp only [bZ];exact px hd T l (k+1) m _ (by simpa using h) (by rw [show k+1+m=k+(m+1) by omega];exact hq)
   fun i o' ho hi hq'=>hl (i+1) o' (by simpa using ho) (by omega) (by rw [show k+(i+1)=k+1+i by omega];exact hq')
theorem rX {P:Program}{E:Env}:∀ (as:List bp) (σ:St) (os:List dv) (σ':St) (k:Nat),iG P E as σ=some (os,σ')->os.length=as.length/\bZ (fun _=>true) k os σ=σ' /\
  ∀ j ao o,as[j]?=some ao->os[j]?=some o ->
   na P E ao (bZ (fun i=>decide (i < k+j)) k os σ)=some (o.y,o.es)/\o.dst=ao.dst/\o.lk=lkA (bZ (fun i=>decide (i < k+j)) k os σ) ao o.es
 | [],σ,os,σ',k,h=>by
  simp only [iG,zaI,zbI] at h;obtain⟨rfl,rfl⟩:=h;exact⟨rfl,rfl,fun j ao o h=>by simp at h⟩
 | ao::l,σ,os,σ',k,h=>by
  simp only [iG] at h;split at h
  ·rename_i y es h1
   split at h
   ·rename_i os' σ2 h2
    simp only [zaI,zbI] at h;obtain⟨rfl,rfl⟩:=h;obtain⟨h3,h4,h5⟩:=rX l _ os' σ2 (k+1) h2;refine⟨by simp [h3],by simp only [bZ,if_true];exact h4,fun j ao' o hao ho=>?_⟩;cases j with
    | zero=>
     simp only [List.getElem?_cons_zero,zaI] at hao ho;subst hao;subst ho;have e1:∀ (l:List dv) (m:Nat) (σ:St),k<=m->bZ (fun i=>decide (i < k+0)) m l σ=σ:=by
      intro l
      induction l with
      | nil=>intro m σ _;rfl
      | cons o l ih=>intro m σ hm;simp only [bZ,ih (m+1) _ (by omega)];rw [if_neg (by simp;omega)]
     rw [e1 _ _ _ (Nat.le_refl _)];exact⟨h1,rfl,rfl⟩
    | succ j=>
     simp only [List.getElem?_cons_succ] at hao ho;have:=h5 j ao' o hao ho;simp only [bZ];rw [if_pos (by simp)];rw [show k+(j+1)=k+1+j by omega];exact this
   ·cases h
  ·cases h
variable {P:Program}{E:Env}{w0:fC}{w w':World}{N0:Nat->Prop}{g g':Gh}{T T':Tab}{r:Option Nat}{n nt:Nat}{mvs:List Nat}{svv:Array Value}{o:Oper}{a:Act}{σ σ':St}{ops:Array Oper} {ao:bp} {y:AV} {es:List (Nat × aL)}
def DM (ao:bp):List Nat:=(match ao.guard with | some (t,_)=>[t] | none=>[])++(gE ao.op).filterMap fun | .tmp t=>some t | _=>none
theorem Pj (hn:yf ao.op=true)(ht:∀ t ∈ DM ao,an σ'.tmps t=an σ.tmps t)(hT:cC (lkA σ ao es) σ.tab σ'.tab)(h:na P E ao σ=some (y,es)):na P E ao σ'=some (y,es):=by
 have hw:ew σ'.tmps ao.guard=ew σ.tmps ao.guard:=by
  cases hg:ao.guard with
  | none=>rfl
  | some p=>simp only [ew,ht p.1 (by simp [DM,hg])]
 unfold na at h ⊢;rw [hw];split at h
 ·rename_i hwt
  have hρ:∀ x ∈ gE ao.op,evO σ.tmps x=evO σ'.tmps x:=by
   intro x hx;cases x with
   | tmp t=>simp only [evO,ht t (by refine List.mem_append_right _ (List.mem_filterMap.2 ⟨.tmp t,hx,rfl⟩))]
   | _=>rfl
  rw [<- abk ao.op (aeN hn) hρ];refine PX ?_ h;simpa [lkA,hwt] using hT
 ·exact h
 ·cases h
theorem Rel.congr (h:Rel w0 N0 nt svv σ a w)(ht:∀ t,an σ'.tmps t=an σ.tmps t)(hT:∀ n,an σ'.tab n=an σ.tab n)(hsv:σ'.sv=σ.sv):Rel w0 N0 nt svv σ' a w:=by
 obtain⟨g,hM,hS,hsz,hd,hS2⟩:=h;have hl:∀ n,live σ'.tab n ↔ live σ.tab n:=fun n=>by unfold live;rw [hT]
 have hav:aB N0 g σ'.tab=aB N0 g σ.tab:=by
  funext b;simp only [aB,hl]
 have hK:bg N0 g σ.tab w g σ'.tab w:=⟨fun d v h=>by rw [hav];exact h,fun n h=>by rw [hT];exact h,fun _ _=>⟨rfl,rfl,rfl⟩⟩
 refine⟨g,⟨hM.below,fun n e he=>?_,fun n m b hn hm=>hM.inj n m b ((hl n).1 hn) ((hl m).1 hm),fun n b hn=>hM.rng n b ((hl n).1 hn),hM.n0⟩,fun t x hx=>?_,hsz,hd,fun t x hx=>by rw [hsv] at hx;exact hK.a (hS2 t x hx)⟩
 ·rw [hT] at he
  exact (hM.ents n e he).mono hK he fun _ _ _=>rfl
 ·rw [ht] at hx
  exact hK.a (hS t x hx)
theorem Rel.drew (h:Rel w0 N0 nt svv σ a w):Rel w0 N0 nt svv σ a { w with drawn:=w.drawn+1 }:=by
 obtain⟨g,hM,hS,hsz,hd,hS2⟩:=h;have hK:bg N0 g σ.tab w g σ.tab { w with drawn:=w.drawn+1 }:=bg.of (Nat.le_refl _) (fun _ _ _=>rfl) (fun _ _ h=>h) (fun _ h=>h) fun _ _=>⟨rfl,rfl,rfl⟩
 exact⟨g,⟨⟨hM.below.os,hM.below.tape,hM.below.output,hM.below.size,hM.below.block⟩,fun n e he=>(hM.ents n e he).mono hK he fun _ _ _=>rfl,hM.inj,hM.rng,hM.n0⟩,fun t x hx=>hK.a (hS t x hx),hsz,hd,fun t x hx=>hK.a (hS2 t x hx)⟩
def kindA:AOp->Nat
 | .mv _ | .pick .. | .build .. | .faddr .. | .field .. | .index .. | .extract .. | .mkfn .. | .nilchk _ | .bin .. | .eqagg .. | .pure _ | .bad | .iaddr _ (some _) _ _ | .aslice ..=>0
 | .load .. | .len _ | .iaddr _ none _ _ | .view ..=>1
 | _=>2
theorem aoX {ρ:Operand->AV}{dst:Nat}{op:AOp}(hk:kindA op<=1)(h:eff P E T ρ dst op=some (y,es)):es=[]:=by
 cases op <;> (try (simp [kindA] at hk;done))
 case iaddr s arr x i=>cases arr <;> simp only [eff] at h <;> split at h <;> (try split at h) <;> (try split at h) <;> simp_all
 case load b s x=>
  simp only [eff] at h;split at h <;> (try split at h) <;> (try split at h) <;> (try (cases h;done)) <;>
   (simp only [Option.map_eq_some_iff,zbI] at h;obtain⟨_,_,_,rfl⟩:=h;rfl)
 case view s x lo hi=>
  simp only [eff] at h
  repeat' split at h
  all_goals first
   | (simp only [zaI,zbI] at h;exact h.2.symm)
   | cases h
 case pure o=>
  simp only [eff] at h;split at h
  ·simp only [zaI,zbI] at h;exact h.2.symm
  ·split at h
   ·split at h
    ·simp only [zaI,zbI] at h;exact h.2.symm
    ·cases h
   ·cases h
 case bin op t x z=>
  have hm:∀ {u:Option C},u.map (fun c=>(AV.val false [c],([]:List (Nat × aL))))=some (y,es)->es=[]:=fun {u} hu=>by
   simp only [Option.map_eq_some_iff,zbI] at hu;obtain⟨_,_,_,rfl⟩:=hu;rfl
  simp only [eff] at h;split at h
  ·split at h
   ·simp only [zaI,zbI] at h;exact h.2.symm
   ·exact hm h
  ·exact hm h
 all_goals (simp only [eff] at h)
 all_goals (try (split at h))
 all_goals (try (split at h))
 all_goals (try (cases h;done))
 all_goals (try (simp only [Option.map_eq_some_iff,zbI] at h;obtain⟨_,_,_,rfl⟩:=h;rfl))
 all_goals (try (simp only [zaI,zbI] at h;exact h.2.symm))
 all_goals (try (simp only [Option.map_eq_some_iff,zaI,zbI] at h;obtain⟨_,_,_,h⟩:=h;exact h.symm))
theorem CI {ρ:Operand->AV}{op:AOp}(hk:kindA op=0):kX T ρ op=[]:=by
 cases op <;> (try (simp [kindA] at hk;done)) <;> (try rfl)
 case iaddr s arr x i=>cases arr <;> simp_all [kindA,kX]
def tP (x y:bp):Bool:=kindA x.op == 0 || kindA y.op == 0 || (decide (kindA x.op<=1) && decide (kindA y.op<=1))
def CT (d:Option Nat)(l:List Nat):Bool:=
 match d with
 | some t=>!l.contains t
 | none=>true
def yO (x y:bp):Bool:=CT x.dst (DM y) && CT y.dst (DM x) && CT x.dst y.dst.toList
def iH (bef:List (List Nat))(j:Nat):List Nat:=bef.getD j []
def V3 (ops:Array Oper)(bef:List (List Nat)):Bool:=(List.range ops.size).all fun j=>
 match ops[j]? with
 | some o=>(o.after.toList.all fun e=>!Region.binds .any e || decide (e.on < j)) &&
   (iH bef j).all fun i=>o.after.toList.any fun e=>Region.binds .any e && (e.on == i || (iH bef e.on).contains i)
 | none=>true
def Ae (as:List bp)(bef:List (List Nat))(prs:List (Nat × Nat)):Bool:=(List.range as.length).all fun j=>(List.range j).all fun i=>
 (iH bef j).contains i || match as[i]?,as[j]? with
  | some x,some y=>yO x y && (tP x y || prs.contains (i,j))
  | _,_=>true
def aiv (l m:List Nat):Bool:=l.all fun n=>!m.contains n
def esN (os:List dv)(i:Nat):List Nat:=match os[i]? with | some o=>o.es.map (·.1) | none=>[]
def lkN (os:List dv)(i:Nat):List Nat:=match os[i]? with | some o=>o.lk | none=>[]
def sc (os:List dv)(p:Nat × Nat):Bool:=aiv (esN os p.1) (lkN os p.2) && aiv (esN os p.2) (lkN os p.1)
variable {P:Program}{E:Env}{w0:fC}{w w':World}{N0:Nat->Prop}{r:Option Nat}{n nt:Nat}{mvs:List Nat}{svv:Array Value}{a:Act}{σ σ':St}{ops:Array Oper}{as:List bp}{os:List dv} {bef:List (List Nat)} {prs:List (Nat × Nat)}
theorem jI:∀ (l:List Oper) (as:List bp),cN P mvs nt ops l=some as->as.length=l.length/\∀ (i:Nat) (o:Oper),l[i]?=some o->∃ ao,as[i]?=some ao/\lR P mvs nt ops o=some ao
 | [],as,h=>by simp only [cN,zaI] at h;subst h;simp
 | o::l,as,h=>by
  simp only [cN] at h;split at h
  ·rename_i ao as' h1 h2
   simp only [zaI] at h;subst h;obtain⟨h3,h4⟩:=jI l as' h2;refine⟨by simp [h3],fun i o' hi=>?_⟩;cases i with
   | zero=>simp only [List.getElem?_cons_zero,zaI] at hi;subst hi;exact⟨ao,rfl,h1⟩
   | succ i=>simpa using h4 i o' (by simpa using hi)
  ·cases h
structure GN (ops:Array Oper)(as:List bp)(os:List dv)(bef:List (List Nat)):Prop where
 len:as.length=ops.size
 olen:os.length=ops.size
 back:∀ (j:Nat) (o:Oper),ops[j]?=some o->∀ e ∈ o.after,Region.binds .any e=true->e.on < j
 before:∀ (j:Nat) (o:Oper),ops[j]?=some o->∀ i ∈ iH bef j,∃ e ∈ o.after,Region.binds .any e=true/\(e.on=i\/i ∈ iH bef e.on)
 apart:∀ (i j:Nat) (x y:bp),i < j->i ∉ iH bef j->as[i]?=some x->as[j]?=some y->yO x y=true
 disj:∀ (i j:Nat) (x y:dv),i < j->i ∉ iH bef j->os[i]?=some x->os[j]?=some y->(∀ n ∈ x.es.map (·.1),n ∉ y.lk)/\(∀ n ∈ y.es.map (·.1),n ∉ x.lk)
 sub:∀ (j:Nat) (x:dv),os[j]?=some x->∀ n ∈ x.es.map (·.1),n ∈ x.lk
theorem Pp (h:V3 ops bef=true):(∀ (j:Nat) (o:Oper),ops[j]?=some o->∀ e ∈ o.after,Region.binds .any e=true->e.on < j) /\
  ∀ (j:Nat) (o:Oper),ops[j]?=some o->∀ i ∈ iH bef j,∃ e ∈ o.after,Region.binds .any e=true/\(e.on=i\/i ∈ iH bef e.on):=by
 have key:∀ (j:Nat) (o:Oper),ops[j]?=some o->((o.after.toList.all fun e=>!Region.binds .any e || decide (e.on < j)) &&
   (iH bef j).all fun i=>o.after.toList.any fun e=>Region.binds .any e && (e.on == i || (iH bef e.on).contains i))=true:=by
  intro j o ho;have hj:j < ops.size:=(Array.getElem?_eq_some_iff.1 ho).1;have:=List.all_eq_true.1 h j (List.mem_range.2 hj);simp only [ho] at this;exact this
 refine⟨fun j o ho e he hb=>?_,fun j o ho i hi=>?_⟩
 ·have:=key j o ho
  simp only [Bool.and_eq_true] at this;have:=List.all_eq_true.1 this.1 e (by simpa using he);simpa [hb] using this
 ·have:=key j o ho
  simp only [Bool.and_eq_true] at this;have:=List.all_eq_true.1 this.2 i hi;obtain⟨e,he,hx⟩:=List.any_eq_true.1 this;simp only [Bool.and_eq_true,Bool.or_eq_true,beq_iff_eq,List.contains_iff_mem] at hx;exact⟨e,by simpa using he,hx.1,hx.2⟩
theorem vK (h:Ae as bef prs=true){i j:Nat}{x y:bp}(hij:i < j)(hb:i ∉ iH bef j)(hx:as[i]?=some x)(hy:as[j]?=some y) :
  yO x y=true/\(tP x y=true\/(i,j) ∈ prs):=by
 have hj:j < as.length:=(List.getElem?_eq_some_iff.1 hy).1;have:=List.all_eq_true.1 (List.all_eq_true.1 h j (List.mem_range.2 hj)) i (List.mem_range.2 hij);simp only [hx,hy,Bool.or_eq_true,Bool.and_eq_true,List.contains_iff_mem] at this;rcases this with this | this
 ·exact absurd this hb
 ·exact this
theorem ER {l m:List Nat}(h:aiv l m=true):∀ n ∈ l,n ∉ m:=by
 intro n hn hm;have:=List.all_eq_true.1 h n hn;simp [hm] at this
theorem qe {ao:bp}{y:AV}{es:List (Nat × aL)}(h:na P E ao σ=some (y,es))(hk:kindA ao.op<=1):es=[]:=by
 unfold na at h;split at h
 ·exact aoX hk h
 ·simp only [zaI,zbI] at h;exact h.2.symm
 ·cases h
theorem alw (hc:cN P mvs nt ops ops.toList=some as)(hb:V3 ops bef=true)(hp:Ae as bef prs=true)(ho:iG P E as σ=some (os,σ'))(hd:prs.all (sc os)=true):GN ops as os bef:=by
 obtain⟨h1,h2⟩:=jI _ _ hc;obtain⟨h3,_,h5⟩:=rX as σ os σ' 0 ho;obtain⟨h6,h7⟩:=Pp hb;have hget:∀ (i:Nat) (x:dv),os[i]?=some x->∃ ao,as[i]?=some ao:=fun i x hx=>by
  have hi:i < as.length:=by rw [<- h3];exact (List.getElem?_eq_some_iff.1 hx).1
  exact⟨as[i],by simp [hi]⟩
 have hsub:∀ (j:Nat) (x:dv),os[j]?=some x->∀ n ∈ x.es.map (·.1),n ∈ x.lk:=by
  intro j x hx n hn;obtain⟨ao,hao⟩:=hget j x hx;obtain⟨h8,_,h9⟩:=h5 j ao x hao hx;rw [h9];unfold lkA;split
  ·exact List.mem_append_right _ hn
  ·rename_i hw
   unfold na at h8;split at h8
   ·rename_i hw';exact absurd hw' (by simpa using hw)
   ·simp only [zaI,zbI] at h8
    rw [<- h8.2] at hn;simp at hn
   ·cases h8
 refine⟨by simpa using h1,by rw [h3];simpa using h1,h6,h7,fun i j x y hij hb hx hy=>(vK hp hij hb hx hy).1,fun i j x y hij hbf hx hy=>?_,hsub⟩;obtain⟨ax,hax⟩:=hget i x hx;obtain⟨ay,hay⟩:=hget j y hy;obtain⟨ex,_,lx⟩:=h5 i ax x hax hx;obtain⟨ey,_,ly⟩:=h5 j ay y hay hy;rcases (vK hp hij hbf hax hay).2 with hcalm | hmem
 ·have z1:kindA ax.op=0->x.es=[]/\x.lk=[]:=fun hk=>by
   have:=qe ex (by omega);refine⟨this,?_⟩;rw [lx,this];unfold lkA;split
   ·simp [CI hk]
   ·rfl
  have z2:kindA ay.op=0->y.es=[]/\y.lk=[]:=fun hk=>by
   have:=qe ey (by omega);refine⟨this,?_⟩;rw [ly,this];unfold lkA;split
   ·simp [CI hk]
   ·rfl
  simp only [tP,Bool.or_eq_true,beq_iff_eq,Bool.and_eq_true,decide_eq_true_eq] at hcalm;rcases hcalm with (hk | hk) | ⟨hk1,hk2⟩
  ·rw [(z1 hk).1,(z1 hk).2];simp
  ·rw [(z2 hk).1,(z2 hk).2];simp
  ·rw [qe ex hk1,qe ey hk2];simp
 ·have:=List.all_eq_true.1 hd (i,j) hmem
  simp only [sc,esN,lkN,hx,hy,Bool.and_eq_true] at this;exact⟨ER this.1,ER this.2⟩
def Pk (ops:Array Oper)(p:Nat->Bool):Prop:=∀ (j:Nat) (o:Oper),ops[j]?=some o->p j=true->∀ e ∈ o.after,Region.binds .any e=true->p e.on=true
theorem GN.closed (hS:GN ops as os bef){p:Nat->Bool}(hp:Pk ops p):∀ (j:Nat) (o:Oper),ops[j]?=some o->(∀ e ∈ o.after,Region.binds .any e=true->p e.on=true)->∀ i ∈ iH bef j,p i=true:=by
 intro j
 induction j using Nat.strongRecOn with
 | ind j ih=>
  intro o ho hd i hi;obtain⟨e,he,hb,h⟩:=hS.before j o ho i hi;rcases h with h | h
  ·rw [<- h];exact hd e he hb
  ·have hlt:=hS.back j o ho e he hb
   have hj:j < ops.size:=(Array.getElem?_eq_some_iff.1 ho).1;have ho':ops[e.on]?=some ops[e.on]:=by simp [show e.on < ops.size by omega]
   exact ih e.on hlt ops[e.on] ho' (hp e.on _ ho' (hd e he hb)) i h
theorem nT {d:Option Nat}{l:List Nat}(h:CT d l=true){t:Nat}(hd:d=some t):t ∉ l:=by
 subst hd;simpa [CT] using h
theorem GN.take (hS:GN ops as os bef){σ0:St}(hsp:∀ j ao o,as[j]?=some ao->os[j]?=some o ->
   na P E ao (bZ (fun i=>decide (i < 0+j)) 0 os σ0)=some (o.y,o.es)/\o.dst=ao.dst/\o.lk=lkA (bZ (fun i=>decide (i < 0+j)) 0 os σ0) ao o.es)
  {p:Nat->Bool} (hp:Pk ops p) {j:Nat} {op:Oper} {ao:bp} {o:dv} (hop:ops[j]?=some op) (hao:as[j]?=some ao) (ho:os[j]?=some o) (hn:yf ao.op=true) (hj:p j=false)
  (hd:∀ e ∈ op.after,Region.binds .any e=true->p e.on=true) {σc:St} (ht:∀ t,an σc.tmps t=an (bZ p 0 os σ0).tmps t) (hT:∀ n,an σc.tab n=an (bZ p 0 os σ0).tab n) :
  na P E ao σc=some (o.y,o.es)/\∀ q:Nat->Bool,(∀ i,i < os.length->q i=(p i || i == j)) ->
   (∀ t,an (eE o σc).tmps t=an (bZ q 0 os σ0).tmps t)/\∀ n,an (eE o σc).tab n=an (bZ q 0 os σ0).tab n:=by
 obtain⟨hout,hdst,hlk⟩:=hsp j ao o hao ho;have hget:∀ (i:Nat) (x:dv),os[i]?=some x->∃ ai oi,as[i]?=some ai/\ops[i]?=some oi/\x.dst=ai.dst:=fun i x hx=>by
  have hi:i < ops.size:=by rw [<- hS.olen];exact (List.getElem?_eq_some_iff.1 hx).1
  have hi':i < as.length:=by rw [hS.len];exact hi
  refine⟨as[i],ops[i],by simp [hi'],by simp [hi],(hsp i as[i] x (by simp [hi']) hx).2.1⟩
 have later:∀ (i:Nat) (x:dv),os[i]?=some x->j < i->p i=true->j ∉ iH bef i:=fun i x hx hji hpi hb=>by
  obtain⟨ai,oi,h1,h2,_⟩:=hget i x hx;have:=hS.closed hp i oi h2 (hp i oi h2 hpi) j hb;rw [hj] at this;cases this
 have agree:∀ (i:Nat) (x:dv),os[i]?=some x->((∃ t,x.dst=some t/\t ∈ DM ao)\/∃ n ∈ x.es.map (·.1),n ∈ o.lk)->p i=decide (i < j):=by
  intro i x hx hcase;obtain⟨ai,oi,h1,h2,h3⟩:=hget i x hx;rcases Nat.lt_trichotomy i j with hij | hij | hij
  ·rw [decide_eq_true hij]
   by_cases hb:i ∈ iH bef j
   ·exact hS.closed hp j op hop hd i hb
   ·exfalso
    rcases hcase with ⟨t,ht1,ht2⟩ | ⟨m,hm1,hm2⟩
    ·have:=hS.apart i j ai ao hij hb h1 hao
     simp only [yO,Bool.and_eq_true] at this;exact nT this.1.1 (h3 ▸ ht1) ht2
    ·exact (hS.disj i j x o hij hb hx ho).1 m hm1 hm2
  ·subst hij;simp [hj]
  ·rw [decide_eq_false (by omega)]
   cases hpi:p i with
   | false=>rfl
   | true=>
    exfalso;have hb:=later i x hx hij hpi;rcases hcase with ⟨t,ht1,ht2⟩ | ⟨m,hm1,hm2⟩
    ·have:=hS.apart j i ao ai hij hb hao h1
     simp only [yO,Bool.and_eq_true] at this;exact nT this.1.2 (h3 ▸ ht1) ht2
    ·exact (hS.disj j i o x hij hb ho hx).2 m hm1 hm2
 constructor
 ·refine Pj hn (fun t hts=>?_) (fun m hm=>?_) hout
  ·rw [ht]
   exact lE os 0 σ0 σ0 rfl fun i x hx hxd=>by simpa using agree i x hx (.inl ⟨t,hxd,hts⟩)
  ·rw [hT]
   rw [<- hlk] at hm;exact lG os 0 σ0 σ0 rfl fun i x hx hxn=>by simpa using agree i x hx (.inr ⟨m,hxn,hm⟩)
 ·intro q hq
  have hlen:∀ (i:Nat) (x:dv),os[i]?=some x->i < os.length:=fun i x hx=>(List.getElem?_eq_some_iff.1 hx).1;have hqj:q (0+j)=true:=by rw [Nat.zero_add,hq j (hlen j o ho)];simp
  constructor
  ·intro t
   simp only [eE,bN,sR];split
   ·rename_i hdt
    refine (oz hdt os 0 j σ0 ho hqj fun i x hx hji hqi hxd=>?_).symm;rw [Nat.zero_add,hq i (hlen i x hx)] at hqi;have hpi:p i=true:=by
     have:¬ i=j:=by omega
     simpa [this] using hqi
    obtain⟨ai,oi,h1,h2,h3⟩:=hget i x hx;have:=hS.apart j i ao ai hji (later i x hx hji hpi) hao h1;simp only [yO,Bool.and_eq_true] at this;exact nT this.2 (hdst ▸ hdt) (by rw [<- h3,hxd];simp)
   ·rename_i hdt
    rw [ht];refine lE os 0 σ0 σ0 rfl fun i x hx hxd=>?_;rw [Nat.zero_add,hq i (hlen i x hx)];by_cases hij:i=j
    ·subst hij
     rw [ho] at hx;simp only [zaI] at hx;subst hx;exact absurd hxd hdt
    ·simp [hij]
  ·intro m
   simp only [eE,bN];by_cases hm:m ∈ o.es.map (·.1)
   ·refine (px hm σc.tab os 0 j σ0 ho hqj fun i x hx hji hqi hxd=>?_).symm
    rw [Nat.zero_add,hq i (hlen i x hx)] at hqi;have hpi:p i=true:=by
     have:¬ i=j:=by omega
     simpa [this] using hqi
    exact (hS.disj j i o x hji (later i x hx hji hpi) ho hx).1 m hm (hS.sub i x hx m hxd)
   ·rw [fH hm,hT]
    refine lG os 0 σ0 σ0 rfl fun i x hx hxd=>?_;rw [Nat.zero_add,hq i (hlen i x hx)];by_cases hij:i=j
    ·subst hij
     rw [ho] at hx;simp only [zaI] at hx;subst hx;exact absurd hxd hm
    ·simp [hij]
theorem ayk (hE:dy P E)(hds:m7 nt ops=true)(hc:cN P mvs nt ops ops.toList=some as)(hS:GN ops as os bef){σ0:St}(hfin:bZ (fun _=>true) 0 os σ0=σ')
  (hsp:∀ j ao o,as[j]?=some ao->os[j]?=some o ->
   na P E ao (bZ (fun i=>decide (i < 0+j)) 0 os σ0)=some (o.y,o.es)/\o.dst=ao.dst/\o.lk=lkA (bZ (fun i=>decide (i < 0+j)) 0 os σ0) ao o.es)
  {Q:Exit->Act->World->Prop} (hQ:∀ a' w',Rel w0 N0 nt svv σ' a' w'->Q .normal a' w') :
  ∀ (aE:Nat) (U:List Nat) (listed:Array Bool) (σc:St) (a:Act) (w:World),Rel w0 N0 nt svv σc a w->listed.size=ops.size->U.Nodup->(∀ j,j ∈ U ↔ listed[j]?=some false)->U.length=aE ->
   Pk ops (fun i=>listed.getD i false)->(∀ t,an σc.tmps t=an (bZ (fun i=>listed.getD i false) 0 os σ0).tmps t)->(∀ n,an σc.tab n=an (bZ (fun i=>listed.getD i false) 0 os σ0).tab n)->σc.sv=σ0.sv ->
   wpAnyIn (Fw r) n P .any ops Q aE listed a w:=by
 have hend:∀ (U:List Nat) (listed:Array Bool) (σc:St) (a:Act) (w:World),Rel w0 N0 nt svv σc a w->listed.size=ops.size->(∀ j,j ∈ U ↔ listed[j]?=some false)->U=[] ->
   (∀ t,an σc.tmps t=an (bZ (fun i=>listed.getD i false) 0 os σ0).tmps t)->(∀ n,an σc.tab n=an (bZ (fun i=>listed.getD i false) 0 os σ0).tab n)->σc.sv=σ0.sv->Q .normal a w:=by
  intro U listed σc a w hR hsz hU hnil ht hT hsv;have hall:∀ (i:Nat) (x:dv),os[i]?=some x->listed.getD (0+i) false=true:=fun i x hx=>by
   have hi:i < listed.size:=by rw [hsz,<- hS.olen];exact (List.getElem?_eq_some_iff.1 hx).1
   cases hl:listed[i] with
   | true=>simp [Array.getD,hi,hl]
   | false=>
    have:i ∈ U:=(hU i).2 (by simp [hi,hl]);rw [hnil] at this;simp at this
  refine hQ a w (hR.congr (fun t=>?_) (fun m=>?_) (by rw [<- hfin,OG,hsv]))
  ·rw [<- hfin,ht];exact lE os 0 σ0 σ0 rfl fun i x hx _=>(hall i x hx).symm
  ·rw [<- hfin,hT];exact lG os 0 σ0 σ0 rfl fun i x hx _=>(hall i x hx).symm
 have hready:∀ (U:List Nat) (listed:Array Bool),listed.size=ops.size->(∀ j,j ∈ U ↔ listed[j]?=some false)->Region.ready .any ops listed=[]->U=[]:=by
  intro U listed hsz hU hr;have key:∀ j,j ∉ U:=by
   intro j
   induction j using Nat.strongRecOn with
   | ind j ih=>
    intro hj;have hlj:=(hU j).1 hj;have hjs:j < ops.size:=by rw [<- hsz];exact (Array.getElem?_eq_some_iff.1 hlj).1
    have ho:ops[j]?=some ops[j]:=by simp [hjs]
    have:j ∈ Region.ready .any ops listed:=mem_ready.2 ⟨by simp [Array.getD_eq_getD_getElem?,hlj],ops[j],ho,fun e he hb=>by
     have hlt:=hS.back j _ ho e he hb;have h1:=ih e.on hlt;rw [hU] at h1;have hes:e.on < listed.size:=by omega
     cases hl:listed[e.on] with
     | true=>simp [Array.getD,hes,hl]
     | false=>exact absurd (by simp [hes,hl]) h1⟩
    rw [hr] at this;cases this
  cases U with
  | nil=>rfl
  | cons j U=>exact absurd (List.mem_cons_self) (key j)
 intro aE
 induction aE with
 | zero=>
  intro U listed σc a w hR hsz hnd hU hlen hcl ht hT hsv;have hnil:U=[]:=List.length_eq_zero_iff.1 hlen;refine⟨?_,hend U listed σc a w hR hsz hU hnil ht hT hsv⟩;cases hr:Region.ready .any ops listed with
  | nil=>rfl
  | cons j l=>
   have hj:j ∈ Region.ready .any ops listed:=by rw [hr];exact List.mem_cons_self
   obtain⟨h0,o,ho,_⟩:=mem_ready.1 hj;have hjs:j < listed.size:=by rw [hsz];exact (Array.getElem?_eq_some_iff.1 ho).1
   have:j ∈ U:=(hU j).2 (by simp [Array.getD,hjs] at h0;simp [hjs,h0]);rw [hnil] at this;simp at this
 | succ aE ih=>
  intro U listed σc a w hR hsz hnd hU hlen hcl ht hT hsv;refine⟨fun hr=>hend U listed σc a w hR hsz hU (hready U listed hsz hU hr) ht hT hsv,fun j hj=>?_⟩;obtain⟨h0,op,hop,hdeps⟩:=mem_ready.1 hj;have hjo:j < ops.size:=(Array.getElem?_eq_some_iff.1 hop).1;have hjs:j < listed.size:=by omega
  have hlj:listed[j]=false:=by simpa [Array.getD,hjs] using h0
  obtain⟨ao,hao,hco⟩:=(jI _ _ hc).2 j op (by simpa using hop);have hjl:j < os.length:=by rw [hS.olen];exact hjo
  have hoj:os[j]?=some os[j]:=by simp [hjl]
  obtain⟨_,_,_,_,hns⟩:=kP hco;have hdst:(os[j]).dst=ao.dst:=(hsp j ao _ hao hoj).2.1;obtain⟨hout,hadd⟩:=hS.take (P:=P) (E:=E) hsp hcl hop hao hoj hns (by simp [Array.getD,hjs,hlj]) hdeps ht hT;have hstep:vU P E ao σc=some (eE os[j] σc):=by
   unfold vU;rw [hout];simp only [eE,hdst]
  refine MW hE hco hds hop hR hstep fun a' w' hR'=>?_;have hq:∀ i,i < os.length->(listed.setIfInBounds j true).getD i false=(listed.getD i false || i == j):=by
   intro i hi;have his:i < listed.size:=by rw [hsz,<- hS.olen];exact hi
   by_cases hij:i=j
   ·subst hij;simp [hjs]
   ·rw [getD_set_ne false (Ne.symm hij)];simp [hij]
  obtain⟨h1,h2⟩:=hadd (fun i=>(listed.setIfInBounds j true).getD i false) hq;have hjU:j ∈ U:=(hU j).2 (by simp [hjs,hlj]);refine ih (U.erase j) (listed.setIfInBounds j true) _ a' w' hR' (by simpa using hsz) (hnd.erase j) (fun i=>?_) (by rw [List.length_erase_of_mem hjU,hlen];rfl) (fun i o ho hi e he hb=>?_) h1 h2 hsv
  ·rw [hnd.mem_erase_iff,hU]
   by_cases hij:i=j
   ·subst hij;simp [hjs]
   ·rw [Array.getElem?_setIfInBounds_ne (Ne.symm hij)];simp [hij]
  ·have his:i < os.length:=by rw [hS.olen];exact (Array.getElem?_eq_some_iff.1 ho).1
   have hon:e.on < os.length:=by have:=hS.back i o ho e he hb;omega
   simp only [hq i his,Bool.or_eq_true,beq_iff_eq] at hi;simp only [hq e.on hon,Bool.or_eq_true,beq_iff_eq];rcases hi with hi | hi
   ·exact .inl (hcl i o ho hi e he hb)
   ·subst hi
    rw [hop] at ho;simp only [zaI] at ho;subst ho;exact .inl (hdeps e he hb)
theorem apt (hE:dy P E)(hm:P.follows .mixedOrders=true)(hds:m7 nt ops=true)(hc:cN P mvs nt ops ops.toList=some as)(hb:V3 ops bef=true)(hp:Ae as bef prs=true)
  (ho:iG P E as σ=some (os,σ')) (hd:prs.all (sc os)=true) {id:Nat} {Q:Exit->Act->World->Prop} (hR:Rel w0 N0 nt svv σ a w)
  (hQ:∀ a' w',Rel w0 N0 nt svv σ' a' w'->Q .normal a' w'):(Code.region id ops true).wpIn (Fw r) n P Q a w:=by
 have hS:=alw hc hb hp ho hd;obtain⟨h3,h4,h5⟩:=rX as σ os σ' 0 ho;have e1:∀ (l:List dv) (k:Nat) (σ:St),bZ (fun i=>(Array.replicate ops.size false).getD i false) k l σ=σ:=by
  intro l
  induction l with
  | nil=>intro k σ;rfl
  | cons o l ih=>
   intro k σ;simp only [bZ,ih];rw [if_neg];simp only [Array.getD_eq_getD_getElem?,Array.getElem?_replicate];split <;> simp
 refine wpIn_region_any hm (ayk hE hds hc hS h4 h5 hQ ops.size (List.range ops.size) (Array.replicate ops.size false) σ a _ hR.drew (by simp) List.nodup_range (fun j=>?_) (by simp) (fun j o hj hp=>?_) (fun t=>by rw [e1]) (fun m=>by rw [e1]) rfl)
 ·rw [List.mem_range,Array.getElem?_replicate]
  split <;> simp_all
 ·simp only [Array.getD_eq_getD_getElem?,Array.getElem?_replicate] at hp
  split at hp <;> simp at hp
theorem yV:∀ (as:List bp) (σ σ':St),rR P E as σ=some σ'->∃ os,iG P E as σ=some (os,σ')
 | [],σ,σ',h=>by simp only [rR,zaI] at h;subst h;exact⟨[],rfl⟩
 | ao::l,σ,σ',h=>by
  simp only [rR,vU] at h;split at h
  ·rename_i σ1 h1
   split at h1
   ·rename_i y es hout
    simp only [zaI] at h1;subst h1;obtain⟨os,hos⟩:=yV l _ _ h;exact⟨⟨ao.dst,y,es,lkA σ ao es⟩::os,by simp only [iG,hout,hos]⟩
   ·cases h1
  ·cases h
set_option linter.unusedVariables false
variable {P:Program}{E:Env}{w0:fC}{w w':World}{N0:Nat->Prop}{g g':Gh}{T T':Tab}{nt:Nat}{svv:Array Value}{a:Act}{σ σ':St}
def dY {α:Type}:List Nat->List (Nat × α)->List (Nat × α)
 | [],_=>[]
 | k::r,l=>match an l k with
  | some x=>(k,x)::dY r l
  | none=>dY r l
theorem gl {α:Type}(ks:List Nat)(l:List (Nat × α))(n:Nat)(x:α)(h:an (dY ks l) n=some x):an l n=some x:=by
 induction ks with
 | nil=>simp [dY,an] at h
 | cons k r ih=>
  simp only [dY] at h;split at h
  ·rename_i y hy
   simp only [an] at h;split at h
   ·rename_i hk
    subst hk;rw [hy];exact h
   ·exact ih h
  ·exact ih h
theorem E6 {α:Type}(ks:List Nat)(l:List (Nat × α))(n:Nat)(hn:n ∈ ks):an (dY ks l) n=an l n:=by
 induction ks with
 | nil=>simp at hn
 | cons k r ih=>
  simp only [dY];by_cases hk:k=n
  ·subst hk
   cases hy:an l k with
   | none=>
    simp only;cases hq:an (dY r l) k with
    | none=>rfl
    | some z=>rw [<- hy];exact (gl r l k z hq).symm
   | some y=>simp [an]
  ·have hn':n ∈ r:=by
    rcases List.mem_cons.1 hn with h | h
    ·exact absurd h.symm hk
    ·exact h
   split
   ·simp only [an,if_neg hk];exact ih hn'
   ·exact ih hn'
def qV:List Cap->List Nat
 | []=>[]
 | .ptr n::r=>n::qV r
 | .d _::r=>qV r
def C9:C->List Nat
 | .ref n | .eptr n _ _ | .ptr n _ | .sub n _ _=>[n]
 | .fn _ caps=>qV caps
 | _=>[]
def kJ:List C->List Nat
 | []=>[]
 | c::r=>C9 c++kJ r
def A1:List (Bool × List C)->List Nat
 | []=>[]
 | p::r=>kJ p.2++A1 r
def afJ:AV->List Nat
 | .val _ cs=>kJ cs
 | .tup l=>A1 l
theorem Cj {cs:List C}{i:Nat}{c:C}(h:cs[i]?=some c){n:Nat}(hn:n ∈ C9 c):n ∈ kJ cs:=by
 induction cs generalizing i with
 | nil=>simp at h
 | cons x r ih=>
  simp only [kJ,List.mem_append];cases i with
  | zero=>simp at h;subst h;exact .inl hn
  | succ i=>exact .inr (ih (by simpa using h))
theorem L9 {l:List (Bool × List C)}{i:Nat}{p:Bool × List C}(h:l[i]?=some p){n:Nat}(hn:n ∈ kJ p.2):n ∈ A1 l:=by
 induction l generalizing i with
 | nil=>simp at h
 | cons x r ih=>
  simp only [A1,List.mem_append];cases i with
  | zero=>simp at h;subst h;exact .inl hn
  | succ i=>exact .inr (ih (by simpa using h))
theorem NT {caps:List Cap}{i n:Nat}(h:caps[i]?=some (.ptr n)):n ∈ qV caps:=by
 induction caps generalizing i with
 | nil=>simp at h
 | cons x r ih=>
  cases i with
  | zero=>simp at h;subst h;simp [qV]
  | succ i=>
   have:=ih (i:=i) (by simpa using h);cases x <;> simp [qV,this]
theorem dr.sub (hd:∀ d v,aX w (aB N0 g T) d v->aX w (aB N0 g T') d v){c:C}{v:Value}(h:dr w (aB N0 g T) g T c v)(hr:∀ n ∈ C9 c,(an T n).isSome->(an T' n).isSome):dr w (aB N0 g T') g T' c v:=by
 cases c with
 | d x=>exact hd _ _ h
 | nils=>exact h
 | und=>exact h
 | unk=>trivial
 | yld l=>exact h
 | ref n=>exact⟨hr n (by simp [C9]) h.1,h.2⟩
 | sub n lo hi=>exact⟨hr n (by simp [C9]) h.1,h.2⟩
 | ptr n off=>exact⟨hr n (by simp [C9]) h.1,h.2⟩
 | eptr n i off=>exact⟨hr n (by simp [C9]) h.1,h.2⟩
 | fn f caps=>
  obtain⟨cs,h1,h2,h3⟩:=h;refine⟨cs,h1,h2,fun i c x hc hx=>?_⟩;have:=h3 i c x hc hx;cases c with
  | d y=>exact hd _ _ this
  | ptr n=>exact⟨hr n (NT hc) this.1,this.2⟩
theorem gq.sub (hd:∀ d v,aX w (aB N0 g T) d v->aX w (aB N0 g T') d v){b:Bool}{cs:List C}{v:Value}(h:gq w (aB N0 g T) g T b cs v)(hr:∀ n ∈ kJ cs,(an T n).isSome->(an T' n).isSome) :
  gq w (aB N0 g T') g T' b cs v:=by
 cases b with
 | true=>
  obtain⟨xs,h1,h2,h3⟩:=h;exact⟨xs,h1,h2,fun i c x hc hx=>(h3 i c x hc hx).sub hd fun n hn=>hr n (Cj hc hn)⟩
 | false=>
  obtain⟨c,rfl,h2⟩:=h;exact⟨c,rfl,h2.sub hd fun n hn=>hr n (by simp [kJ,hn])⟩
theorem aT.sub (hd:∀ d v,aX w (aB N0 g T) d v->aX w (aB N0 g T') d v){x:AV}{v:Value}(h:aT w (aB N0 g T) g T x v)(hr:∀ n ∈ afJ x,(an T n).isSome->(an T' n).isSome) :
  aT w (aB N0 g T') g T' x v:=by
 cases x with
 | val b cs=>exact gq.sub hd h hr
 | tup l=>
  obtain⟨xs,h1,h2,h3⟩:=h;exact⟨xs,h1,h2,fun i p x hp hx=>(h3 i p x hp hx).sub hd fun n hn=>hr n (L9 hp hn)⟩
def inN (l:List Nat)(n:Nat):Bool:=l.any fun m=>m == n
def MA (l:List Nat):List Nat->Bool
 | []=>true
 | n::r=>inN l n && MA l r
theorem rK {l m:List Nat}(h:MA l m=true):∀ n ∈ m,inN l n=true:=by
 induction m with
 | nil=>simp
 | cons x r ih=>
  simp only [MA,Bool.and_eq_true] at h;intro n hn;rcases List.mem_cons.1 hn with rfl | hn
  ·exact h.1
  ·exact ih h.2 n hn
def ar5:List Nat->List Nat->List Nat
 | acc,[]=>acc.reverse
 | acc,n::r=>if inN acc n then ar5 acc r else ar5 (n::acc) r
theorem Jd {l:List Nat}{n:Nat}:inN l n=true ↔ n ∈ l:=by
 simp [inN]
def CX (T:Tab):List (Nat × AV)->List Nat
 | []=>[]
 | (_,x)::r=>bA T x++CX T r
def Ol:List (Nat × AV)->List Nat
 | []=>[]
 | (_,x)::r=>afJ x++Ol r
def Fm:Tab->List Nat
 | []=>[]
 | (_,.box cs)::r=>kJ cs++Fm r
 | _::r=>Fm r
def gcA (σ:St):Option St:=
 let l:=ar5 [] (CX σ.tab σ.tmps++CX σ.tab σ.sv)
 let T:=dY l σ.tab
 if MA l (Ol σ.tmps++Ol σ.sv) && MA l (Fm T) then some ⟨σ.tmps,T,σ.sv⟩ else none
theorem FF {tmps:List (Nat × AV)}{t:Nat}{x:AV}(h:an tmps t=some x){n:Nat}(hn:n ∈ afJ x):n ∈ Ol tmps:=by
 induction tmps with
 | nil=>simp [an] at h
 | cons p r ih=>
  obtain⟨k,y⟩:=p;simp only [an] at h;simp only [Ol,List.mem_append];split at h
  ·simp only [zaI] at h;subst h;exact .inl hn
  ·exact .inr (ih h)
theorem aa4 {T:Tab}{k:Nat}{cs:List C}(h:an T k=some (.box cs)){n:Nat}(hn:n ∈ kJ cs):n ∈ Fm T:=by
 induction T with
 | nil=>simp [an] at h
 | cons p r ih=>
  obtain⟨m,e⟩:=p;simp only [an] at h;split at h
  ·simp only [zaI] at h;subst h;simp only [Fm,List.mem_append];exact .inl hn
  ·have:=ih h
   cases e <;> simp [Fm,this]
theorem Rel.keep (h:Rel w0 N0 nt svv σ a w)(l:List Nat):Rel w0 N0 nt svv ⟨dY l σ.tmps,σ.tab,σ.sv⟩ a w:=by
 obtain⟨g,hM,hS,hsz,hd,hS2⟩:=h;exact⟨g,hM,fun t x hx=>hS t x (gl _ _ _ _ hx),hsz,hd,hS2⟩
theorem Rel.gc (h:Rel w0 N0 nt svv σ a w)(hg:gcA σ=some σ'):Rel w0 N0 nt svv σ' a w:=by
 obtain⟨g,hM,hS,hsz,hd,hS2⟩:=h;simp only [gcA] at hg;split at hg
 ·rename_i hc
  simp only [Bool.and_eq_true] at hc;simp only [zaI] at hg;subst hg;generalize hl:ar5 [] (CX σ.tab σ.tmps++CX σ.tab σ.sv)=l at hc;have hsub:∀ n e,an (dY l σ.tab) n=some e->an σ.tab n=some e:=fun n e he=>gl _ _ _ _ he;have hlive:∀ n,live (dY l σ.tab) n->live σ.tab n:=fun n hn=>by
   unfold live at hn ⊢;cases he:an (dY l σ.tab) n with
   | none=>rw [he] at hn;exact hn.elim
   | some e=>rw [he] at hn;rw [hsub n e he];exact hn
  have hav:∀ b,aB N0 g (dY l σ.tab) b->aB N0 g σ.tab b:=fun b hb=>by
   rcases hb with hb | ⟨m,h1,h2⟩
   ·exact .inl hb
   ·exact .inr ⟨m,hlive m h1,h2⟩
  have hdr:∀ d v,aX w (aB N0 g σ.tab) d v->aX w (aB N0 g (dY l σ.tab)) d v:=fun d v hx=>hx.mono (Nat.le_refl _) (fun _ _ _=>rfl) fun b _ hb=>hav b hb;have hin:∀ n,inN l n=true->(an σ.tab n).isSome->(an (dY l σ.tab) n).isSome:=fun n h1 h2=>by rw [E6 _ _ _ (Jd.1 h1)];exact h2
  refine⟨g,⟨hM.below,fun n e he=>?_,fun n m b hn hm=>hM.inj n m b (hlive n hn) (hlive m hm),fun n b hn=>hM.rng n b (hlive n hn),hM.n0⟩,fun t x hx=>(hS t x hx).sub hdr fun n hn=>hin n (rK hc.1 n (List.mem_append_left _ (FF hx hn))),hsz,hd,
   fun t x hx=>(hS2 t x hx).sub hdr fun n hn=>hin n (rK hc.1 n (List.mem_append_right _ (FF hx hn)))⟩
  have h0:=hM.ents n e (hsub n e he);cases e with
  | box cs=>
   obtain⟨b,cells,t,h1,h2,h3,h4,h5⟩:=h0;exact⟨b,cells,t,h1,h2,h3,fun i c x hc' hx=>(h4 i c x hc' hx).sub hdr fun m hm=>hin m (rK hc.2 m (aa4 he (Cj hc' hm))),h5⟩
  | own sz rows=>
   refine⟨?_,h0.2⟩;rcases h0.1 with x | ⟨b,off,cap,cells,t,fz,h1,h2,h3,h4,h5,h6,h7,h8,h9,h10⟩
   ·exact .inl x
   ·exact .inr ⟨b,off,cap,cells,t,fz,h1,h2,h3,h4,h5,h6,h7,h8,h9,fun i j r d hr hd=>by
     obtain⟨c,hc,hx⟩:=h10 i j r d hr hd;exact⟨c,hc,hdr _ _ hx⟩⟩
  | imm rows=>exact⟨hdr _ _ h0.1,h0.2⟩
  | dead=>trivial
 ·cases hg
def gu (n m k:Nat):Nat:=if k=n then m else if k=m then n else k
theorem cB (n m k:Nat):gu n m (gu n m k)=k:=by
 unfold gu;by_cases h1:k=n
 ·subst h1
  by_cases h2:m=k
  ·simp [h2]
  ·simp [h2]
 ·by_cases h2:k=m
  ·subst h2;simp [h1]
  ·simp [h1,h2]
def arH (n m:Nat):Cap->Cap
 | .ptr k=>.ptr (gu n m k)
 | .d x=>.d x
def yY (n m:Nat):C->C
 | .ref k=>.ref (gu n m k)
 | .ptr k off=>.ptr (gu n m k) off
 | .eptr k i off=>.eptr (gu n m k) i off
 | .sub k lo hi=>.sub (gu n m k) lo hi
 | .fn f caps=>.fn f (caps.map (arH n m))
 | .d x=>.d x
 | .nils=>.nils
 | .und=>.und
 | .unk=>.unk
 | .yld l=>.yld l
def ahC (n m:Nat):AV->AV
 | .val b cs=>.val b (cs.map (yY n m))
 | .tup l=>.tup (l.map fun p=>(p.1,p.2.map (yY n m)))
def ac0 (n m:Nat):aL->aL
 | .box cs=>.box (cs.map (yY n m))
 | .own sz rows=>.own sz rows
 | .imm rows=>.imm rows
 | .dead=>.dead
def rj (n m:Nat):Tab->Tab
 | []=>[]
 | (k,e)::r=>(gu n m k,ac0 n m e)::rj n m r
def Fr (n m:Nat):List (Nat × AV)->List (Nat × AV)
 | []=>[]
 | (k,x)::r=>(k,ahC n m x)::Fr n m r
def Gx (n m:Nat)(σ:St):St:=⟨Fr n m σ.tmps,rj n m σ.tab,Fr n m σ.sv⟩
theorem BO {n m:Nat}(l:List (Nat × AV))(t:Nat):an (Fr n m l) t=(an l t).map (ahC n m):=by
 induction l with
 | nil=>rfl
 | cons p r ih=>
  obtain⟨k,x⟩:=p;simp only [Fr,an];split <;> simp_all
theorem rV {n m:Nat}(l:Tab)(t:Nat):an (rj n m l) t=(an l (gu n m t)).map (ac0 n m):=by
 induction l with
 | nil=>rfl
 | cons p r ih=>
  obtain⟨k,x⟩:=p;simp only [rj,an];by_cases h:k=gu n m t
  ·subst h;simp [cB]
  ·rw [if_neg h,if_neg (fun hk=>h (by rw [<- hk,cB]))]
   exact ih
def Gh.swap (g:Gh)(n m:Nat):Gh:=⟨fun k=>g.blk (gu n m k),fun k=>g.sv (gu n m k),fun k=>g.st (gu n m k)⟩
theorem ll {n m k:Nat}:live (rj n m T) k ↔ live T (gu n m k):=by
 unfold live;rw [rV];cases an T (gu n m k) with
 | none=>rfl
 | some e=>cases e <;> simp [ac0]
theorem rG {n m:Nat}:aB N0 (g.swap n m) (rj n m T)=aB N0 g T:=by
 funext b;simp only [aB,eq_iff_iff];constructor
 ·rintro (h | ⟨k,h1,h2⟩)
  ·exact .inl h
  ·exact .inr ⟨gu n m k,ll.1 h1,h2⟩
 ·rintro (h | ⟨k,h1,h2⟩)
  ·exact .inl h
  ·exact .inr ⟨gu n m k,ll.2 (by rw [cB];exact h1),by simp only [Gh.swap,cB];exact h2⟩
theorem dr.swap {N:Nat->Prop}{n m:Nat}{c:C}{v:Value}(h:dr w N g T c v):dr w N (g.swap n m) (rj n m T) (yY n m c) v:=by
 have hs:∀ k,(an T k).isSome->(an (rj n m T) (gu n m k)).isSome:=fun k hk=>by rw [rV,cB];simpa using hk
 cases c with
 | d x=>exact h
 | nils=>exact h
 | und=>exact h
 | unk=>trivial
 | yld l=>exact h
 | ref k=>exact⟨hs k h.1,by simp only [Gh.swap,cB];exact h.2.1,h.2.2⟩
 | sub k lo hi=>exact⟨hs k h.1,by simp only [Gh.swap,cB];exact h.2⟩
 | ptr k off=>exact⟨hs k h.1,by simp only [Gh.swap,cB];exact h.2⟩
 | eptr k i off=>exact⟨hs k h.1,by simp only [Gh.swap,cB];exact h.2⟩
 | fn f caps=>
  obtain⟨cs,h1,h2,h3⟩:=h;refine⟨cs,h1,by simpa using h2,fun i c x hc hx=>?_⟩;rw [List.getElem?_map] at hc;cases hq:caps[i]? with
  | none=>rw [hq] at hc;cases hc
  | some c'=>
   rw [hq] at hc;simp only [Option.map_some,zaI] at hc;subst hc;have:=h3 i c' x hq hx;cases c' with
   | d y=>exact this
   | ptr k=>exact⟨hs k this.1,by simp only [Gh.swap,cB];exact this.2⟩
theorem gq.swap {N:Nat->Prop}{n m:Nat}{b:Bool}{cs:List C}{v:Value}(h:gq w N g T b cs v):gq w N (g.swap n m) (rj n m T) b (cs.map (yY n m)) v:=by
 cases b with
 | true=>
  obtain⟨xs,h1,h2,h3⟩:=h;refine⟨xs,h1,by simpa using h2,fun i c x hc hx=>?_⟩;rw [List.getElem?_map] at hc;cases hq:cs[i]? with
  | none=>rw [hq] at hc;cases hc
  | some c'=>
   rw [hq] at hc;simp only [Option.map_some,zaI] at hc;subst hc;exact (h3 i c' x hq hx).swap
 | false=>
  obtain⟨c,rfl,h2⟩:=h;exact⟨yY n m c,rfl,h2.swap⟩
theorem aT.swap {N:Nat->Prop}{n m:Nat}{x:AV}{v:Value}(h:aT w N g T x v):aT w N (g.swap n m) (rj n m T) (ahC n m x) v:=by
 cases x with
 | val b cs=>exact gq.swap h
 | tup l=>
  obtain⟨xs,h1,h2,h3⟩:=h;refine⟨xs,h1,by simpa using h2,fun i p x hp hx=>?_⟩;rw [List.getElem?_map] at hp;cases hq:l[i]? with
  | none=>rw [hq] at hp;cases hp
  | some p'=>
   rw [hq] at hp;simp only [Option.map_some,zaI] at hp;subst hp;exact (h3 i p' x hq hx).swap
theorem Rel.swap (h:Rel w0 N0 nt svv σ a w)(n m:Nat):Rel w0 N0 nt svv (Gx n m σ) a w:=by
 obtain⟨g,hM,hS,hsz,hd,hS2⟩:=h;refine⟨g.swap n m,⟨hM.below,fun k e he=>?_,fun k l b hk hl bk bl=>?_,fun k b hk=>hM.rng _ b (ll.1 hk),hM.n0⟩,fun t x hx=>?_,hsz,hd,fun t x hx=>?_⟩
 ·simp only [Gx] at he ⊢
  rw [rG];rw [rV] at he;cases hq:an σ.tab (gu n m k) with
  | none=>rw [hq] at he;cases he
  | some e'=>
   rw [hq] at he;simp only [Option.map_some,zaI] at he;subst he;have h0:=hM.ents _ e' hq;cases e' with
   | box cs=>
    obtain⟨b,cells,t,h1,h2,h3,h4,h5⟩:=h0;refine⟨b,cells,t,h1,h2,by simpa using h3,fun i c x hc hx=>?_,fun i c hc=>?_⟩
    ·rw [List.getElem?_map] at hc
     cases hq':cs[i]? with
     | none=>rw [hq'] at hc;cases hc
     | some c'=>
      rw [hq'] at hc;simp only [Option.map_some,zaI] at hc;subst hc;exact (h4 i c' x hq' hx).swap
    ·rw [List.getElem?_map] at hc
     cases hq':cs[i]? with
     | none=>rw [hq'] at hc;cases hc
     | some c'=>
      rw [hq'] at hc;simp only [Option.map_some,zaI] at hc;subst hc;have:=h5 i c' hq';cases c' <;> first | exact this | rfl | (simp [yY,okC] at this ⊢;done) | (simp [yY,okC];done)
   | own sz rows=>exact h0
   | imm rows=>exact h0
   | dead=>trivial
 ·have:=hM.inj _ _ b (ll.1 hk) (ll.1 hl) bk bl
  rw [<- cB n m k,this,cB]
 ·simp only [Gx] at hx ⊢
  rw [rG];rw [BO] at hx;cases hq:an σ.tmps t with
  | none=>rw [hq] at hx;cases hx
  | some x'=>
   rw [hq] at hx;simp only [Option.map_some,zaI] at hx;subst hx;exact (hS t x' hq).swap
 ·simp only [Gx] at hx ⊢
  rw [rG];rw [BO] at hx;cases hq:an σ.sv t with
  | none=>rw [hq] at hx;cases hx
  | some x'=>
   rw [hq] at hx;simp only [Option.map_some,zaI] at hx;subst hx;exact (hS2 t x' hq).swap
structure Ren where
 box:Bool
 at':Nat
 cell:Nat
 nm:Nat
 sz:Nat
def JA (σ:St)(r:Ren):Option C:=
 if r.box then match an σ.tab r.at' with
  | some (.box cs)=>cs[r.cell]?
  | _=>none
 else match an σ.tmps r.at' with
  | some (.val _ cs)=>cs[r.cell]?
  | _=>none
def nameNil (σ:St)(r:Ren):Option St:=
 if (an σ.tab r.nm).isNone then
  if r.box then match an σ.tab r.at' with
   | some (.box cs)=>some ⟨σ.tmps,aput (aput σ.tab r.nm (.own r.sz [])) r.at' (.box (cs.set r.cell (.ref r.nm))),σ.sv⟩
   | _=>none
  else match an σ.tmps r.at' with
   | some (.val b cs)=>some ⟨aput σ.tmps r.at' (.val b (cs.set r.cell (.ref r.nm))),aput σ.tab r.nm (.own r.sz []),σ.sv⟩
   | _=>none
 else none
def afh (σ:St)(r:Ren):Option St:=
 match JA σ r with
 | some .nils=>if r.sz=0 then some σ else nameNil σ r
 | some (.ref n)=>if n=r.nm then some σ else some (Gx n r.nm σ)
 | _=>some σ
def aca (σ:St)(r:Ren):Option St:=
 if r.sz=999999 then some ⟨σ.tmps,aputs σ.tab (aS σ.tab [r.nm]),σ.sv⟩ else afh σ r
theorem vk {N:Nat->Prop}{cs:List C}{xs:Array Value}{k m:Nat}(h0:cs.length=xs.size)(h:∀ (i:Nat) (c:C) (x:Value),cs[i]?=some c->xs[i]?=some x->dr w N g T c x)(hk:cs[k]?=some .nils)
  (hs:(an T m).isSome) (hv:g.sv m=.slice none 0 0):∀ (i:Nat) (c:C) (x:Value),(cs.set k (.ref m))[i]?=some c->xs[i]?=some x->dr w N g T c x:=by
 intro i c x hc hx;rw [List.getElem?_set] at hc;split at hc
 ·rename_i hki
  subst hki;split at hc
  ·simp only [zaI] at hc
   subst hc;have:=h k .nils x hk hx;exact⟨hs,by rw [hv];exact this,_,_,_,this⟩
  ·cases hc
 ·exact h i c x hc hx
theorem Rel.nameNil (h:Rel w0 N0 nt svv σ a w){r:Ren}(hc:JA σ r=some .nils)(hr:nameNil σ r=some σ'):Rel w0 N0 nt svv σ' a w:=by
 obtain⟨g,hM,hS,hsz,hd,hS2⟩:=h;unfold AM.nameNil at hr;split at hr
 ·rename_i hf
  have hf':an σ.tab r.nm=none:=by simpa using hf
  obtain⟨hM1,hK1⟩:=hM.create (n:=r.nm) (e:=.own r.sz []) (ob:=none) (sv:=.slice none 0 0) (s:=r.sz) hf' (Below.refl _ _) (fun b hb=>by cases hb) (fun _=>⟨.inl ⟨by simp [Gh.set],rfl,by simp [Gh.set]⟩,by simp [Gh.set]⟩);have hsv:(g.set r.nm none (.slice none 0 0) r.sz).sv r.nm=.slice none 0 0:=by simp [Gh.set]
  have hsome:(an (aput σ.tab r.nm (.own r.sz [])) r.nm).isSome:=by rw [bx];rfl
  generalize g.set r.nm none (.slice none 0 0) r.sz=g1 at hM1 hK1 hsv;split at hr
  ·rename_i hb
   split at hr
   ·rename_i cs hcs
    simp only [zaI] at hr;subst hr;have hne:r.at' ≠ r.nm:=fun e=>by rw [e,hf'] at hcs;cases hcs
    have hcs1:an (aput σ.tab r.nm (.own r.sz [])) r.at'=some (.box cs):=by rw [bJ _ _ hne];exact hcs
    have hcell:cs[r.cell]?=some .nils:=by simpa [JA,hb,hcs] using hc
    obtain⟨b,cells,t,h1,h2,h3,h4,h5⟩:=hM1.ents _ _ hcs1;have hl:live (aput σ.tab r.nm (.own r.sz [])) r.at':=by unfold live;rw [hcs1];trivial
    obtain⟨hM2,hK2⟩:=hM1.write (w':=w) (e:=.box (cs.set r.cell (.ref r.nm))) hl h1 trivial ⟨rfl,rfl,rfl,Nat.le_refl _,fun _ _ _=>rfl⟩ rfl (fun hK=>by
     refine⟨b,cells,t,h1,h2,by simpa using h3,fun i c x hci hx=>?_,fun i c hci=>?_⟩
     ·refine vk (by omega) (fun i c x hci hx=>hK.c (h4 i c x hci hx)) hcell (gx hsome) hsv i c x hci hx
     ·rw [List.getElem?_set] at hci
      split at hci
      ·split at hci
       ·simp only [zaI] at hci;subst hci;rfl
       ·cases hci
      ·exact h5 i c hci)
    exact⟨g1,hM2,fun t x hx=>hK2.a (hK1.a (hS t x hx)),hsz,hd,fun t x hx=>hK2.a (hK1.a (hS2 t x hx))⟩
   ·cases hr
  ·rename_i hb
   split at hr
   ·rename_i b cs hcs
    simp only [zaI] at hr;subst hr;have hcell:cs[r.cell]?=some .nils:=by simpa [JA,hb,hcs] using hc
    refine⟨g1,hM1,fun t x hx=>?_,hsz,hd,fun t x hx=>hK1.a (hS2 t x hx)⟩;rw [cM] at hx;split at hx
    ·rename_i ht
     subst ht;simp only [zaI] at hx;subst hx;have:=hK1.a (hS _ _ hcs);cases b with
     | true=>
      obtain⟨xs,e1,e2,e3⟩:=this;exact⟨xs,e1,by simpa using e2,vk e2 e3 hcell hsome hsv⟩
     | false=>
      obtain⟨c,e1,e2⟩:=this;subst e1;have h0:r.cell=0:=by
       rcases Nat.eq_zero_or_pos r.cell with h | h
       ·exact h
       ·rw [List.getElem?_eq_none (by simp;omega)] at hcell;cases hcell
      rw [h0] at hcell ⊢;simp only [List.getElem?_cons_zero,zaI] at hcell;subst hcell;exact⟨.ref r.nm,rfl,hsome,by rw [hsv];exact e2,_,_,_,e2⟩
    ·exact hK1.a (hS t x hx)
   ·cases hr
 ·cases hr
theorem Rel.ren (h:Rel w0 N0 nt svv σ a w){r:Ren}(hr:aca σ r=some σ'):Rel w0 N0 nt svv σ' a w:=by
 unfold aca at hr;split at hr
 ·simp only [zaI] at hr;subst hr
  obtain⟨g,hM,hS,hsz,hd,hS2⟩:=h;obtain⟨k1,k2,_⟩:=cy [r.nm] hM;exact⟨g,k1,fun u x hu=>k2.a (hS u x hu),hsz,hd,fun u x hu=>k2.a (hS2 u x hu)⟩
 unfold afh at hr;split at hr
 ·rename_i hc
  split at hr
  ·simp only [zaI] at hr;subst hr;exact h
  ·exact h.nameNil hc hr
 ·split at hr
  ·simp only [zaI] at hr;subst hr;exact h
  ·simp only [zaI] at hr;subst hr;exact h.swap _ _
 ·simp only [zaI] at hr;subst hr;exact h
def zi:List Ren->St->Option St
 | [],σ=>some σ
 | r::l,σ=>match aca σ r with
  | some σ'=>zi l σ'
  | none=>none
def aem:List C->Option (List DC)
 | []=>some []
 | .d x::r=>(aem r).map fun l=>x::l
 | _::_=>none
def fzA (σ:St)(t:Nat):St:=
 match an σ.tmps t with
 | some (.val false [.ptr n off])=>match an σ.tab n with
  | some (.box cs)=>match aem cs with
   | some ds=>⟨aput σ.tmps t (.val false [.d (.cref ds off)]),aputs σ.tab (aS σ.tab [n]),σ.sv⟩
   | none=>σ
  | _=>σ
 | some (.val b cs)=>match cQ σ.tab cs with
  | some (ds,es)=>⟨aput σ.tmps t (.val b (ds.map .d)),aputs σ.tab es,σ.sv⟩
  | none=>σ
 | _=>σ
def aog:List Nat->St->St
 | [],σ=>σ
 | t::l,σ=>aog l (fzA σ t)
theorem Oj:∀ {cs:List C} {ds:List DC},aem cs=some ds->ds.length=cs.length/\∀ (i:Nat) (d:DC),ds[i]?=some d->cs[i]?=some (.d d)
 | [],ds,h=>by simp only [aem,zaI] at h;subst h;exact⟨rfl,fun i d h=>by simp at h⟩
 | .d x::r,ds,h=>by
  simp only [aem,Option.map_eq_some_iff] at h;obtain⟨l,hl,rfl⟩:=h;obtain⟨h1,h2⟩:=Oj hl;refine⟨by simp [h1],fun i d hd=>?_⟩;cases i with
  | zero=>simp only [List.getElem?_cons_zero,zaI] at hd;subst hd;rfl
  | succ i=>exact h2 i d (by simpa using hd)
theorem Rel.fz (h:Rel w0 N0 nt svv σ a w)(t:Nat):Rel w0 N0 nt svv (fzA σ t) a w:=by
 obtain⟨g,hM,hS,hsz,hd,hS2⟩:=h;unfold fzA;split
 ·rename_i m off hcs
  split
  ·rename_i cs hm
   split
   ·rename_i ds hds
    obtain⟨k1,k2,_⟩:=cy [m] hM;refine⟨g,k1,fun u x hu=>?_,hsz,hd,fun u x hu=>k2.a (hS2 u x hu)⟩;rw [cM] at hu;split at hu
    ·rename_i ht;subst ht;simp only [zaI] at hu;subst hu
     have hav:=bf (hS _ _ hcs) (show de (.val false [.ptr m off])=some (.ptr m off) from rfl);obtain⟨_,b,hb,hv⟩:=hav;obtain⟨b',cells,ty,hb',hh,hsz',hc,_⟩:=hM.ents m _ hm;rw [hb] at hb';cases hb';obtain⟨hl,hg⟩:=Oj hds;have hlive:live σ.tab m:=by simp [live,hm]
     obtain⟨r1,r2⟩:=hM.rng m b hlive hb;have hfn:aS σ.tab [m]=[(m,.dead)]:=by simp [aS,hm]
     refine⟨_,rfl,?_⟩;rw [hv];have key:=aX.cref (w:=w) (N:=aB N0 g (aputs σ.tab (aS σ.tab [m]))) (cs:=ds) (b:=b) (o:=0) (off:=off) (fun j=>(cells[j]?).getD undef) (by
       rw [hfn]
       rintro (h | ⟨q,h1,h2⟩)
       ·have:=hM.n0 b h;rcases r1 with h3 | h3
        ·omega
        ·exact this.2 h3
       ·have hq:q ≠ m:=by rintro rfl;simp [live,aputs,bx] at h1
        have h1':live σ.tab q:=by
         unfold live at h1 ⊢
         rwa [show aputs σ.tab [(m,aL.dead)]=aput σ.tab m .dead from rfl,bJ _ _ hq] at h1
        exact hq (hM.inj q m b h1' hlive h2 hb)) r2
      (fun j hj=>by
       have:j < cells.size:=by omega
       simp [World.cell?,hh,this])
      (fun j d hj=>by
       have h4:=hg j d hj;have hjl:j < cells.size:=by rw [hsz'];exact (List.getElem?_eq_some_iff.1 h4).1
       have:=hc j _ cells[j] h4 (by simp [hjl]);have h5:=k2.d d cells[j] this;simpa [hjl] using h5)
     rw [Nat.zero_add] at key;exact key
    ·exact k2.a (hS u x hu)
   ·exact⟨g,hM,hS,hsz,hd,hS2⟩
  ·exact⟨g,hM,hS,hsz,hd,hS2⟩
 ·rename_i b cs hnp hcs
  split
  ·rename_i ds es hf
   have hv:=hS t _ hcs;have key:∀ xs:List Value,dQ w (aB N0 g σ.tab) g σ.tab cs xs->Mem w0 N0 g (aputs σ.tab es) w/\bg N0 g σ.tab w g (aputs σ.tab es) w/\ds.length=cs.length /\
     ∀ (i:Nat) (d:DC) (x:Value),ds[i]?=some d->xs[i]?=some x->aX w (aB N0 g (aputs σ.tab es)) d x:=fun xs hx=>ip hM hx hf
   have fin:∀ (hM2:Mem w0 N0 g (aputs σ.tab es) w) (hK:bg N0 g σ.tab w g (aputs σ.tab es) w),aT w (aB N0 g (aputs σ.tab es)) g (aputs σ.tab es) (.val b (ds.map .d)) (a.tmps.getD t undef) ->
     Rel w0 N0 nt svv ⟨aput σ.tmps t (.val b (ds.map .d)),aputs σ.tab es,σ.sv⟩ a w:=fun hM2 hK hx=>by
    refine⟨g,hM2,fun u x hu=>?_,hsz,hd,fun u x hu=>hK.a (hS2 u x hu)⟩;rw [cM] at hu;split at hu
    ·rename_i ht;subst ht;simp only [zaI] at hu;subst hu;exact hx
    ·exact hK.a (hS u x hu)
   cases b with
   | true=>
    obtain⟨xs,e1,e2,e3⟩:=hv;obtain⟨h1,h2,h3,h4⟩:=key xs.toList ⟨by simpa using e2.symm,fun i c x hc hx=>e3 i c x hc (by simpa using hx)⟩;refine fin h1 h2 ⟨xs,e1,by simp [h3,e2],fun i c x hc hx=>?_⟩;rw [List.getElem?_map] at hc;cases hq:ds[i]? with
    | none=>rw [hq] at hc;cases hc
    | some d=>rw [hq] at hc;simp only [Option.map_some,zaI] at hc;subst hc;exact h4 i d x hq (by simpa using hx)
   | false=>
    obtain⟨c,e1,e2⟩:=hv;subst e1;obtain⟨h1,h2,h3,h4⟩:=key [a.tmps.getD t undef] ⟨rfl,fun i c' x hc hx=>by
     cases i with
     | zero=>simp only [List.getElem?_cons_zero,zaI] at hc hx;subst hc;subst hx;exact e2
     | succ i=>simp at hc⟩
    match ds,h3 with
    | [d],_=>exact fin h1 h2 ⟨.d d,rfl,h4 0 d _ rfl rfl⟩
  ·exact⟨g,hM,hS,hsz,hd,hS2⟩
 ·exact⟨g,hM,hS,hsz,hd,hS2⟩
theorem Rel.fzs:∀ (l:List Nat) {σ:St},Rel w0 N0 nt svv σ a w->Rel w0 N0 nt svv (aog l σ) a w
 | [],_,h=>h
 | t::l,_,h=>Rel.fzs l (h.fz t)
structure bX where
 keep:List Nat
 gc:Bool
 rens:List Ren
 fz:List Nat
def gcO (b:Bool)(σ:St):Option St:=if b then gcA σ else some σ
def adg (t:bX)(σ:St):Option St:=
 match gcO t.gc (aog t.fz ⟨dY t.keep σ.tmps,σ.tab,σ.sv⟩) with
 | some σ1=>match zi t.rens σ1 with
  | some σ2=>gcO t.gc σ2
  | none=>none
 | none=>none
def iJ:Option bX->St->Option St
 | none,σ=>some σ
 | some t,σ=>adg t σ
theorem Rel.rens:∀ (l:List Ren) {σ:St},Rel w0 N0 nt svv σ a w->zi l σ=some σ'->Rel w0 N0 nt svv σ' a w
 | [],σ,h,hr=>by simp only [zi,zaI] at hr;subst hr;exact h
 | r::l,σ,h,hr=>by
  simp only [zi] at hr;split at hr
  ·rename_i σ1 h1;exact Rel.rens l (h.ren h1) hr
  ·cases hr
theorem Rel.gcO (h:Rel w0 N0 nt svv σ a w){b:Bool}(hg:AM.gcO b σ=some σ'):Rel w0 N0 nt svv σ' a w:=by
 unfold AM.gcO at hg;split at hg
 ·exact h.gc hg
 ·simp only [zaI] at hg;subst hg;exact h
theorem Rel.tidy (h:Rel w0 N0 nt svv σ a w){t:Option bX}(ht:iJ t σ=some σ'):Rel w0 N0 nt svv σ' a w:=by
 cases t with
 | none=>simp only [iJ,zaI] at ht;subst ht;exact h
 | some t=>
  simp only [iJ,adg] at ht;split at ht
  ·rename_i σ1 h1
   split at ht
   ·rename_i σ2 h2
    exact ((((h.keep t.keep).fzs t.fz).gcO h1).rens _ h2).gcO ht
   ·cases ht
  ·cases ht
inductive aq where
 | skip
 | ret
 | exit (id:Nat)
 | region (ops:List bp) (prs:List (Nat × Nat)) (td:Option bX)
 | seq (a b:aq)
 | cond (c:Operand) (a b:aq)
 | block (id:Nat) (b:aq)
 | loop (td:Option bX) (b:aq)
 | rangeF (g:Operand) (ps:List Nat) (td:Option bX) (a b:aq)
def rS (o:Option (AV × List (Nat × aL)))(K:AV->List (Nat × aL)->Prop):Prop:=
 match o with
 | some (y,es)=>K y es
 | none=>False
def df (o:Option Bool)(X Y:Prop):Prop:=
 match o with
 | some b=>(b=true->X)/\(b=false->Y)
 | none=>False
def nG (P:Program)(E:Env):List bp->(St->Prop)->St->Prop
 | [],K,σ=>K σ
 | ao::l,K,σ=>df (ew σ.tmps ao.guard) (rS (eff P E σ.tab (evO σ.tmps) (ao.dst.getD 9999) ao.op) fun y es=>nG P E l K (bN σ ao.dst y es))
   (nG P E l K (bN σ ao.dst (.val false [.und]) []))
def gU (P:Program)(E:Env):List bp->(List dv->St->Prop)->List dv->St->Prop
 | [],K,acc,σ=>K acc.reverse σ
 | ao::l,K,acc,σ=>df (ew σ.tmps ao.guard) (rS (eff P E σ.tab (evO σ.tmps) (ao.dst.getD 9999) ao.op) fun y es=>gU P E l K (⟨ao.dst,y,es,lkA σ ao es⟩::acc) (bN σ ao.dst y es))
   (gU P E l K (⟨ao.dst,.val false [.und],[],lkA σ ao []⟩::acc) (bN σ ao.dst (.val false [.und]) []))
def kF (P:Program)(E:Env)(ops:List bp)(prs:List (Nat × Nat))(K:St->Prop)(σ:St):Prop:=
 match prs with
 | []=>nG P E ops K σ
 | _::_=>gU P E ops (fun os σ'=>prs.all (sc os)=true/\K σ') [] σ
def GF (K:St->Prop)(Q:Exit->St->Prop):Exit->St->Prop
 | .normal,σ=>K σ
 | .exit id,σ=>Q (.exit id) σ
 | .ret,σ=>Q .ret σ
 | _,_=>False
def xT (id:Nat)(Q:Exit->St->Prop):Exit->St->Prop
 | .normal,σ=>Q .normal σ
 | .exit id',σ=>if id'=id then Q .normal σ else Q (.exit id') σ
 | .ret,σ=>Q .ret σ
 | _,_=>False
def j7 (o:Option St)(K:St->Prop):Prop:=
 match o with
 | some σ=>K σ
 | none=>False
def rz (f:(Exit->St->Prop)->St->Prop)(td:Option bX)(Q:Exit->St->Prop):Nat->St->Prop
 | 0,_=>False
 | k+1,σ=>j7 (iJ td σ) (f (GF (rz f td Q k) Q))
def Bm:List Nat->List Value->List (Nat × AV)->List (Nat × AV)
 | p::ps,v::vs,l=>Bm ps vs ((p,jp v)::l)
 | _,_,l=>l
def Ip (td:Option bX)(K:St->Prop)(Q:Exit->St->Prop):Exit->St->Prop
 | .normal,σ=>j7 (iJ td ⟨σ.sv,σ.tab,[]⟩) K
 | .ret,σ=>Q .ret ⟨σ.sv,σ.tab,[]⟩
 | .exit id,σ=>Q (.exit id) ⟨σ.sv,σ.tab,[]⟩
 | _,_=>False
def iR (fa fb:(Exit->St->Prop)->St->Prop)(ps:List Nat)(td:Option bX)(Q:Exit->St->Prop):List (List Value)->St->Prop
 | [],σ=>Q .normal σ
 | x::xs,σ=>x.length=ps.length/\fa (GF (fb (Ip td (iR fa fb ps td Q xs) Q)) (fun _ _=>False)) ⟨Bm ps x σ.tmps,σ.tab,σ.tmps⟩
def GZ (E:Env)(x:AV)(sv:List (Nat × AV)):Option (List (List Value)):=
 match de x,sv with
 | some (.d (.fn f caps)),[]=>E.seq f caps
 | some (.fn f []),[]=>E.seq f []
 | _,_=>none
theorem O2 {E:Env}{w:World}{g:Gh}{N:Nat->Prop}{T:Tab}{x:AV}{v:Value}{sv:List (Nat × AV)}{xs:List (List Value)}(hx:aT w N g T x v)(h:GZ E x sv=some xs) :
  ∃ (f:Nat) (caps:List DC) (lb:Array Value),sv=[]/\E.seq f caps=some xs/\v=.func (.func f) #[] lb/\caps.length=lb.size/\∀ (i:Nat) (d:DC) (c:Value),caps[i]?=some d->lb[i]?=some c->aX w N d c:=by
 unfold GZ at h;split at h
 ·rename_i f caps hone
  have hcl:=bf hx hone;cases hcl with
  | @fn _ _ lb hlen hlb=>exact⟨f,caps,lb,rfl,h,rfl,hlen,hlb⟩
 ·rename_i f hone
  obtain⟨cs,rfl,hlen,_⟩:=bf hx hone;exact⟨f,[],cs,rfl,h,rfl,hlen,fun i d c hd=>by simp at hd⟩
 ·cases h
def VC (o:Option (List (List Value)))(K:List (List Value)->Prop):Prop:=
 match o with
 | some xs=>K xs
 | none=>False
def wpA (P:Program)(E:Env):aq->(Exit->St->Prop)->St->Prop
 | .skip,Q,σ=>Q .normal σ
 | .ret,Q,σ=>Q .ret σ
 | .exit id,Q,σ=>Q (.exit id) σ
 | .region ops prs td,Q,σ=>kF P E ops prs (fun σ'=>j7 (iJ td σ') (Q .normal)) σ
 | .seq a b,Q,σ=>wpA P E a (GF (wpA P E b Q) Q) σ
 | .cond c a b,Q,σ=>df (ik (evO σ.tmps c)) (wpA P E a Q σ) (wpA P E b Q σ)
 | .block id b,Q,σ=>wpA P E b (xT id Q) σ
 | .loop td b,Q,σ=>∃ k,rz (wpA P E b) td Q k σ
 | .rangeF g ps td a b,Q,σ=>VC (GZ E (evO σ.tmps g) σ.sv) fun xs=>iR (wpA P E a) (wpA P E b) ps td Q xs σ
def aee (ops:Array Oper):List (List Nat):=
 (ops.toList.foldl (fun (acc:List (List Nat)) o=>
  (((o.after.toList.filter (Region.binds .any)).flatMap fun e=>e.on::((acc.reverse).getD e.on [])).eraseDups)::acc) []).reverse
def ax6 (as:List bp)(bef:List (List Nat)):List (Nat × Nat):=
 (List.range as.length).flatMap fun j=>(List.range j).filterMap fun i=>
  if (iH bef j).contains i then none else match as[i]?,as[j]? with
   | some x,some y=>if tP x y then none else some (i,j)
   | _,_=>none
def mW:Code->Nat
 | .region id _ _=>id
 | .seq a b=>match mW a with
  | 0=>mW b
  | k=>k
 | .cond _ a b=>match mW a with
  | 0=>mW b
  | k=>k
 | .block _ b | .loop b | .scope b=>mW b
 | _=>0
def ag6:List (Nat × bX)->List Nat
 | []=>[]
 | (k,_)::r=>if 1000000<=k then (k - 1000000)::ag6 r else ag6 r
def agd (tr:List (Nat × bX))(id:Nat)(x:aq):aq:=
 match an tr (2000000+id) with
 | none=>x
 | some td=>.seq (.region [] [] (some td)) x
def mk (P:Program)(nt:Nat)(tr tl:List (Nat × bX))(top:Bool):Code->Option aq
 | .skip=>some .skip
 | .ret=>some .ret
 | .exit id=>some (.exit id)
 | .region id ops d=>match cN P (ag6 tr) nt ops ops.toList with
  | some as=>
   if m7 nt ops then
    if d then
     if V3 ops (aee ops) && Ae as (aee ops) (ax6 as (aee ops)) then some (agd tr id (.region as (ax6 as (aee ops)) (an tr id))) else none
    else some (agd tr id (.region as [] (an tr id)))
   else none
  | none=>none
 | .seq a b=>match mk P nt tr tl top a,mk P nt tr tl top b with
  | some x,some y=>some (.seq x y)
  | _,_=>none
 | .cond c a b=>match mk P nt tr tl top a,mk P nt tr tl top b with
  | some x,some y=>some (.cond c x y)
  | _,_=>none
 | .block id b=>(mk P nt tr tl top b).map (.block id)
 | .loop b=>(mk P nt tr tl top b).map (.loop (an tl (mW b)))
 | .rangeFunc g ps a b=>if top && ps.toList.all (fun p=>decide (p < nt)) then match mk P nt tr tl false a,mk P nt tr tl false b with
   | some x,some y=>some (.rangeF g ps.toList (an tl (mW b)) x y)
   | _,_=>none
  else none
 | _=>none
variable {P:Program}{E:Env}{w0:fC}{w w':World}{N0:Nat->Prop}{g g':Gh}{T T':Tab}{r:Option Nat}{n nt:Nat}{svv:Array Value}{a:Act}{σ σ':St}{tr tl:List (Nat × bX)}
theorem jB {o:Option St}{K:St->Prop}(h:j7 o K):∃ σ,o=some σ/\K σ:=by
 cases o with
 | none=>exact h.elim
 | some σ=>exact⟨σ,rfl,h⟩
theorem dU {o:Option Bool}{X Y:Prop}(h:df o X Y):(o=some true/\X)\/(o=some false/\Y):=by
 cases o with
 | none=>exact h.elim
 | some b=>cases b with
  | true=>exact .inl ⟨rfl,h.1 rfl⟩
  | false=>exact .inr ⟨rfl,h.2 rfl⟩
theorem g8 {o:Option (AV × List (Nat × aL))}{K:AV->List (Nat × aL)->Prop}(h:rS o K):∃ y es,o=some (y,es)/\K y es:=by
 cases o with
 | none=>exact h.elim
 | some p=>exact⟨p.1,p.2,rfl,h⟩
theorem qp {K:St->Prop}:∀ (l:List bp) (σ:St),nG P E l K σ->∃ σ',rR P E l σ=some σ'/\K σ'
 | [],σ,h=>⟨σ,rfl,h⟩
 | ao::l,σ,h=>by
  rcases dU h with ⟨h1,h2⟩ | ⟨h1,h2⟩
  ·obtain⟨y,es,h3,h4⟩:=g8 h2
   obtain⟨σ',h5,h6⟩:=qp l _ h4;exact⟨σ',by simp only [rR,vU,na,h1,h3,h5],h6⟩
  ·obtain⟨σ',h5,h6⟩:=qp l _ h2
   exact⟨σ',by simp only [rR,vU,na,h1,h5],h6⟩
theorem r4 {K:List dv->St->Prop}:∀ (l:List bp) (acc:List dv) (σ:St),gU P E l K acc σ->∃ os σ',iG P E l σ=some (os,σ')/\K (acc.reverse++os) σ'
 | [],acc,σ,h=>⟨[],σ,rfl,by rw [List.append_nil];exact h⟩
 | ao::l,acc,σ,h=>by
  rcases dU h with ⟨h1,h2⟩ | ⟨h1,h2⟩
  ·obtain⟨y,es,h3,h4⟩:=g8 h2
   obtain⟨os,σ',h5,h6⟩:=r4 l _ _ h4;exact⟨⟨ao.dst,y,es,lkA σ ao es⟩::os,σ',by simp only [iG,na,h1,h3,h5],by simpa using h6⟩
  ·obtain⟨os,σ',h5,h6⟩:=r4 l _ _ h2
   exact⟨⟨ao.dst,.val false [.und],[],lkA σ ao []⟩::os,σ',by simp only [iG,na,h1,h5],by simpa using h6⟩
def aCU (w0:fC)(N0:Nat->Prop)(nt:Nat)(svv:Array Value)(Q:Exit->St->Prop)(Q':Exit->Act->World->Prop):Prop:=
 ∀ e σ a w,Q e σ->Rel w0 N0 nt svv σ a w->Q' e a w
def LX (P:Program)(E:Env)(nt:Nat)(c:Code)(ac:aq)(r:Option Nat)(top:Bool):Prop:=
 ∀ (n:Nat) (w0:fC) (N0:Nat->Prop) (svv:Array Value) (Q:Exit->St->Prop) (Q':Exit->Act->World->Prop) (σ:St) (a:Act) (w:World),
  (top=true->svv.size=0)->aCU w0 N0 nt svv Q Q'->Rel w0 N0 nt svv σ a w->wpA P E ac Q σ->c.wpIn (Fw r) n P Q' a w
theorem He {N:Nat->Prop}{sz:Nat}:∀ (ps:List Nat) (x:List Value) (l:List (Nat × AV)) (vals:Array Value),vals.size=sz->(∀ p ∈ ps,p < sz)->(∀ v ∈ x,JW v=true)->dw w N g T l vals ->
  ((ps.zip x).foldl (fun t (q:Nat × Value)=>t.setIfInBounds q.1 q.2) vals).size=sz/\dw w N g T (Bm ps x l) ((ps.zip x).foldl (fun t (q:Nat × Value)=>t.setIfInBounds q.1 q.2) vals)
 | [],x,l,vals,hsz,_,_,h=>by cases x <;> exact⟨hsz,h⟩
 | p::ps,[],l,vals,hsz,_,_,h=>⟨hsz,h⟩
 | p::ps,v::x,l,vals,hsz,hp,hx,h=>by
  simp only [List.zip_cons_cons,List.foldl_cons,Bm];exact He ps x _ _ (by simpa using hsz) (fun q hq=>hp q (List.mem_cons_of_mem _ hq)) (fun u hu=>hx u (List.mem_cons_of_mem _ hu))
   (h.put (by rw [hsz];exact hp p (by simp)) (qR v))
theorem HV {N:Nat->Prop}{l:List (Nat × AV)}{vals:Array Value}:dw w N g T l (vals.push undef) ↔ dw w N g T l vals:=by
 have e:∀ t,(vals.push undef).getD t undef=vals.getD t undef:=fun t=>by
  simp only [Array.getD_eq_getD_getElem?,Array.getElem?_push];split
  ·rename_i h;simp [h]
  ·rfl
 unfold dw;simp only [e]
theorem apy {r:Ren}(h:aca σ r=some σ')(hs:σ.sv=[]):σ'.sv=[]:=by
 unfold aca at h;split at h
 ·simp only [zaI] at h;subst h;exact hs
 unfold afh at h;split at h
 ·split at h
  ·simp only [zaI] at h;subst h;exact hs
  ·unfold nameNil at h
   split at h
   ·split at h
    ·split at h
     ·simp only [zaI] at h;subst h;exact hs
     ·cases h
    ·split at h
     ·simp only [zaI] at h;subst h;exact hs
     ·cases h
   ·cases h
 ·split at h
  ·simp only [zaI] at h;subst h;exact hs
  ·simp only [zaI] at h;subst h;simp [Gx,hs,Fr]
 ·simp only [zaI] at h;subst h;exact hs
theorem LP:∀ (l:List Ren) {σ:St},zi l σ=some σ'->σ.sv=[]->σ'.sv=[]
 | [],σ,h,hs=>by simp only [zi,zaI] at h;subst h;exact hs
 | r::l,σ,h,hs=>by
  simp only [zi] at h;split at h
  ·rename_i σ1 h1;exact LP l h (apy h1 hs)
  ·cases h
theorem ajd {b:Bool}(h:gcO b σ=some σ')(hs:σ.sv=[]):σ'.sv=[]:=by
 unfold gcO at h;split at h
 ·simp only [gcA] at h
  split at h
  ·simp only [zaI] at h;subst h;exact hs
  ·cases h
 ·simp only [zaI] at h;subst h;exact hs
theorem Sp:∀ (l:List Nat) {σ:St},σ.sv=[]->(aog l σ).sv=[]
 | [],_,hs=>hs
 | t::l,σ,hs=>Sp l (by
   unfold fzA
   repeat' split
   all_goals exact hs)
theorem apf {td:Option bX}(h:iJ td σ=some σ')(hs:σ.sv=[]):σ'.sv=[]:=by
 cases td with
 | none=>simp only [iJ,zaI] at h;subst h;exact hs
 | some t=>
  simp only [iJ,adg] at h;split at h
  ·rename_i σ1 h1
   split at h
   ·rename_i σ2 h2
    exact ajd h (LP _ h2 (ajd h1 (Sp _ hs)))
   ·cases h
  ·cases h
theorem ai0 (hE:dy P E){g:Operand}{ps:Array Tmp}{ca cb:Code}{aa ab:aq}{td:Option bX}(hps:∀ p ∈ ps.toList,p < nt)(ha:∀ l,LX P E nt ca aa (some l) false)(hb:∀ l,LX P E nt cb ab (some l) false) :
  LX P E nt (.rangeFunc g ps ca cb) (.rangeF g ps.toList td aa ab) none true:=by
 intro n w0 N0 svv Q Q' σ a w hsvv hQ hR hw;obtain⟨g0,hM0,hS0,hsz,hmk,_⟩:=hR;simp only [wpA] at hw;unfold VC at hw;split at hw
 ·rename_i xs hseq0
  obtain⟨f,caps,lb,hsv,hseq,hgv,hlen,hlb⟩:=O2 (gI (a:=a) hS0 g) hseq0
  ·obtain⟨⟨hplain,hiter⟩,fn0,hf0,hbody0,hname0⟩:=hE.seq f caps xs hseq
   refine wpIn_rangeFunc ?_;intro fn hfn;obtain⟨rec,hrec⟩:∃ rec:LoopState->Option Code->Loop,rec=fun st pe=>{ state:=st,pending:=pe,fn,tmps:=a.tmps,params:=ps,assign:=ca,body:=cb,defers:=w.heap.size }:=⟨_,rfl⟩
   obtain⟨W1,hW1⟩:∃ W1,(w.alloc (.deferred (some []))).alloc (.loop (rec .ready none))=W1:=⟨_,rfl⟩
   have hL1:W1.heap[w.heap.size+1]?=some (.loop (rec .ready none)):=by
    rw [<- hW1];have:=World.alloc_heap_new (w.alloc (.deferred (some []))) (.loop (rec .ready none));rwa [World.size_alloc] at this
   have hD1:W1.heap[w.heap.size]?=some (.deferred (some [])):=by
    rw [<- hW1];exact (Below.heap_alloc _ _ _ (by simp)).trans (World.alloc_heap_new w _)
   have hgrow:Below w.heap.size w W1:=by
    rw [<- hW1];exact (((Below.refl _ w).alloc (Nat.le_refl _) _).alloc (by simp) _)
   have hszW:W1.heap.size=w.heap.size+2:=by rw [<- hW1];simp
   obtain⟨hM1,hK1⟩:=hM0.grow hgrow;have hS1:dw W1 (aB N0 g0 σ.tab) g0 σ.tab σ.tmps a.tmps:=fun t x hx=>hK1.a (hS0 t x hx)
   let O:Nat->Prop:=fun b=>uS g0 σ.tab b\/b=w.heap.size+1\/b=w.heap.size
   have hN0:∀ b,N0 b->b < w.heap.size/\¬ uS g0 σ.tab b:=fun b hb=>⟨Nat.lt_of_lt_of_le (hM0.n0 b hb).1 hM0.below.size,fun ⟨m,h1,h2⟩=>by
    have h3:=hM0.n0 b hb;exact (hM0.rng m b h1 h2).1.elim (fun h=>by omega) h3.2⟩
   have hMB:Mem ⟨W1,O⟩ N0 g0 σ.tab W1:=⟨.refl,hM1.ents,hM1.inj,fun m b h1 h2=>⟨.inr (.inl ⟨m,h1,h2⟩),(hM1.rng m b h1 h2).2⟩,fun b hb=>by
    obtain⟨h1,h2⟩:=hN0 b hb;exact⟨by rw [hszW];omega,fun h=>h.elim h2 fun h=>by omega⟩⟩
   have hO:∀ b,O b->uS g0 σ.tab b\/w0.w.heap.size<=b:=fun b hb=>by
    have:=hM0.below.size;rcases hb with h | h | h
    ·exact .inl h
    ·exact .inr (by omega)
    ·exact .inr (by omega)
   have hmk1:∀ (W:World) (g':Gh) (T':Tab),Mem ⟨W1,O⟩ N0 g' T' W->zl w0 svv a.defers W:=fun W g' T' hM=>by
    refine⟨hmk.1,hmk.2.1,fun d hd=>?_⟩;obtain⟨D,h1,h2,h3⟩:=hmk.2.2 d hd;have hlt:=(Array.getElem?_eq_some_iff.1 h3).1;refine⟨D,h1,h2,?_⟩;rw [hM.below.block D (by simp only;omega) fun h=>?_]
    ·rw [hgrow.block D hlt];exact h3
    ·rcases h with h | h | h
     ·exact hM0.not_owned h3 rfl h
     ·omega
     ·omega
   -- the state between two rounds
   let K:List (List Value)->St->Prop:=iR (wpA P E aa) (wpA P E ab) ps.toList td Q
   let Mid:St->World->Prop:=fun τ W=>∃ g',Mem ⟨W1,O⟩ N0 g' τ.tab W/\dw W (aB N0 g' τ.tab) g' τ.tab τ.tmps a.tmps/\τ.sv=[]/\W.heap[w.heap.size]?=some (.deferred (some []))
   let J:Nat->World->Prop:=fun i W=>∃ τ,K (xs.drop i) τ/\Mid τ W/\W.heap[w.heap.size+1]?=some (.loop (rec .ready none))
   let Jx:World->Prop:=fun W=>∃ τ c,((c=Code.ret/\Q .ret τ)\/∃ id,c=Code.exit id/\Q (.exit id) τ)/\Mid τ W/\W.heap[w.heap.size+1]?=some (.loop (rec .done (some c)))
   have hMidGrow:∀ τ W W',Mid τ W->Below W.heap.size W W'->Mid τ W':=fun τ W W' h hb=>by
    obtain⟨g',h1,h2,h3,h4⟩:=h;obtain⟨h5,h6⟩:=h1.grow hb;exact⟨g',h5,fun t x hx=>h6.a (h2 t x hx),h3,by rw [hb.block _ (Array.getElem?_eq_some_iff.1 h4).1];exact h4⟩
   have hMidPut:∀ τ W o o',Mid τ W->W.heap[w.heap.size+1]?=some o->o.isCells=false->Mid τ (W.putObj (w.heap.size+1) o'):=fun τ W o o' h hl ho=>by
    obtain⟨g',h1,h2,h3,h4⟩:=h;obtain⟨h5,h6⟩:=h1.putObj (o':=o') hl ho (.inr (.inr (.inl rfl)));exact⟨g',h5,fun t x hx=>h6.a (h2 t x hx),h3,by rw [World.putObj_heap_other (by omega)];exact h4⟩
   -- a stretch of code within a round
   have stretch:∀ (c:Code) (ac:aq),LX P E nt c ac (some (w.heap.size+1)) false->∀ (Q1:Exit->St->Prop) (Q2:Exit->Act->World->Prop) (τ:St) (tmps:Array Value) (W:World) (o:Obj),wpA P E ac Q1 τ ->
     W.heap[w.heap.size+1]?=some o->o.isCells=false->(∃ g',Mem ⟨W1,O⟩ N0 g' τ.tab W/\dw W (aB N0 g' τ.tab) g' τ.tab τ.tmps tmps/\tmps.size=nt/\dw W (aB N0 g' τ.tab) g' τ.tab τ.sv a.tmps/\W.heap[w.heap.size]?=some (.deferred (some []))) ->
     (∀ e τ' a' W',Q1 e τ'->(∃ g',Mem ⟨W1,O⟩ N0 g' τ'.tab W'/\dw W' (aB N0 g' τ'.tab) g' τ'.tab τ'.tmps a'.tmps/\a'.tmps.size=nt/\dw W' (aB N0 g' τ'.tab) g' τ'.tab τ'.sv a.tmps/\W'.heap[w.heap.size]?=some (.deferred (some []))) ->
      W'.heap[w.heap.size+1]?=some o->(∀ b,b < W1.heap.size->¬ O b->W'.heap[b]?=W1.heap[b]?)->W.heap.size<=W'.heap.size->a'.defers=[]->Q2 e a' W') ->
     c.wpIn ((Fw none).inRound (w.heap.size+1)) (n+1) P Q2 { tmps:=tmps,defers:=[] } W:=by
    intro c ac hsound Q1 Q2 τ tmps W o hwp hl ho hst hpost;obtain⟨g',h1,h2,h3,h4,h5⟩:=hst;refine hsound (n+1) ⟨W,uS g' τ.tab⟩ N0 (a.tmps.push undef) Q1 Q2 τ _ W (fun h=>by cases h) (fun e τ' a' W' hq hR'=>?_) ⟨g',h1.rebase,h2,h3,⟨List.nodup_nil,fun _=>rfl,fun d hd=>by simp at hd⟩,(HV).2 h4⟩ hwp;obtain⟨g2,k1,k2,k3,km,k4'⟩:=hR';have k4:=HV.1 k4';have hdf:a'.defers=[]:=km.2.1 (by simp);have hun:=h1.unbase k1;exact hpost e τ' a' W' hq ⟨g2,hun,k2,k3,k4,h1.others k1 h5 rfl⟩ (h1.others k1 hl ho) (fun b hb hob=>hun.below.block b hb hob) k1.below.size hdf
   refine⟨w.heap.size+1,[{ target:=.collected w.heap.size,args:=#[] }],W1,{ target:=.fn (.func f) lb,args:=#[.func (.yield (w.heap.size+1)) #[] #[]] },W1,f,
    #[.func (.yield (w.heap.size+1)) #[] #[]]++lb,W1,?_,?_,fun _ _=>trivial,?_,fun h=>by simp [Fw,Fence.wide] at h,?_⟩
   ·rw [<- hW1,hrec];exact run_enterLoop_outer _ _ _ _ _
   ·simp only [resolve,hgv]
    simp [go_sem]
   ·simp [invoke,go_sem,iY hf0 hbody0 hname0]
   ·let N:Nat->Prop:=fun b=>aB N0 g0 σ.tab b\/b=w.heap.size+1\/b=w.heap.size
    have hcalls:=hiter W1 N lb (w.heap.size+1) J Jx (n+1) (fun b hb=>by
      rcases hb with h | h | h
      ·exact Ed hM1 h
      ·omega
      ·omega) hlen
     (fun i d v hd hv=>(hlb i d v hd hv).mono hgrow.size (fun b hb _=>hgrow.block b hb) (fun b hb hN=>by
      rcases hN with h | h | h
      ·exact h
      ·omega
      ·omega))
     (fun i W W' ⟨τ,h1,h2,h3⟩ hb=>⟨τ,h1,hMidGrow τ W W' h2 hb,by rw [hb.block _ (Array.getElem?_eq_some_iff.1 h3).1];exact h3⟩)
     (fun W W' ⟨τ,c,h1,h2,h3⟩ hb=>⟨τ,c,h1,hMidGrow τ W W' h2 hb,by rw [hb.block _ (Array.getElem?_eq_some_iff.1 h3).1];exact h3⟩)
     ?_ ⟨σ,by simpa [K] using hw,⟨g0,hMB,hS1,hsv,hD1⟩,hL1⟩
    ·-- behind the iterator
     refine callsIn_wide.2 (hcalls.mono ?_);have fin:∀ τ W jump,Mid τ W->(W.heap[w.heap.size+1]?=some (.loop jump))->Rel w0 N0 nt svv τ { a with defers:={ target:=.collected w.heap.size,args:=#[] }::a.defers } (W.putObj (w.heap.size+1) (.loop { jump with state:=.exhausted })):=fun τ W jump hm hl=>by
      obtain⟨g',h1,h2,h3,h4⟩:=hMidPut τ W _ (.loop { jump with state:=.exhausted }) hm hl rfl;refine⟨g',hM1.unbase' hO h1,h2,hsz,⟨List.nodup_cons.2 ⟨fun hin=>?_,hmk.1⟩,fun h=>by have:=hsvv rfl;omega,fun d hd=>?_⟩,fun t x hx=>by rw [h3] at hx;simp [an] at hx⟩
      ·obtain⟨D,k1,k2,k3⟩:=hmk.2.2 _ hin
       simp only [Deferred.mk.injEq,Target.collected.injEq,and_true] at k1;have:=(Array.getElem?_eq_some_iff.1 k3).1;omega
      ·rcases List.mem_cons.1 hd with rfl | hd
       ·exact⟨_,rfl,hM0.below.size,h4⟩
       ·exact (hmk1 _ _ _ h1).2.2 d hd
     rintro e W2 ⟨⟨v,rfl⟩,hJ | hJ⟩
     ·obtain⟨τ,h1,h2,h3⟩:=hJ
      refine⟨none,_,by have:=run_endLoop (P:=P) h3 (by rw [hrec];simp);rw [hrec] at this;exact this,?_⟩;have hq:Q .normal τ:=by simpa [K,iR] using h1
      have:=fin τ W2 _ h2 h3;rw [hrec] at this;exact hQ _ _ _ _ hq this
     ·obtain⟨τ,c,h1,h2,h3⟩:=hJ
      refine⟨some c,_,by have:=run_endLoop (P:=P) h3 (by rw [hrec];simp);rw [hrec] at this;exact this,?_⟩;have:=fin τ W2 _ h2 h3;rw [hrec] at this;rcases h1 with ⟨rfl,hq⟩ | ⟨id,rfl,hq⟩
      ·exact wpIn_ret (hQ _ _ _ _ hq this)
      ·exact wpIn_exit (hQ _ _ _ _ hq this)
    ·-- a round
     rintro i x W' hx ⟨τ,hk,⟨g',m1,m2,m3,m4⟩,hl⟩
     have hdrop:xs.drop i=x::xs.drop (i+1):=by
      obtain⟨hi,hxi⟩:=List.getElem?_eq_some_iff.1 hx;rw [List.drop_eq_getElem_cons hi,hxi]
     simp only [K,hdrop,iR] at hk;obtain⟨hlenx,hwp⟩:=hk;have hxmem:x ∈ xs:=List.mem_of_getElem? hx;have hy:=run_yield (P:=P) (args:=x.toArray) hl (by rw [hrec];simpa using hlenx);rw [hrec] at hy;refine⟨fn,_,ca,cb,hy,roundIn_of_wpIn hfn ?_⟩;have htm:((ps.zip x.toArray).foldl (fun tmps (q:Tmp × Value)=>tmps.setIfInBounds q.1 q.2) a.tmps)=((ps.toList.zip x).foldl (fun t (q:Nat × Value)=>t.setIfInBounds q.1 q.2) a.tmps):=by
      rw [<- Array.foldl_toList,Array.toList_zip]
     obtain⟨hps1,hps2⟩:=He ps.toList x τ.tmps a.tmps hsz hps (hplain x hxmem) m2;have htm':((ps.zip x.toArray).foldl (fun tmps (x:Tmp × Value)=>match x with | (t,a)=>tmps.setIfInBounds t a) a.tmps)=((ps.toList.zip x).foldl (fun t (q:Nat × Value)=>t.setIfInBounds q.1 q.2) a.tmps):=htm;simp only [] at htm' ⊢;rw [htm'];refine stretch ca aa (ha _) _ _ ⟨Bm ps.toList x τ.tmps,τ.tab,τ.tmps⟩ _ W' _ hwp hl rfl ⟨g',m1,hps2,hps1,m2,m4⟩ (fun e τ1 a1 w1 hq1 hst1 hl1 hov1 hsz1 hdf1=>?_);cases e with
     | normal=>
      obtain⟨g1,n1,n2,n3,n4,n5⟩:=hst1;refine⟨_,run_beginRound hl1 (by rw [hrec]),?_⟩;have hlt1:w.heap.size+1 < w1.heap.size:=(Array.getElem?_eq_some_iff.1 hl1).1;obtain⟨p1,p2⟩:=n1.putObj (o':=.loop { rec .ready none with state:=.busy }) hl1 rfl (.inr (.inr (.inl rfl)));have hbody:=stretch cb ab (hb _) (Ip td (K (xs.drop (i+1))) Q) (roundPost P (w.heap.size+1) fun e W''=>OR W1.heap.size N W' W''/\((e=.returned (.bool true)/\J (i+1) W'')\/(e=.returned (.bool false)/\Jx W'')))
       τ1 a1.tmps (w1.putObj (w.heap.size+1) (.loop { rec .ready none with state:=.busy })) (.loop { rec .ready none with state:=.busy }) hq1 (World.putObj_heap_same hlt1) rfl
       ⟨g1,p1,fun t x hx=>p2.a (n2 t x hx),n3,fun t x hx=>p2.a (n4 t x hx),by rw [World.putObj_heap_other (by omega)];exact n5⟩
       (fun e2 τ2 a2 w2 hq2 hst2 hl2 hov2 hsz2 _=>by
        obtain⟨g2,q1,q2,q3,q4,q5⟩:=hst2;have hkept:∀ o',OR W1.heap.size N W' (w2.putObj (w.heap.size+1) o'):=fun o'=>⟨by simp at hsz2 ⊢;omega,fun b hb hN=>by
         have hOb:¬ O b:=fun h=>hN (h.elim (fun h=>.inl (.inr h)) .inr);rw [World.putObj_heap_other (fun h=>hN (.inr (.inl h))),hov2 b hb hOb,m1.below.block b hb hOb]⟩
        have hmid2:Mid ⟨τ2.sv,τ2.tab,[]⟩ w2:=⟨g2,q1,q4,rfl,q5⟩
        have hlt2:w.heap.size+1 < w2.heap.size:=(Array.getElem?_eq_some_iff.1 hl2).1;cases e2 with
        | normal=>
         obtain⟨τ3,h3,h4⟩:=jB hq2;have hrel:Rel ⟨W1,O⟩ N0 nt #[] ⟨τ2.sv,τ2.tab,[]⟩ { tmps:=a.tmps,defers:=[] } w2:=⟨g2,q1,q4,hsz,⟨List.nodup_nil,fun _=>rfl,fun d hd=>by simp at hd⟩,fun t x hx=>by simp [an] at hx⟩
         obtain⟨g3,r1,r2,_,_,_⟩:=hrel.tidy h3;have hmid3:Mid τ3 w2:=⟨g3,r1,r2,apf h3 rfl,q5⟩
         have hend:=run_endRound (P:=P) none hl2;refine⟨_,_,hend,hkept _,.inl ⟨rfl,τ3,h4,hMidPut τ3 w2 _ _ hmid3 hl2 rfl,?_⟩⟩;rw [World.putObj_heap_same hlt2,hrec];rfl
        | ret=>
         have hend:=run_endRound (P:=P) (some .ret) hl2;refine⟨_,_,hend,hkept _,.inr ⟨rfl,⟨τ2.sv,τ2.tab,[]⟩,.ret,.inl ⟨rfl,hq2⟩,hMidPut _ w2 _ _ hmid2 hl2 rfl,?_⟩⟩;rw [World.putObj_heap_same hlt2,hrec];rfl
        | exit id=>
         have hend:=run_endRound (P:=P) (some (.exit id)) hl2;refine⟨_,_,hend,hkept _,.inr ⟨rfl,⟨τ2.sv,τ2.tab,[]⟩,.exit id,.inr ⟨id,rfl,hq2⟩,hMidPut _ w2 _ _ hmid2 hl2 rfl,?_⟩⟩;rw [World.putObj_heap_same hlt2,hrec];rfl
        | _=>exact hq2.elim)
      have ha1:a1={ tmps:=a1.tmps,defers:=[] }:=by rw [<- hdf1]
      rw [ha1];exact hbody
     | exit id=>exact hq1.elim
     | ret=>exact hq1.elim
     | _=>exact hq1.elim
 ·exact hw.elim
theorem Hv {id:Nat}{x:aq}{Q:Exit->St->Prop}(h:wpA P E (agd tr id x) Q σ):∃ σ1,wpA P E x Q σ1/\∀ a w,Rel w0 N0 nt svv σ a w->Rel w0 N0 nt svv σ1 a w:=by
 unfold agd at h;split at h
 ·exact⟨σ,h,fun _ _ hR=>hR⟩
 ·obtain⟨σ1,h1,h2⟩:=jB h
  exact⟨σ1,h2,fun _ _ hR=>hR.tidy h1⟩
theorem azy (hE:dy P E)(hm:P.follows .mixedOrders=true):∀ (c:Code) (top:Bool) (ac:aq),mk P nt tr tl top c=some ac->∀ (r:Option Nat),(top=true->r=none)->LX P E nt c ac r top:=by
 intro c
 induction c with
 | skip=>intro top ac h r htop n w0 N0 svv Q Q' σ a w hsv hQ hR hw;simp only [mk,zaI] at h;subst h;exact wpIn_skip (hQ _ _ _ _ hw hR)
 | ret=>intro top ac h r htop n w0 N0 svv Q Q' σ a w hsv hQ hR hw;simp only [mk,zaI] at h;subst h;exact wpIn_ret (hQ _ _ _ _ hw hR)
 | exit id=>intro top ac h r htop n w0 N0 svv Q Q' σ a w hsv hQ hR hw;simp only [mk,zaI] at h;subst h;exact wpIn_exit (hQ _ _ _ _ hw hR)
 | region id ops d=>
  intro top ac h r htop n w0 N0 svv Q Q' σ a w hsv hQ hR hw;simp only [mk] at h;split at h
  ·rename_i as hc
   split at h
   ·rename_i hds
    have fin:∀ σ1,j7 (iJ (an tr id) σ1) (Q .normal)->∀ a' w',Rel w0 N0 nt svv σ1 a' w'->Q' .normal a' w':=fun σ1 h1 a' w' hR'=>by
     obtain⟨σ2,h2,h3⟩:=jB h1;exact hQ _ _ _ _ h3 (hR'.tidy h2)
    split at h
    ·rename_i hd
     split at h
     ·rename_i hb
      simp only [Bool.and_eq_true] at hb;simp only [zaI] at h;subst h;subst hd;obtain⟨σ,hw,hpre⟩:=Hv hw;have hR:=hpre _ _ hR;have:∃ os σ1,iG P E as σ=some (os,σ1)/\(ax6 as (aee ops)).all (sc os)=true/\j7 (iJ (an tr id) σ1) (Q .normal):=by
       simp only [wpA] at hw;revert hw;unfold kF;split
       ·rename_i hnil
        intro hw;obtain⟨σ1,h1,h2⟩:=qp _ _ hw;obtain⟨os,hos⟩:=yV as σ σ1 h1;exact⟨os,σ1,hos,by rw [hnil];rfl,h2⟩
       ·intro hw
        obtain⟨os,σ1,h1,h2,h3⟩:=r4 _ _ _ hw;exact⟨os,σ1,h1,by simpa using h2,h3⟩
      obtain⟨os,σ1,hos,hp,h2⟩:=this;exact apt hE hm hds hc hb.1 hb.2 hos hp hR (fin σ1 h2)
     ·cases h
    ·rename_i hd
     simp only [zaI] at h;subst h;obtain⟨σ,hw,hpre⟩:=Hv hw;have hR:=hpre _ _ hR;obtain⟨σ1,h1,h2⟩:=qp _ _ hw;have hd':d=false:=by simpa using hd
     subst hd';exact ZB hE hds hc hR h1 (fin σ1 h2)
   ·cases h
  ·cases h
 | seq x y ihx ihy=>
  intro top ac h r htop n w0 N0 svv Q Q' σ a w hsv hQ hR hw;simp only [mk] at h;split at h
  ·rename_i ax ay hx hy
   simp only [zaI] at h;subst h;refine wpIn_seq (ihx top ax hx r htop n w0 N0 svv _ _ σ a w hsv (fun e σ1 a1 w1 h1 hR1=>?_) hR hw);cases e with
   | normal=>exact ihy top ay hy r htop n w0 N0 svv Q Q' σ1 a1 w1 hsv hQ hR1 h1
   | exit id=>exact hQ _ _ _ _ h1 hR1
   | ret=>exact hQ _ _ _ _ h1 hR1
   | _=>exact h1.elim
  ·cases h
 | cond c x y ihx ihy=>
  intro top ac h r htop n w0 N0 svv Q Q' σ a w hsv hQ hR hw;simp only [mk] at h;split at h
  ·rename_i ax ay hx hy
   simp only [zaI] at h;subst h;obtain⟨g,hM,hS,hsz,hd,hS2⟩:=hR;have hR:Rel w0 N0 nt svv σ a w:=⟨g,hM,hS,hsz,hd,hS2⟩
   rcases dU hw with ⟨hb,hw⟩ | ⟨hb,hw⟩
   ·exact wpIn_cond_true (lH (gI hS c) hb) (ihx top ax hx r htop n w0 N0 svv Q Q' σ a w hsv hQ hR hw)
   ·exact wpIn_cond_false (lH (gI hS c) hb) (ihy top ay hy r htop n w0 N0 svv Q Q' σ a w hsv hQ hR hw)
  ·cases h
 | block id b ih=>
  intro top ac h r htop n w0 N0 svv Q Q' σ a w hsv hQ hR hw;simp only [mk,Option.map_eq_some_iff] at h;obtain⟨ab,hb,rfl⟩:=h;refine wpIn_block (ih top ab hb r htop n w0 N0 svv _ _ σ a w hsv (fun e σ1 a1 w1 h1 hR1=>?_) hR hw);cases e with
  | normal=>exact hQ _ _ _ _ h1 hR1
  | exit id'=>
   simp only [xT] at h1;simp only [Exit.inBlock];split at h1
   ·rename_i he;rw [if_pos he];exact hQ _ _ _ _ h1 hR1
   ·rename_i he;rw [if_neg he];exact hQ _ _ _ _ h1 hR1
  | ret=>exact hQ _ _ _ _ h1 hR1
  | _=>exact h1.elim
 | loop b ih=>
  intro top ac h r htop n w0 N0 svv Q Q' σ a w hsv hQ hR hw;simp only [mk,Option.map_eq_some_iff] at h;obtain⟨ab,hb,rfl⟩:=h;obtain⟨k,hk⟩:=hw;refine wpIn_loop_rounds k ?_;have key:∀ k σ a w,Rel w0 N0 nt svv σ a w->rz (wpA P E ab) (an tl (mW b)) Q k σ->Code.roundsIn (Fw r) n P b Q' k a w:=by
   intro k
   induction k with
   | zero=>intro σ a w _ h;exact h.elim
   | succ k ihk=>
    intro σ a w hR h;obtain⟨σ1,h1,h2⟩:=jB h;rw [roundsIn_succ];refine ih top ab hb r htop n w0 N0 svv _ _ σ1 a w hsv (fun e σ2 a2 w2 h3 hR2=>?_) (hR.tidy h1) h2;cases e with
    | normal=>exact ihk σ2 a2 w2 hR2 h3
    | exit id=>exact hQ _ _ _ _ h3 hR2
    | ret=>exact hQ _ _ _ _ h3 hR2
    | _=>exact h3.elim
  exact key k σ a w hR hk
 | rangeFunc g ps ca cb iha ihb=>
  intro top ac h r htop;simp only [mk] at h;split at h
  ·rename_i hcond
   simp only [Bool.and_eq_true] at hcond;split at h
   ·rename_i x y hx hy
    simp only [zaI] at h;subst h;rw [htop hcond.1,hcond.1];exact ai0 hE (fun p hp=>by simpa using List.all_eq_true.1 hcond.2 p hp) (fun l=>iha false x hx (some l) fun h=>by cases h) (fun l=>ihb false y hy (some l) fun h=>by cases h)
   ·cases h
  ·cases h
 | _=>intro top ac h;simp [mk] at h
def Dk:aq->Bool
 | .seq a b=>Dk a && Dk b
 | .cond _ a b=>Dk a && Dk b
 | .block _ b=>Dk b
 | .loop _ b=>Dk b
 | .rangeF ..=>false
 | _=>true
theorem agk:∀ (c:Code) (ac:aq),mk P nt tr tl true c=some ac->Dk ac=true->mk P nt tr tl false c=some ac:=by
 intro c
 induction c with
 | skip=>intro ac h _;exact h
 | ret=>intro ac h _;exact h
 | exit id=>intro ac h _;exact h
 | region id ops d=>intro ac h _;exact h
 | seq a b iha ihb=>
  intro ac h hn;simp only [mk] at h ⊢;split at h
  ·rename_i x y hx hy
   simp only [zaI] at h;subst h;simp only [Dk,Bool.and_eq_true] at hn;rw [iha x hx hn.1,ihb y hy hn.2]
  ·cases h
 | cond c a b iha ihb=>
  intro ac h hn;simp only [mk] at h ⊢;split at h
  ·rename_i x y hx hy
   simp only [zaI] at h;subst h;simp only [Dk,Bool.and_eq_true] at hn;rw [iha x hx hn.1,ihb y hy hn.2]
  ·cases h
 | block id b ih=>
  intro ac h hn;simp only [mk,Option.map_eq_some_iff] at h ⊢;obtain⟨ab,hb,rfl⟩:=h;exact⟨ab,ih ab hb hn,rfl⟩
 | loop b ih=>
  intro ac h hn;simp only [mk,Option.map_eq_some_iff] at h ⊢;obtain⟨ab,hb,rfl⟩:=h;exact⟨ab,ih ab hb hn,rfl⟩
 | rangeFunc g ps ca cb iha ihb=>
  intro ac h hn;simp only [mk] at h;split at h
  ·split at h
   ·simp only [zaI] at h
    subst h;simp [Dk] at hn
   ·cases h
  ·cases h
 | _=>intro ac h;simp [mk] at h
inductive dZ where
 | tmp (t:Nat)
 | cell (t:Nat) (agg:Bool) (sz:Nat)
 | out (k:Nat)
def Md (σ:St):dZ->Option AV
 | .tmp t=>some (evO σ.tmps (.tmp t))
 | .cell t agg sz=>match de (evO σ.tmps (.tmp t)) with
  | some (.ptr n off)=>match an σ.tab n with
   | some (.box cs)=>if off+sz<=cs.length then iC agg ((cs.drop off).take sz) else none
   | _=>none
  | _=>none
 | .out k=>match an σ.sv k with
  | some x=>match de x with
   | some (.ptr n _)=>match an σ.tab n with
    | some (.box cs)=>some (.val true cs)
    | _=>none
   | _=>none
  | none=>none
def gD (σ:St):List dZ->Option (List AV)
 | []=>some []
 | x::r=>match Md σ x,gD σ r with
  | some y,some ys=>some (y::ys)
  | _,_=>none
def BP (T:Tab)(i:Nat):Nat->List C->List ((Nat × Nat) × Nat)
 | _,[]=>[]
 | j,c::r=>match c with
  | .ref n=>match an T n with
   | some (.own _ _)=>((i,j),n)::BP T i (j+1) r
   | _=>BP T i (j+1) r
  | _=>BP T i (j+1) r
def IP (T:Tab)(b:Bool)(cs:List C):Option Nat:=
 match b,cs with
 | false,[.ptr n _]=>match an T n with
  | some (.box ds)=>match ds.mapM ZL with
   | some _=>some n
   | none=>none
  | _=>none
 | _,_=>none
def jO (T:Tab):Nat->List AV->List ((Nat × Nat) × Nat)
 | _,[]=>[]
 | i,x::r=>(match x with | .val b cs=>(match IP T b cs with | some n=>[((i,0),n)] | none=>BP T i 0 cs) | .tup _=>[])++jO T (i+1) r
def ny (T:Tab)(c:C):Option (RC × List Nat):=
 match c with
 | .ref n=>match an T n with
  | some (.own sz rows)=>some (.own sz rows,[])
  | some (.imm rows)=>some (.d (.sl rows),[n])
  | _=>none
 | c=>(dt T 4 c).map fun d=>(.d d,bq T 4 c)
def ot (T:Tab):List C->Option (List RC × List Nat)
 | []=>some ([],[])
 | c::r=>match ny T c,ot T r with
  | some (x,l),some (xs,ls)=>some (x::xs,l++ls)
  | _,_=>none
def anx (T:Tab)(b:Bool)(cs:List C):Option (List RC × List Nat):=
 match b,cs with
 | false,[.ptr n off]=>match an T n with
  | some (.box ds)=>match ds.mapM ZL with
   | some l=>some ([.obj l off],[])
   | none=>ot T cs
  | _=>ot T cs
 | _,_=>ot T cs
def PN (T:Tab):List AV->Option (List RV × List Nat)
 | []=>some ([],[])
 | .val b cs::r=>match anx T b cs,PN T r with
  | some (x,l),some (xs,ls)=>some ((b,x)::xs,l++ls)
  | _,_=>none
 | .tup _::_=>none
def ahK (l:List ((Nat × Nat) × Nat))(names:List Nat):Bool:=
 l.all fun p=>!inN names p.2 && l.all fun q=>!(p.2 == q.2) || (p.1.1 == q.1.1 && p.1.2 == q.1.2)
def alc (names:List Nat):List (Nat × AV)->Bool
 | []=>true
 | p::r=>(match de p.2 with | some (.ptr n _)=>!inN names n | _=>true) && alc names r
def C6 (rs:List dZ)(σ:St):Option (List RV):=
 match gD σ rs with
 | some avs=>match PN σ.tab avs with
  | some (res,names)=>if ahK (jO σ.tab 0 avs) names && alc (names++(jO σ.tab 0 avs).map (·.2)) σ.sv then some res else none
  | none=>none
 | none=>none
def gZ (P:Program):List ResultVar->Option (List dZ)
 | []=>some []
 | .tmp t::r=>(gZ P r).map (.tmp t::·)
 | .cell t ty::r=>match P.underlying ty,bL P ty with
  | some d,some s=>(gZ P r).map (.cell t (bW d) (if bW d then s else 1)::·)
  | _,_=>none
variable {P:Program}{E:Env}{w0:fC}{w w':World}{N0:Nat->Prop}{g g':Gh}{T T':Tab}{nt:Nat}{svv:Array Value}{a:Act}{σ σ':St}{tr tl:List (Nat × bX)}
def CO (tmps:Array Value):ResultVar->Sem Value
 | .tmp t=>pure (tmps.getD t undef)
 | .cell a t=>do loadVar t (<- asAddr (tmps.getD a undef))
theorem agv (hM:Mem w0 N0 g σ.tab w)(hS:dw w (aB N0 g σ.tab) g σ.tab σ.tmps a.tmps):∀ (rv:ResultVar) (l:List ResultVar) (rs:List dZ),gZ P (rv::l)=some rs->∃ x r,rs=x::r/\gZ P l=some r /\
  ∀ y,Md σ x=some y->∃ v,(CO a.tmps rv).run P w=.ok v w/\aT w (aB N0 g σ.tab) g σ.tab y v:=by
 intro rv l rs h;cases rv with
 | tmp t=>
  simp only [gZ,Option.map_eq_some_iff] at h;obtain⟨r,h1,rfl⟩:=h;refine⟨_,r,rfl,h1,fun y hy=>?_⟩;simp only [Md,zaI] at hy;subst hy;exact⟨_,rfl,gI (a:=a) hS (.tmp t)⟩
 | cell t ty=>
  simp only [gZ] at h;split at h
  ·rename_i d s hu hs
   simp only [Option.map_eq_some_iff] at h;obtain⟨r,h1,rfl⟩:=h;refine⟨_,r,rfl,h1,fun y hy=>?_⟩;simp only [Md] at hy;split at hy
   ·rename_i m off hx
    obtain⟨_,b,hb,hv⟩:=bf (gI (a:=a) hS (.tmp t)) hx;have hv':a.tmps.getD t undef=.pointer (some ⟨b,off,none⟩):=hv;generalize hk:(if bW d=true then s else 1)=k at hy;split at hy
    ·rename_i cs hm
     split at hy
     ·rename_i hlen
      obtain⟨b',cells,t',h1',h2,h3,h4,h5⟩:=hM.box hm;rw [hb] at h1';simp only [zaI] at h1';subst h1';have hcell:∀ j c,((cs.drop off).take k)[j]?=some c->w.cell? ⟨b,off+j,none⟩=some ((cells[off+j]?).getD undef)/\dr w (aB N0 g σ.tab) g σ.tab c ((cells[off+j]?).getD undef):=by
       intro j c hc;obtain⟨hj,hc⟩:=getElem?_seg hc;have hlt:off+j < cells.size:=by rw [h3];exact (List.getElem?_eq_some_iff.1 hc).1
       simp only [World.cell?,h2];refine⟨by simp [hlt],?_⟩;have:=h4 (off+j) c cells[off+j] hc (by simp [hlt]);simpa [hlt] using this
      simp only [CO,hv',asAddr];unfold iC at hy;cases hd:bW d with
      | true=>
       simp only [hd,if_true] at hk;subst hk;simp only [hd,if_true,zaI] at hy;subst hy;have hl:((cs.drop off).take s).length=s:=by simp;omega
       refine⟨.agg ((List.range s).map fun j=>(cells[off+j]?).getD undef).toArray,?_,?_⟩
       ·have:=Mf (P:=P) (w:=w) hu hd hs (fun j=>(cells[off+j]?).getD undef) (b:=b) (o:=off) (fun j hj=>(hcell j ((cs.drop off).take s)[j] (by rw [List.getElem?_eq_getElem])).1)
        simpa using this
       ·refine⟨_,rfl,by rw [hl];simp,fun i c x hc hx=>?_⟩
        have h1:=(hcell i c hc).2;have hi:i < s:=by rw [<- hl];exact (List.getElem?_eq_some_iff.1 hc).1
        simp [hi] at hx
        rwa [<- hx]
      | false=>
       simp only [hd,Bool.false_eq_true,if_false] at hk;subst hk;simp only [hd,Bool.false_eq_true,if_false] at hy;split at hy
       ·rename_i c hc
        simp only [zaI] at hy;subst hy;obtain⟨h6,h7⟩:=hcell 0 c (by rw [hc];rfl);refine⟨_,?_,⟨c,rfl,h7⟩⟩;have:=OE (P:=P) (w:=w) hu hd (show w.cell? ⟨b,off,none⟩=some ((cells[off+0]?).getD undef) by simpa using h6);simpa using this
       ·cases hy
     ·cases hy
    ·cases hy
   ·cases hy
  ·cases h
theorem F7 (hM:Mem w0 N0 g σ.tab w)(hS:dw w (aB N0 g σ.tab) g σ.tab σ.tmps a.tmps):∀ (l:List ResultVar) (rs:List dZ) (ys:List AV),gZ P l=some rs->gD σ rs=some ys ->
  ∃ vs:List Value,(l.mapM (CO a.tmps)).run P w=.ok vs w/\vs.length=ys.length/\∀ (i:Nat) (y:AV) (v:Value),ys[i]?=some y->vs[i]?=some v->aT w (aB N0 g σ.tab) g σ.tab y v
 | [],rs,ys,h,hy=>by
  simp only [gZ,zaI] at h;subst h;simp only [gD,zaI] at hy;subst hy;exact⟨[],rfl,rfl,fun i y v h=>by simp at h⟩
 | rv::l,rs,ys,h,hy=>by
  obtain⟨x,r,rfl,h1,h2⟩:=agv (P:=P) hM hS rv l rs h;simp only [gD] at hy;split at hy
  ·rename_i y ys' hy1 hy2
   simp only [zaI] at hy;subst hy;obtain⟨v,hv,hr⟩:=h2 y hy1;obtain⟨vs,hvs,hl,hrs⟩:=F7 hM hS l r ys' h1 hy2;refine⟨v::vs,?_,by simp [hl],fun i y' v' hi hv'=>?_⟩
   ·rw [List.mapM_cons]
    simp [Sem.run_bind,hv,hvs]
   ·cases i with
    | zero=>simp at hi hv';subst hi;subst hv';exact hr
    | succ i=>exact hrs i y' v' (by simpa using hi) (by simpa using hv')
  ·cases hy
theorem Mw {fn:Func}{tmps:Array Value}{vs:List Value}(h:(fn.results.toList.mapM (CO tmps)).run P w=.ok vs w) :
  (results fn tmps).run P w=.ok (if h:vs.toArray.size=1 then vs.toArray[0] else .tuple vs.toArray) w:=by
 have e:results fn tmps=(do let vs <- fn.results.mapM (CO tmps);pure (if h:vs.size=1 then vs[0] else .tuple vs)):=by
  unfold results;congr 1
 rw [e,Sem.run_bind,Array.mapM_eq_mapM_toList,Sem.run_map,h];rfl
theorem aaG {b:Bool}{cs:List C}{n:Nat}(h:IP T b cs=some n):∃ off ds l,b=false/\cs=[.ptr n off]/\an T n=some (.box ds)/\ds.mapM ZL=some l:=by
 unfold IP at h;split at h
 ·split at h
  ·rename_i ds hT
   split at h
   ·rename_i l hl
    simp only [zaI] at h;subst h;exact⟨_,ds,l,rfl,rfl,hT,hl⟩
   ·cases h
  ·cases h
 ·cases h
theorem Z5 {b:Bool}{cs:List C}{xs:List RC}{l':List Nat}(h:anx T b cs=some (xs,l')) :
  (∃ n off ds l,b=false/\cs=[.ptr n off]/\an T n=some (.box ds)/\ds.mapM ZL=some l/\xs=[.obj l off]/\IP T b cs=some n)\/(IP T b cs=none/\ot T cs=some (xs,l')):=by
 unfold anx at h;unfold IP;split at h
 ·rename_i n off
  split at h
  ·rename_i ds hT
   split at h
   ·rename_i l hl
    simp only [zaI,zbI] at h;exact .inl ⟨n,off,ds,l,rfl,rfl,hT,hl,h.1.symm,rfl⟩
   ·rename_i hl
    exact .inr ⟨rfl,h⟩
  ·rename_i hT
   exact .inr ⟨rfl,h⟩
 ·rename_i hne
  exact .inr ⟨rfl,h⟩
def nr (g:Gh)(T:Tab)(avs:List AV)(i j:Nat):Option Nat:=
 match avs[i]? with
 | some (.val b cs)=>match IP T b cs with
  | some n=>match j with
   | 0=>g.blk n
   | _+1=>none
  | none=>match cs[j]? with
   | some (.ref n)=>match an T n with
    | some (.own _ _)=>g.blk n
    | _=>none
   | _=>none
 | _=>none
theorem Ge {i:Nat}:∀ {cs:List C} {j k n s:Nat} {rows:List (List DC)},cs[k]?=some (.ref n)->an T n=some (.own s rows)->((i,j+k),n) ∈ BP T i j cs
 | [],j,k,n,s,rows,h,_=>by simp at h
 | c::r,j,0,n,s,rows,h,ho=>by
  simp only [List.getElem?_cons_zero,zaI] at h;subst h;simp [BP,ho]
 | c::r,j,k+1,n,s,rows,h,ho=>by
  have:=Ge (i:=i) (j:=j+1) (cs:=r) (k:=k) (by simpa using h) ho;rw [show j+1+k=j+(k+1) by omega] at this;simp only [BP];split
  ·split
   ·exact List.mem_cons_of_mem _ this
   ·exact this
  ·exact this
theorem GU:∀ {avs:List AV} {i k j n s:Nat} {b:Bool} {cs:List C} {rows:List (List DC)},avs[k]?=some (.val b cs)->IP T b cs=none->cs[j]?=some (.ref n)->an T n=some (.own s rows)->((i+k,j),n) ∈ jO T i avs
 | [],i,k,j,n,s,b,cs,rows,h,_,_,_=>by simp at h
 | x::r,i,0,j,n,s,b,cs,rows,h,hb,hc,ho=>by
  simp only [List.getElem?_cons_zero,zaI] at h;subst h;have:=Ge (T:=T) (i:=i) (j:=0) hc ho;simp only [jO,List.mem_append,hb];exact .inl (by simpa using this)
 | x::r,i,k+1,j,n,s,b,cs,rows,h,hb,hc,ho=>by
  have:=GU (i:=i+1) (avs:=r) (k:=k) (by simpa using h) hb hc ho;rw [show i+1+k=i+(k+1) by omega] at this;simp only [jO,List.mem_append];exact .inr this
theorem Gn:∀ {avs:List AV} {i k n:Nat} {b:Bool} {cs:List C},avs[k]?=some (.val b cs)->IP T b cs=some n->((i+k,0),n) ∈ jO T i avs
 | [],i,k,n,b,cs,h,_=>by simp at h
 | x::r,i,0,n,b,cs,h,hb=>by
  simp only [List.getElem?_cons_zero,zaI] at h;subst h;simp only [jO,List.mem_append,hb];exact .inl (by simp)
 | x::r,i,k+1,n,b,cs,h,hb=>by
  have:=Gn (i:=i+1) (avs:=r) (k:=k) (by simpa using h) hb;rw [show i+1+k=i+(k+1) by omega] at this;simp only [jO,List.mem_append];exact .inr this
theorem yT:∀ {cs:List C} {xs:List RC} {l:List Nat},ot T cs=some (xs,l)->xs.length=cs.length/\∀ (i:Nat) (c:C),cs[i]?=some c->∃ x l',xs[i]?=some x/\ny T c=some (x,l')/\∀ m ∈ l',m ∈ l
 | [],xs,l,h=>by simp only [ot,zaI,zbI] at h;obtain⟨rfl,rfl⟩:=h;simp
 | c::r,xs,l,h=>by
  simp only [ot] at h;split at h
  ·rename_i x l1 xs' l2 h1 h2
   simp only [zaI,zbI] at h;obtain⟨rfl,rfl⟩:=h;obtain⟨h3,h4⟩:=yT h2;refine⟨by simp [h3],fun i c' hc=>?_⟩;cases i with
   | zero=>simp at hc;subst hc;exact⟨x,l1,rfl,h1,fun m hm=>List.mem_append_left _ hm⟩
   | succ i=>
    obtain⟨y,l',hy,hc',hl⟩:=h4 i c' (by simpa using hc);exact⟨y,l',by simpa using hy,hc',fun m hm=>List.mem_append_right _ (hl m hm)⟩
  ·cases h
theorem FR:∀ {avs:List AV} {res:List RV} {l:List Nat},PN T avs=some (res,l)->res.length=avs.length/\∀ (i:Nat) (x:AV),avs[i]?=some x->∃ b cs xs l',x=.val b cs/\res[i]?=some (b,xs)/\anx T b cs=some (xs,l')/\∀ m ∈ l',m ∈ l
 | [],res,l,h=>by simp only [PN,zaI,zbI] at h;obtain⟨rfl,rfl⟩:=h;simp
 | .val b cs::r,res,l,h=>by
  simp only [PN] at h;split at h
  ·rename_i x l1 xs' l2 h1 h2
   simp only [zaI,zbI] at h;obtain⟨rfl,rfl⟩:=h;obtain⟨h3,h4⟩:=FR h2;refine⟨by simp [h3],fun i c' hc=>?_⟩;cases i with
   | zero=>simp at hc;subst hc;exact⟨b,cs,x,l1,rfl,rfl,h1,fun m hm=>List.mem_append_left _ hm⟩
   | succ i=>
    obtain⟨b',cs',y,l',h5,hy,hc',hl⟩:=h4 i c' (by simpa using hc);exact⟨b',cs',y,l',h5,by simpa using hy,hc',fun m hm=>List.mem_append_right _ (hl m hm)⟩
  ·cases h
 | .tup _::r,res,l,h=>by simp [PN] at h
theorem aaq {wb:World}{bs:List Nat}{is:List (Option Nat)}{N:Nat->Prop}{us:List Value}(hM:Mem ⟨wb,fun b=>b ∈ j3 bs is⟩ N0 g σ.tab w){avs:List AV}{vs:List Value}{res:List RV}{names:List Nat}(hl:(vs++us).length=avs.length)
  (hr:∀ (i:Nat) (y:AV) (v:Value),avs[i]?=some y->(vs++us)[i]?=some v->aT w (aB N0 g σ.tab) g σ.tab y v)
  (ha:PN σ.tab avs=some (res,names)) (ho:ahK (jO σ.tab 0 avs) names=true)
  (hbs:∀ b ∈ bs,∃ n cs,an σ.tab n=some (.box cs)/\g.blk n=some b/\n ∉ names++(jO σ.tab 0 avs).map (·.2)) (hNb:∀ b,N b->N0 b\/b ∈ j3 bs is) :
  AL wb N is res us (if h:vs.toArray.size=1 then vs.toArray[0] else .tuple vs.toArray) w:=by
 obtain⟨h1,h2⟩:=FR ha;have hown:∀ (i j b:Nat),nr g σ.tab avs i j=some b->∃ n,live σ.tab n/\g.blk n=some b/\((i,j),n) ∈ jO σ.tab 0 avs:=by
  intro i j b hb;unfold nr at hb;split at hb
  ·rename_i bb cs hi
   split at hb
   ·rename_i n hob
    split at hb
    ·obtain⟨off,ds,l,_,_,hT,_⟩:=aaG hob
     exact⟨n,by unfold live;rw [hT];trivial,hb,by have:=Gn (T:=σ.tab) (i:=0) hi hob;simpa using this⟩
    ·cases hb
   ·rename_i hob
    split at hb
    ·rename_i n hj
     split at hb
     ·rename_i s rows hn
      exact⟨n,by unfold live;rw [hn];trivial,hb,by have:=GU (T:=σ.tab) (i:=0) hi hob hj hn;simpa using this⟩
     ·cases hb
    ·cases hb
  ·cases hb
 have hok:∀ p ∈ jO σ.tab 0 avs,p.2 ∉ names/\∀ q ∈ jO σ.tab 0 avs,p.2=q.2->p.1=q.1:=by
  intro p hp;have:=List.all_eq_true.1 ho p hp;simp only [Bool.and_eq_true,Bool.not_eq_true'] at this;refine⟨fun hx=>by rw [Jd.2 hx] at this;exact absurd this.1 (by simp),fun q hq he=>?_⟩;have:=List.all_eq_true.1 this.2 q hq;simp only [he,beq_self_eq_true,Bool.not_true,Bool.false_or,Bool.and_eq_true,beq_iff_eq] at this;exact Prod.ext this.1 this.2
 have hNb':∀ b,N b/\some b ∉ is->N0 b\/b ∈ bs:=fun b hb=>(hNb b hb.1).imp id fun h=>by
  unfold j3 at h;rcases List.mem_append.1 h with h | h
  ·exact h
  ·exact absurd (by simpa using h) hb.2
 have hbs':∀ b ∈ bs,∃ n cs,an σ.tab n=some (.box cs)/\g.blk n=some b/\n ∉ names:=fun b hb=>by
  obtain⟨n,cs,h5,h6,h7⟩:=hbs b hb;exact⟨n,cs,h5,h6,fun h=>h7 (List.mem_append_left _ h)⟩
 refine⟨vs.toArray,nr g σ.tab avs,rfl,by rw [h1,<- hl],fun i x u hx hu=>?_,fun i j b hb=>?_,fun i j i' j' b hb hb'=>?_⟩
 ·have hi:i < avs.length:=by rw [<- h1];exact (List.getElem?_eq_some_iff.1 hx).1
  obtain⟨b,cs,xs,l',hav,hres,hcs0,hsub⟩:=h2 i avs[i] (by simp [hi]);rw [hx] at hres;simp only [zaI] at hres;subst hres;have hai:avs[i]?=some (.val b cs):=by rw [<- hav];simp [hi]
  have hrel:=hr i _ u hai hu;have hN:∀ b',((N b'/\some b' ∉ is)\/∃ i j,nr g σ.tab avs i j=some b')->aB N0 g σ.tab b':=by
   rintro b' (h | ⟨i',j',h⟩)
   ·rcases hNb' b' h with h | h
    ·exact .inl h
    ·obtain⟨n,cs',h5,h6,_⟩:=hbs' b' h
     exact .inr ⟨n,by unfold live;rw [h5];trivial,h6⟩
   ·obtain⟨n,hl,hb,_⟩:=hown i' j' b' h
    exact .inr ⟨n,hl,hb⟩
  have hNd:∀ b',((N b'/\some b' ∉ is)\/∃ i j,nr g σ.tab avs i j=some b')->dq N0 g σ.tab names b':=by
   rintro b' (h | ⟨i',j',h⟩)
   ·rcases hNb' b' h with h | h
    ·exact .inl h
    ·obtain⟨n,cs',h5,h6,h7⟩:=hbs' b' h
     exact .inr ⟨n,h7,by unfold live;rw [h5];trivial,h6⟩
   ·obtain⟨n,hl,hb,hm⟩:=hown i' j' b' h
    exact .inr ⟨n,(hok _ hm).1,hl,hb⟩
  rcases Z5 hcs0 with ⟨n,off,ds,l,rfl,rfl,hT,hl,rfl,hob⟩ | ⟨hob,hcs⟩
  ·obtain⟨c,e1,e2⟩:=hrel
   simp only [List.cons.injEq,and_true] at e1;subst e1;obtain⟨_,b,hb,hv⟩:=e2;obtain⟨b',cells,t,k1,k2,k3,k4,_⟩:=hM.box hT;rw [hb] at k1;simp only [zaI] at k1;subst k1;obtain⟨m1,m2⟩:=i9 hl;refine⟨_,rfl,b,cells,t,?_,hv,k2,by rw [k3,m1],fun j d x hd hx=>?_⟩
   ·simp only [nr,hai,hob,hb]
   ·obtain⟨c,hc,hcd⟩:=uK hl hd
    exact (amN (k4 j c x hc hx) hcd).less hN
  obtain⟨h3,h4⟩:=yT hcs;have cell:∀ (j:Nat) (c:C) (v:Value),cs[j]?=some c->dr w (aB N0 g σ.tab) g σ.tab c v->∃ x',xs[j]?=some x'/\jz w (fun b'=>(N b'/\some b' ∉ is)\/∃ i j,nr g σ.tab avs i j=some b') (nr g σ.tab avs i j) x' v:=by
   intro j c v hc hv;obtain⟨x',l1,hx',hcr,hl1⟩:=h4 j c hc;refine⟨x',hx',?_⟩;have hdata:∀ d,dt σ.tab 4 c=some d->x'=.d d->(∀ m ∈ bq σ.tab 4 c,m ∈ l1)->jz w (fun b'=>(N b'/\some b' ∉ is)\/∃ i j,nr g σ.tab avs i j=some b') (nr g σ.tab avs i j) x' v:=by
    intro d hd he hnm;subst he;exact (vV hM (names:=names) 4 hv hd fun m hm=>hsub m (hl1 m (hnm m hm))).less hNd
   cases c with
   | ref n=>
    simp only [ny] at hcr;split at hcr
    ·rename_i s rows hn
     simp only [zaI,zbI] at hcr;obtain⟨rfl,rfl⟩:=hcr;have hb:nr g σ.tab avs i j=g.blk n:=by simp only [nr,hai,hob,hc,hn]
     rw [hb];obtain⟨_,hvv,_⟩:=hv;have:=(hM.ents n _ hn).1;rw [hvv];rcases this with x | ⟨b',off,cap,cells,t,fz,e1,e2,e3,e4,e5,e6,e7,e8,e9,e10⟩
     ·exact .inl x
     ·exact .inr ⟨b',off,cap,cells,t,fz,e1,e2,e3,e4,e5,e6,e7,e8,e9,fun i j r d hr hd=>by
       obtain⟨c,hc,hx⟩:=e10 i j r d hr hd;exact⟨c,hc,hx.less hN⟩⟩
    ·rename_i rows hn
     simp only [zaI,zbI] at hcr;obtain⟨rfl,rfl⟩:=hcr;exact hdata _ (by simp [dt,hn]) rfl (fun m hm=>by simpa [bq] using hm)
    ·cases hcr
   | d y=>
    simp only [ny,Option.map_eq_some_iff,zbI] at hcr;obtain⟨d,hd,rfl,rfl⟩:=hcr;exact hdata d hd rfl fun m hm=>hm
   | nils=>
    simp only [ny,Option.map_eq_some_iff,zbI] at hcr;obtain⟨d,hd,rfl,rfl⟩:=hcr;exact hdata d hd rfl fun m hm=>hm
   | und=>simp [ny,dt] at hcr
   | unk=>simp [ny,dt] at hcr
   | yld l=>simp [ny,dt] at hcr
   | sub n lo hi=>simp [ny,dt] at hcr
   | ptr m off=>
    simp only [ny,Option.map_eq_some_iff,zbI] at hcr;obtain⟨d,hd,rfl,rfl⟩:=hcr;exact hdata d hd rfl fun m hm=>hm
   | eptr m k off=>
    simp only [ny,Option.map_eq_some_iff,zbI] at hcr;obtain⟨d,hd,rfl,rfl⟩:=hcr;exact hdata d hd rfl fun m hm=>hm
   | fn f caps=>
    simp only [ny,Option.map_eq_some_iff,zbI] at hcr;obtain⟨d,hd,rfl,rfl⟩:=hcr;exact hdata d hd rfl fun m hm=>hm
  cases b with
  | true=>
   obtain⟨ys,e1,e2,e3⟩:=hrel;refine⟨ys,e1,by rw [h3];exact e2,fun j x' v hxj hv=>?_⟩;have hj:j < cs.length:=by rw [<- h3];exact (List.getElem?_eq_some_iff.1 hxj).1
   obtain⟨x'',hx'',hrc⟩:=cell j cs[j] v (by simp [hj]) (e3 j cs[j] v (by simp [hj]) hv);rw [hxj] at hx'';simp only [zaI] at hx'';subst hx'';exact hrc
  | false=>
   obtain⟨c,e1,e2⟩:=hrel;subst e1;obtain⟨x'',hx'',hrc⟩:=cell 0 c u rfl e2;refine⟨x'',?_,hrc⟩;cases xs with
   | nil=>simp at hx''
   | cons y ys=>
    simp only [List.length_cons,List.length_nil,Nat.add_eq_right,List.length_eq_zero_iff] at h3;subst h3;simp at hx'';subst hx'';rfl
 ·obtain⟨n,hl,hbn,hm⟩:=hown i j b hb
  have:=hM.rng n b hl hbn;refine⟨this.1.imp id fun h=>?_,this.2⟩;unfold j3 at h;rcases List.mem_append.1 h with h | h
  ·obtain⟨n',cs',h5,h6,h7⟩:=hbs b h
   have:=hM.inj n n' b hl (by unfold live;rw [h5];trivial) hbn h6;subst this;exact absurd (List.mem_append_right _ (List.mem_map.2 ⟨_,hm,rfl⟩)) h7
  ·simpa using h
 ·obtain⟨n,hl,hbn,hm⟩:=hown i j b hb
  obtain⟨n',hl',hbn',hm'⟩:=hown i' j' b hb';have:=hM.inj n n' b hl hl' hbn hbn';have:=(hok _ hm).2 _ hm' this;simpa using this
def mN (k:Nat):Nat:=500000000+1001*k
def mI (k j:Nat):Nat:=500000001+1001*k+j
def aks:Nat->List DV->List (Nat × AV)
 | _,[]=>[]
 | k,d::r=>(k,match ci d with | none=>.val d.1 (d.2.map .d) | some p=>.val false [.ptr (mN k) p.2])::aks (k+1) r
def zp (k:Nat):Nat->List DC->List C
 | _,[]=>[]
 | j,d::r=>(match fk d with | none=>(match LW d with | true=>.nils | false=>.d d) | some _=>.ref (mI k j))::zp k (j+1) r
def D5 (k:Nat):Nat->List DC->Tab
 | _,[]=>[]
 | j,d::r=>match fk d with
  | none=>D5 k (j+1) r
  | some p=>(mI k j,.own p.1 p.2)::D5 k (j+1) r
def iF:Nat->List DV->Tab
 | _,[]=>[]
 | k,d::r=>match ci d with
  | none=>iF (k+1) r
  | some p=>(mN k,.box (zp k 0 p.1))::(D5 k 0 p.1++iF (k+1) r)
def nF:Nat->List DV->List (Nat × AV)
 | _,[]=>[]
 | k,d::r=>match ci d with
  | none=>nF (k+1) r
  | some p=>(k,.val false [.ptr (mN k) p.2])::nF (k+1) r
def gJ:Nat->List DV->List dZ
 | _,[]=>[]
 | k,d::r=>match ci d with
  | none=>gJ (k+1) r
  | some _=>.out k::gJ (k+1) r
def DN (ds:List DV):St:=⟨aks 0 ds,iF 0 ds,nF 0 ds⟩
def kK:List DV->Bool
 | []=>true
 | d::r=>(match ci d with | none=>true | some p=>decide (p.1.length<=1000)) && kK r
def akU (ds:List DV)(ac:aq):Bool:=match nF 0 ds with
 | []=>true
 | _=>Dk ac && kK ds
theorem G9:∀ (ds:List DV) (k t:Nat) (x:AV),an (aks k ds) t=some x->∃ i d,t=k+i/\ds[i]?=some d/\x=match ci d with | none=>.val d.1 (d.2.map .d) | some p=>.val false [.ptr (mN (k+i)) p.2]
 | [],k,t,x,h=>by simp [aks,an] at h
 | d::r,k,t,x,h=>by
  simp only [aks,an] at h;split at h
  ·rename_i hk
   simp only [zaI] at h;exact⟨0,d,by omega,rfl,h.symm⟩
  ·obtain⟨i,d',h1,h2,h3⟩:=G9 r (k+1) t x h
   exact⟨i+1,d',by omega,by simpa using h2,by rw [show k+(i+1)=k+1+i by omega];exact h3⟩
theorem oC {α:Type}:∀ (l m:List (Nat × α)) (n:Nat),an (l++m) n=match an l n with | some x=>some x | none=>an m n
 | [],_,_=>rfl
 | (k,x)::r,m,n=>by
  simp only [List.cons_append,an];split
  ·rfl
  ·exact oC r m n
theorem qG {k:Nat}:∀ (cs:List DC) (j n:Nat) (e:aL),an (D5 k j cs) n=some e->∃ i d p,n=mI k (j+i)/\cs[i]?=some d/\fk d=some p/\e=.own p.1 p.2
 | [],j,n,e,h=>by simp [D5,an] at h
 | d::r,j,n,e,h=>by
  simp only [D5] at h;split at h
  ·obtain⟨i,d',p,h1,h2,h3,h4⟩:=qG r (j+1) n e h
   exact⟨i+1,d',p,by rw [show j+(i+1)=j+1+i by omega];exact h1,by simpa using h2,h3,h4⟩
  ·rename_i p hp
   simp only [an] at h;split at h
   ·rename_i hk
    simp only [zaI] at h;exact⟨0,d,p,hk.symm,rfl,hp,h.symm⟩
   ·obtain⟨i,d',p,h1,h2,h3,h4⟩:=qG r (j+1) n e h
    exact⟨i+1,d',p,by rw [show j+(i+1)=j+1+i by omega];exact h1,by simpa using h2,h3,h4⟩
theorem M0 {k:Nat}:∀ (cs:List DC) (j i:Nat) (d:DC) (p:Nat × List (List DC)),cs[i]?=some d->fk d=some p->an (D5 k j cs) (mI k (j+i))=some (.own p.1 p.2)
 | [],j,i,d,p,h,_=>by simp at h
 | d0::r,j,0,d,p,h,hp=>by
  simp only [List.getElem?_cons_zero,zaI] at h;subst h;simp only [D5,hp,an,Nat.add_zero,if_true]
 | d0::r,j,i+1,d,p,h,hp=>by
  have ih:=M0 (k:=k) r (j+1) i d p (by simpa using h) hp;rw [show j+1+i=j+(i+1) by omega] at ih;simp only [D5];split
  ·exact ih
  ·simp only [an]
   rw [if_neg (by simp only [mI];omega)];exact ih
theorem DX {k:Nat}:∀ (cs:List DC) (j i:Nat) (c:C),(zp k j cs)[i]?=some c->∃ d,cs[i]?=some d/\c=match fk d with | none=>(match LW d with | true=>.nils | false=>.d d) | some _=>.ref (mI k (j+i))
 | [],j,i,c,h=>by simp [zp] at h
 | d::r,j,0,c,h=>by
  simp only [zp,List.getElem?_cons_zero,zaI] at h;exact⟨d,rfl,h.symm⟩
 | d::r,j,i+1,c,h=>by
  simp only [zp,List.getElem?_cons_succ] at h;obtain⟨d',h1,h2⟩:=DX r (j+1) i c h;exact⟨d',by simpa using h1,by rw [show j+(i+1)=j+1+i by omega];exact h2⟩
theorem Nl {k:Nat}:∀ (cs:List DC) (j:Nat),(zp k j cs).length=cs.length
 | [],_=>rfl
 | d::r,j=>by simp [zp,Nl r (j+1)]
theorem HR:∀ (ds:List DV) (k n:Nat) (e:aL),an (iF k ds) n=some e->∃ i d p,ds[i]?=some d/\ci d=some p /\
  ((n=mN (k+i)/\e=.box (zp (k+i) 0 p.1))\/∃ j c q,n=mI (k+i) j/\p.1[j]?=some c/\fk c=some q/\e=.own q.1 q.2)
 | [],k,t,x,h=>by simp [iF,an] at h
 | d::r,k,n,e,h=>by
  have next:an (iF (k+1) r) n=some e->∃ i d',∃ p,(d::r)[i]?=some d'/\ci d'=some p /\
    ((n=mN (k+i)/\e=.box (zp (k+i) 0 p.1))\/∃ j c q,n=mI (k+i) j/\p.1[j]?=some c/\fk c=some q/\e=.own q.1 q.2):=fun h=>by
   obtain⟨i,d',p,h1,h2,h3⟩:=HR r (k+1) n e h;exact⟨i+1,d',p,by simpa using h1,h2,by rw [show k+(i+1)=k+1+i by omega];exact h3⟩
  simp only [iF] at h;split at h
  ·exact next h
  ·rename_i p hp
   simp only [an] at h;split at h
   ·rename_i hk
    simp only [zaI] at h;exact⟨0,d,p,rfl,hp,.inl ⟨hk.symm,h.symm⟩⟩
   ·rw [oC] at h
    split at h
    ·rename_i x hx
     simp only [zaI] at h;subst h;obtain⟨i,c,q,h1,h2,h3,h4⟩:=qG _ _ _ _ hx;exact⟨0,d,p,rfl,hp,.inr ⟨i,c,q,by rw [Nat.zero_add] at h1;exact h1,h2,h3,h4⟩⟩
    ·exact next h
theorem FH {k j n:Nat}{cs:List DC}(h:∀ i,i < cs.length->n ≠ mI k (j+i)):an (D5 k j cs) n=none:=by
 cases hq:an (D5 k j cs) n with
 | none=>rfl
 | some e=>
  obtain⟨i,d,p,h1,h2,_⟩:=qG _ _ _ _ hq;exact absurd h1 (h i (List.getElem?_eq_some_iff.1 h2).1)
theorem B1:∀ (ds:List DV) (k i:Nat) (d:DV) (p:List DC × Nat),kK ds=true->ds[i]?=some d->ci d=some p ->
  an (iF k ds) (mN (k+i))=some (.box (zp (k+i) 0 p.1))/\∀ (j:Nat) (c:DC) (q:Nat × List (List DC)),p.1[j]?=some c->fk c=some q->an (iF k ds) (mI (k+i) j)=some (.own q.1 q.2)
 | [],k,i,d,p,_,h,_=>by simp at h
 | d0::r,k,0,d,p,hs,h,hp=>by
  simp only [List.getElem?_cons_zero,zaI] at h;subst h;refine⟨by simp only [iF,hp,an,Nat.add_zero,if_true],fun j c q hc hq=>?_⟩;simp only [iF,hp,an,Nat.add_zero];rw [if_neg (by simp only [mN,mI];omega),oC];have:=M0 (k:=k) p.1 0 j c q hc hq;rw [Nat.zero_add] at this;rw [this]
 | d0::r,k,i+1,d,p,hs,h,hp=>by
  simp only [kK,Bool.and_eq_true] at hs;obtain⟨i1,i2⟩:=B1 r (k+1) i d p hs.2 (by simpa using h) hp;rw [show k+1+i=k+(i+1) by omega] at i1 i2;simp only [iF];split
  ·exact⟨i1,i2⟩
  ·rename_i q0 hq0
   have hl:q0.1.length<=1000:=by have:=hs.1;rw [hq0] at this;simpa using this
   refine⟨?_,fun j c q hc hq=>?_⟩
   ·simp only [an]
    rw [if_neg (by simp only [mN];omega),oC,FH (fun m hm=>by simp only [mN,mI];omega)];exact i1
   ·simp only [an]
    rw [if_neg (by simp only [mN,mI];omega),oC,FH (fun m hm=>by simp only [mI];omega)];exact i2 j c q hc hq
theorem xC:∀ (ds:List DV) (k t:Nat) (x:AV),an (nF k ds) t=some x->∃ i d p,t=k+i/\ds[i]?=some d/\ci d=some p/\x=.val false [.ptr (mN (k+i)) p.2]
 | [],k,t,x,h=>by simp [nF,an] at h
 | d::r,k,t,x,h=>by
  simp only [nF] at h;split at h
  ·obtain⟨i,d',p,h1,h2,h3,h4⟩:=xC r (k+1) t x h
   exact⟨i+1,d',p,by omega,by simpa using h2,h3,by rw [show k+(i+1)=k+1+i by omega];exact h4⟩
  ·rename_i p hp
   simp only [an] at h;split at h
   ·rename_i hk
    simp only [zaI] at h;exact⟨0,d,p,by omega,rfl,hp,h.symm⟩
   ·obtain⟨i,d',p,h1,h2,h3,h4⟩:=xC r (k+1) t x h
    exact⟨i+1,d',p,by omega,by simpa using h2,h3,by rw [show k+(i+1)=k+1+i by omega];exact h4⟩
theorem Oa:∀ {ds:List DV} {k:Nat},nF k ds=[]->iF k ds=[]
 | [],_,_=>rfl
 | d::r,k,h=>by
  simp only [nF] at h;simp only [iF];split at h
  ·exact Oa h
  ·cases h
theorem pU.av {N:Nat->Prop}{d:DV}{v:Value}(h:pU w N d v):aT w N g T (.val d.1 (d.2.map .d)) v:=by
 obtain⟨b,cs⟩:=d;cases b with
 | true=>
  obtain⟨xs,h1,h2,h3⟩:=h;refine⟨xs,h1,by simpa using h2,fun i c x hc hx=>?_⟩;rw [List.getElem?_map] at hc;cases hq:cs[i]? with
  | none=>rw [hq] at hc;cases hc
  | some d=>
   rw [hq] at hc;simp only [Option.map_some,zaI] at hc;subst hc;exact h3 i d x hq hx
 | false=>
  obtain⟨d,h1,h2⟩:=h;subst h1;exact⟨.d d,rfl,h2⟩
def Du:Value->Option Nat
 | .slice (some a) _ _=>some a.block
 | _=>none
def rn (w:World)(v:Value)(j:Nat):Value:=
 match v with
 | .pointer (some a)=>match w.heap[a.block]? with
  | some (.cells cells _ _)=>cells.getD j undef
  | _=>undef
 | _=>undef
def iB (w:World)(d:DV)(v:Value)(j:Nat):Option Nat:=
 match ci d with
 | some p=>match p.1[j]? with
  | some c=>match fk c with
   | some _=>Du (rn w v j)
   | none=>none
  | none=>none
 | none=>none
theorem cv.blk {N:Nat->Prop}{sz:Nat}{rows:List (List DC)}{v:Value}{ob:Option Nat}(h:cv w N sz rows v ob):ob=Du v:=by
 rcases h with ⟨rfl,_,rfl⟩ | ⟨b,off,cap,cells,t,fz,rfl,rfl,_⟩ <;> rfl
theorem jo.get {N:Nat->Prop}:∀ {ds:List DC} {xs:List Value} {is:List (Option Nat)},jo w N ds xs is->ds.length=xs.length /\
  (∀ (j:Nat) (d:DC) (x:Value),ds[j]?=some d->xs[j]?=some x->fk d=none->if LW d=true then x=.slice none 0 0 else aX w N d x) /\
  (∀ (j:Nat) (d:DC) (x:Value) (p:Nat × List (List DC)),ds[j]?=some d->xs[j]?=some x->fk d=some p->cv w N p.1 p.2 x (Du x)/\∀ b,Du x=some b->N b/\some b ∈ is) /\
  ((is.filterMap id).Nodup->∀ (j j':Nat) (d d':DC) (x x':Value) (p p':Nat × List (List DC)) (b:Nat),ds[j]?=some d->ds[j']?=some d'->xs[j]?=some x->xs[j']?=some x'->fk d=some p->fk d'=some p'->Du x=some b->Du x'=some b->j=j')
 | [],[],is,h=>⟨rfl,by simp,by simp,by simp⟩
 | [],_::_,_,h=>h.elim
 | _::_,[],_,h=>h.elim
 | d::ds,x::xs,is,h=>by
  simp only [jo] at h;split at h
  ·rename_i hd
   obtain⟨h1,h2,h3,h4⟩:=h.2.get;refine⟨by simp [h1],fun j d' x' hj hx ho=>?_,fun j d' x' p hj hx ho=>?_,fun hnd j j' d1 d2 x1 x2 p p' b hj hj' hx hx' ho ho' hb hb'=>?_⟩
   ·cases j with
    | zero=>simp at hj hx;subst hj;subst hx;exact h.1
    | succ j=>exact h2 j d' x' (by simpa using hj) (by simpa using hx) ho
   ·cases j with
    | zero=>simp at hj;subst hj;rw [hd] at ho;cases ho
    | succ j=>exact h3 j d' x' p (by simpa using hj) (by simpa using hx) ho
   ·cases j with
    | zero=>simp at hj;subst hj;rw [hd] at ho;cases ho
    | succ j=>cases j' with
     | zero=>simp at hj';subst hj';rw [hd] at ho';cases ho'
     | succ j'=>rw [h4 hnd j j' d1 d2 x1 x2 p p' b (by simpa using hj) (by simpa using hj') (by simpa using hx) (by simpa using hx') ho ho' hb hb']
  ·rename_i q hd
   split at h
   ·rename_i ob is'
    obtain⟨s1,s2,s3⟩:=h;obtain⟨h1,h2,h3,h4⟩:=s3.get;have hob:=s1.blk;refine⟨by simp [h1],fun j d' x' hj hx ho=>?_,fun j d' x' p hj hx ho=>?_,fun hnd j j' d1 d2 x1 x2 p p' b hj hj' hx hx' ho ho' hb hb'=>?_⟩
    ·cases j with
     | zero=>simp at hj;subst hj;rw [hd] at ho;cases ho
     | succ j=>exact h2 j d' x' (by simpa using hj) (by simpa using hx) ho
    ·cases j with
     | zero=>
      simp at hj hx;subst hj;subst hx;rw [hd] at ho;simp only [zaI] at ho;subst ho;exact⟨hob ▸ s1,fun b hb=>⟨s2 b (by rw [hob,hb]),by rw [hob,hb];simp⟩⟩
     | succ j=>
      obtain⟨e1,e2⟩:=h3 j d' x' p (by simpa using hj) (by simpa using hx) ho;exact⟨e1,fun b hb=>⟨(e2 b hb).1,List.mem_cons_of_mem _ (e2 b hb).2⟩⟩
    ·have hsub:(is'.filterMap id).Nodup/\∀ b,ob=some b->some b ∉ is':=by
      cases ob with
      | none=>exact⟨by simpa using hnd,nofun⟩
      | some b0=>
       simp only [List.filterMap_cons,id_eq] at hnd;obtain⟨n1,n2⟩:=List.nodup_cons.1 hnd;exact⟨n2,fun b hb hm=>by simp only [zaI] at hb;subst hb;exact n1 (List.mem_filterMap.2 ⟨_,hm,rfl⟩)⟩
     cases j with
     | zero=>cases j' with
      | zero=>rfl
      | succ j'=>
       simp at hx;subst hx;exact absurd ((h3 j' d2 x2 p' (by simpa using hj') (by simpa using hx') ho').2 b hb').2 (hsub.2 b (by rw [hob,hb]))
     | succ j=>cases j' with
      | zero=>
       simp at hx';subst hx';exact absurd ((h3 j d1 x1 p (by simpa using hj) (by simpa using hx) ho).2 b hb).2 (hsub.2 b (by rw [hob,hb']))
      | succ j'=>rw [h4 hsub.1 j j' d1 d2 x1 x2 p p' b (by simpa using hj) (by simpa using hj') (by simpa using hx) (by simpa using hx') ho ho' hb hb']
   ·exact h.elim
theorem vi.inn {N:Nat->Prop}{b:Nat}{d:DV}{p:List DC × Nat}{v:Value}{is:List (Option Nat)}(hd:ci d=some p)(h:vi w N b p.1 p.2 v is) :
  (∀ (j:Nat) (c:DC) (q:Nat × List (List DC)),p.1[j]?=some c->fk c=some q->cv w N q.1 q.2 (rn w v j) (iB w d v j))/\(∀ j b',iB w d v j=some b'->N b'/\some b' ∈ is) /\
  ((is.filterMap id).Nodup->∀ j j' b',iB w d v j=some b'->iB w d v j'=some b'->j=j'):=by
 obtain⟨_,hv,cells,t,hh,hc⟩:=h;obtain⟨h1,h2,h3,h4⟩:=hc.get;have hcv:∀ j,j < p.1.length->cells.toList[j]?=some (rn w v j):=fun j hj=>by
  rw [hv];simp only [rn,hh];rw [Array.getD_eq_getD_getElem?];have:j < cells.size:=by rw [h1] at hj;simpa using hj
  simp [this]
 have hin:∀ j b',iB w d v j=some b'->∃ c q,p.1[j]?=some c/\fk c=some q/\Du (rn w v j)=some b':=fun j b' hb=>by
  simp only [iB,hd] at hb;split at hb
  ·rename_i c hc
   split at hb
   ·rename_i q hq;exact⟨c,q,hc,hq,hb⟩
   ·cases hb
  ·cases hb
 refine⟨fun j c q hj hq=>?_,fun j b' hb=>?_,fun hnd j j' b' hb hb'=>?_⟩
 ·have:=(h3 j c _ q hj (hcv j (List.getElem?_eq_some_iff.1 hj).1) hq).1
  simp only [iB,hd,hj,hq];exact this
 ·obtain⟨c,q,e1,e2,e3⟩:=hin j b' hb
  exact (h3 j c _ q e1 (hcv j (List.getElem?_eq_some_iff.1 e1).1) e2).2 b' e3
 ·obtain⟨c,q,e1,e2,e3⟩:=hin j b' hb
  obtain⟨c',q',k1,k2,k3⟩:=hin j' b' hb';exact h4 hnd j j' c c' _ _ q q' b' e1 k1 (hcv j (List.getElem?_eq_some_iff.1 e1).1) (hcv j' (List.getElem?_eq_some_iff.1 k1).1) e2 k2 e3 k3
theorem iv.get {N:Nat->Prop}:∀ {ds:List DV} {vs:List Value} {bs:List Nat} {is:List (Option Nat)},iv w N ds vs bs is->ds.length=vs.length /\
  (∀ (k:Nat) (d:DV) (v:Value),ds[k]?=some d->vs[k]?=some v->ci d=none->pU w N d v) /\
  (∀ (k:Nat) (d:DV) (v:Value) (p:List DC × Nat),ds[k]?=some d->vs[k]?=some v->ci d=some p->∃ b ∈ bs,∃ i1,(∀ o ∈ i1,o ∈ is)/\((is.filterMap id).Nodup->(i1.filterMap id).Nodup)/\vi w N b p.1 p.2 v i1) /\
  (bs.Nodup->∀ (k k':Nat) (d d':DV) (p p':List DC × Nat) (b o o':Nat),ds[k]?=some d->ds[k']?=some d'->ci d=some p->ci d'=some p'->vs[k]?=some (.pointer (some ⟨b,o,none⟩))->vs[k']?=some (.pointer (some ⟨b,o',none⟩))->k=k') /\
  ((is.filterMap id).Nodup->∀ (k k':Nat) (d d':DV) (v v':Value) (j j' b:Nat),ds[k]?=some d->ds[k']?=some d'->vs[k]?=some v->vs[k']?=some v'->iB w d v j=some b->iB w d' v' j'=some b->k=k'/\j=j')
 | [],[],bs,is,h=>⟨rfl,by simp,by simp,by simp,by simp⟩
 | [],_::_,_,_,h=>h.elim
 | _::_,[],_,_,h=>h.elim
 | d::ds,v::vs,bs,is,h=>by
  simp only [iv] at h;split at h
  ·rename_i hd
   obtain⟨h1,h2,h3,h5,h6⟩:=h.2.get;have hno:∀ j,iB w d v j=none:=fun j=>by simp only [iB,hd]
   refine⟨by simp [h1],fun k d' v' hk hv hm=>?_,fun k d' v' p hk hv hm=>?_,fun hnd k k' d1 d2 p p' b o o' hk hk' hp hp' hv hv'=>?_,fun hnd k k' d1 d2 v1 v2 j j' b hk hk' hv hv' hi hi'=>?_⟩
   ·cases k with
    | zero=>simp at hk hv;subst hk;subst hv;exact h.1
    | succ k=>exact h2 k d' v' (by simpa using hk) (by simpa using hv) hm
   ·cases k with
    | zero=>simp at hk;subst hk;rw [hd] at hm;cases hm
    | succ k=>exact h3 k d' v' p (by simpa using hk) (by simpa using hv) hm
   ·cases k with
    | zero=>simp at hk;subst hk;rw [hd] at hp;cases hp
    | succ k=>cases k' with
     | zero=>simp at hk';subst hk';rw [hd] at hp';cases hp'
     | succ k'=>rw [h5 hnd k k' d1 d2 p p' b o o' (by simpa using hk) (by simpa using hk') hp hp' (by simpa using hv) (by simpa using hv')]
   ·cases k with
    | zero=>simp at hk hv;subst hk;subst hv;rw [hno] at hi;cases hi
    | succ k=>cases k' with
     | zero=>simp at hk' hv';subst hk';subst hv';rw [hno] at hi';cases hi'
     | succ k'=>
      obtain⟨e1,e2⟩:=h6 hnd k k' d1 d2 v1 v2 j j' b (by simpa using hk) (by simpa using hk') (by simpa using hv) (by simpa using hv') hi hi';exact⟨by rw [e1],e2⟩
  ·rename_i q hd
   split at h
   ·rename_i b0 bs'
    obtain⟨i1,i2,rfl,hm0,hrest⟩:=h;obtain⟨h1,h2,h3,h5,h6⟩:=hrest.get;obtain⟨m1,m2,m3⟩:=hm0.inn hd;have hblock:∀ (k:Nat) (d':DV) (p:List DC × Nat) (b o:Nat),ds[k]?=some d'->ci d'=some p->vs[k]?=some (.pointer (some ⟨b,o,none⟩))->b ∈ bs':=fun k d' p b o hk hp hv=>by
     obtain⟨b',hb',_,_,_,hm⟩:=h3 k d' _ p hk hv hp;have:=hm.2.1;simp only [Value.pointer.injEq,zaI,Addr.mk.injEq,and_true] at this;rw [this.1];exact hb'
    have h0:∀ b o,v=.pointer (some ⟨b,o,none⟩)->b=b0:=fun b o hv=>by
     have:=hm0.2.1;rw [hv] at this;simp only [Value.pointer.injEq,zaI,Addr.mk.injEq,and_true] at this;exact this.1
    have hi2:∀ (k:Nat) (d':DV) (v':Value) (j b:Nat),ds[k]?=some d'->vs[k]?=some v'->iB w d' v' j=some b->some b ∈ i2:=fun k d' v' j b hk hv hi=>by
     cases hm:ci d' with
     | none=>simp only [iB,hm] at hi;cases hi
     | some p=>
      obtain⟨b',_,i3,hi3,_,hmr⟩:=h3 k d' v' p hk hv hm;exact hi3 _ ((hmr.inn hm).2.1 j b hi).2
    have hnd2:((i1++i2).filterMap id).Nodup->(i1.filterMap id).Nodup/\(i2.filterMap id).Nodup/\∀ b,some b ∈ i1->some b ∉ i2:=fun hnd=>by
     rw [List.filterMap_append] at hnd;obtain⟨a1,a2,a3⟩:=List.nodup_append.1 hnd;exact⟨a1,a2,fun b hb hb'=>a3 b (List.mem_filterMap.2 ⟨_,hb,rfl⟩) b (List.mem_filterMap.2 ⟨_,hb',rfl⟩) rfl⟩
    refine⟨by simp [h1],fun k d' v' hk hv hm=>?_,fun k d' v' p hk hv hm=>?_,fun hnd k k' d1 d2 p p' b o o' hk hk' hp hp' hv hv'=>?_,fun hnd k k' d1 d2 v1 v2 j j' b hk hk' hv hv' hi hi'=>?_⟩
    ·cases k with
     | zero=>simp at hk;subst hk;rw [hd] at hm;cases hm
     | succ k=>exact h2 k d' v' (by simpa using hk) (by simpa using hv) hm
    ·cases k with
     | zero=>
      simp at hk hv;subst hk;subst hv;rw [hd] at hm;simp only [zaI] at hm;subst hm;exact⟨b0,by simp,i1,fun o ho=>List.mem_append_left _ ho,fun hnd=>(hnd2 hnd).1,hm0⟩
     | succ k=>
      obtain⟨b,hb,i3,e1,e2,e3⟩:=h3 k d' v' p (by simpa using hk) (by simpa using hv) hm;exact⟨b,List.mem_cons_of_mem _ hb,i3,fun o ho=>List.mem_append_right _ (e1 o ho),fun hnd=>e2 (hnd2 hnd).2.1,e3⟩
    ·obtain⟨n1,n2⟩:=List.nodup_cons.1 hnd
     cases k with
     | zero=>cases k' with
      | zero=>rfl
      | succ k'=>
       simp at hv;have:=hblock k' d2 p' b o' (by simpa using hk') hp' (by simpa using hv');rw [h0 b o hv] at this;exact absurd this n1
     | succ k=>cases k' with
      | zero=>
       simp at hv';have:=hblock k d1 p b o (by simpa using hk) hp (by simpa using hv);rw [h0 b o' hv'] at this;exact absurd this n1
      | succ k'=>rw [h5 n2 k k' d1 d2 p p' b o o' (by simpa using hk) (by simpa using hk') hp hp' (by simpa using hv) (by simpa using hv')]
    ·obtain⟨n1,n2,n3⟩:=hnd2 hnd
     cases k with
     | zero=>
      simp at hk hv;subst hk;subst hv;cases k' with
      | zero=>
       simp at hk' hv';subst hk';subst hv';exact⟨rfl,m3 n1 j j' b hi hi'⟩
      | succ k'=>exact absurd (hi2 k' d2 v2 j' b (by simpa using hk') (by simpa using hv') hi') (n3 b (m2 j b hi).2)
     | succ k=>
      cases k' with
      | zero=>
       simp at hk' hv';subst hk';subst hv';exact absurd (hi2 k d1 v1 j b (by simpa using hk) (by simpa using hv) hi) (n3 b (m2 j' b hi').2)
      | succ k'=>
       obtain⟨e1,e2⟩:=h6 n2 k k' d1 d2 v1 v2 j j' b (by simpa using hk) (by simpa using hk') (by simpa using hv) (by simpa using hv') hi hi';exact⟨by rw [e1],e2⟩
   ·exact h.elim
def afA:Value->Option Nat
 | .pointer (some a)=>some a.block
 | _=>none
theorem Z9 {N:Nat->Prop}{ds:List DV}{vs:Array Value}{bs:List Nat}{is:List (Option Nat)}{svv:Array Value}(hN:∀ b,N b->b < w.heap.size)(hnd:(j3 bs is).Nodup)(h:iv w N ds vs.toList bs is)(hn:vs.size<=nt)
  (hsv:nF 0 ds=[]\/(svv=vs/\kK ds=true)):Rel ⟨w,fun b=>b ∈ j3 bs is⟩ (fun b=>N b/\b ∉ j3 bs is) nt svv (DN ds) { tmps:=vs++Array.replicate (nt - vs.size) undef,defers:=[] } w:=by
 obtain⟨h1,h2,h3,h5,h6⟩:=h.get;have hnb:bs.Nodup/\(is.filterMap id).Nodup/\∀ b ∈ bs,some b ∉ is:=by
  obtain⟨a1,a2,a3⟩:=List.nodup_append.1 hnd;exact⟨a1,a2,fun b hb hb'=>a3 b hb b (List.mem_filterMap.2 ⟨_,hb',rfl⟩) rfl⟩
 let kk:Nat->Nat:=fun n=>(n - 500000000) / 1001
 let rr:Nat->Nat:=fun n=>(n - 500000000) % 1001
 let dd:Nat->DV:=fun k=>ds.getD k (true,[])
 let g:Gh:=⟨fun n=>if rr n=0 then afA (vs.getD (kk n) undef) else iB w (dd (kk n)) (vs.getD (kk n) undef) (rr n - 1),fun n=>rn w (vs.getD (kk n) undef) (rr n - 1),
  fun n=>match ci (dd (kk n)) with | some p=>(match p.1[rr n - 1]? with | some c=>(match fk c with | some q=>q.1 | none=>0) | none=>0) | none=>0⟩
 have hkN:∀ k,kk (mN k)=k/\rr (mN k)=0:=fun k=>by simp only [kk,rr,mN];omega
 have hkI:∀ k j,j < 1000->kk (mI k j)=k/\rr (mI k j)=j+1:=fun k j hj=>by simp only [kk,rr,mI];omega
 have hvg:∀ (i:Nat) (v:Value),vs[i]?=some v->vs.getD i undef=v:=fun i v hv=>by rw [Array.getD_eq_getD_getElem?,hv];rfl
 have hdg:∀ (i:Nat) (d:DV),ds[i]?=some d->dd i=d:=fun i d hd=>by simp [dd,hd]
 have hgb:∀ (i:Nat) (v:Value),vs[i]?=some v->g.blk (mN i)=afA v:=fun i v hv=>by
  simp only [g,(hkN i).1,(hkN i).2,if_true,hvg i v hv]
 have hgi:∀ (i j:Nat) (d:DV) (v:Value),j < 1000->ds[i]?=some d->vs[i]?=some v->g.blk (mI i j)=iB w d v j/\g.sv (mI i j)=rn w v j:=fun i j d v hj hd hv=>by
  simp only [g,(hkI i j hj).1,(hkI i j hj).2,hvg i v hv,hdg i d hd];exact⟨by rw [if_neg (by omega)];rfl,rfl⟩
 have hlen:∀ (i:Nat) (d:DV) (p:List DC × Nat),iF 0 ds ≠ []->ds[i]?=some d->ci d=some p->p.1.length<=1000:=fun i d p hne hd hp=>by
  rcases hsv with hsv | ⟨_,hs⟩
  ·exact absurd (Oa hsv) hne
  ·have key:∀ (l:List DV) (i:Nat),kK l=true->l[i]?=some d->p.1.length<=1000:=by
    intro l
    induction l with
    | nil=>intro i _ h;simp at h
    | cons x r ih=>
     intro i h hi;simp only [kK,Bool.and_eq_true] at h;cases i with
     | zero=>simp at hi;subst hi;have:=h.1;rw [hp] at this;simpa using this
     | succ i=>exact ih i h.2 (by simpa using hi)
   exact key ds i hs hd
 -- what stands in the table
 have hent:∀ n e,an (iF 0 ds) n=some e->∃ i d p b v i1,ds[i]?=some d/\ci d=some p/\vs[i]?=some v/\b ∈ bs/\(∀ o ∈ i1,o ∈ is)/\vi w N b p.1 p.2 v i1/\p.1.length<=1000 /\
   ((n=mN i/\e=.box (zp i 0 p.1)/\g.blk n=some b)\/∃ j c q,n=mI i j/\j < 1000/\p.1[j]?=some c/\fk c=some q/\e=.own q.1 q.2/\g.blk n=iB w d v j/\g.sv n=rn w v j/\g.st n=q.1):=fun n e he=>by
  obtain⟨i,d,p,e2,e3,e4⟩:=HR ds 0 n e he;rw [Nat.zero_add] at e4;have hi:i < vs.size:=by have:=(List.getElem?_eq_some_iff.1 e2).1;rw [h1] at this;simpa using this
  have hv:vs[i]?=some vs[i]:=by simp [hi]
  obtain⟨b,hb,i1,hi1,_,hm⟩:=h3 i d vs[i] p e2 (by simp [hi]) e3;have hl:=hlen i d p (fun h0=>by rw [h0] at he;cases he) e2 e3;refine⟨i,d,p,b,vs[i],i1,e2,e3,hv,hb,hi1,hm,hl,?_⟩;rcases e4 with ⟨k1,k2⟩ | ⟨j,c,q,k1,k2,k3,k4⟩
  ·exact .inl ⟨k1,k2,by rw [k1,hgb i vs[i] hv,hm.2.1];rfl⟩
  ·have hj:j < 1000:=Nat.lt_of_lt_of_le (List.getElem?_eq_some_iff.1 k2).1 hl
   refine .inr ⟨j,c,q,k1,hj,k2,k3,k4,by rw [k1];exact (hgi i j d vs[i] hj e2 hv).1,by rw [k1];exact (hgi i j d vs[i] hj e2 hv).2,?_⟩;subst k1;simp only [g,(hkI i j hj).1,(hkI i j hj).2,hdg i d e2,e3,Nat.add_sub_cancel,k2,k3]
 have hlive:∀ n,live (iF 0 ds) n->∃ e,an (iF 0 ds) n=some e:=fun n hl=>by
  have:=bV hl;cases hq:an (iF 0 ds) n with
  | none=>rw [hq] at this;cases this
  | some e=>exact⟨e,rfl⟩
 -- the block of a live name
 have hblk:∀ n b,live (iF 0 ds) n->g.blk n=some b->N b/\b ∈ j3 bs is/\∃ i d v,ds[i]?=some d/\vs[i]?=some v/\((n=mN i/\b ∈ bs/\(∃ p,ci d=some p/\v=.pointer (some ⟨b,p.2,none⟩)))\/∃ j,n=mI i j/\some b ∈ is/\iB w d v j=some b):=fun n b hl hb=>by
  obtain⟨e,he⟩:=hlive n hl;obtain⟨i,d,p,b',v,i1,e1,e2,e3,e4,e5,hm,_,k | k⟩:=hent n e he
  ·obtain⟨k1,k2,k3⟩:=k
   rw [hb] at k3;simp only [zaI] at k3;subst k3;exact⟨hm.1,List.mem_append_left _ e4,i,d,v,e1,e3,.inl ⟨k1,e4,p,e2,hm.2.1⟩⟩
  ·obtain⟨j,c,q,k1,k2,k3,k4,k5,k6,_⟩:=k
   rw [hb] at k6;have:=(hm.inn e2).2.1 j b k6.symm;have hi:=e5 _ this.2;exact⟨this.1,List.mem_append_right _ (List.mem_filterMap.2 ⟨_,hi,rfl⟩),i,d,v,e1,e3,.inr ⟨j,k1,hi,k6.symm⟩⟩
 have hav:∀ b,aB (fun b=>N b/\b ∉ j3 bs is) g (iF 0 ds) b->N b:=by
  rintro b (hb | ⟨n,hl,hbn⟩)
  ·exact hb.1
  ·exact (hblk n b hl hbn).1
 have hptr:∀ (i:Nat) (d:DV) (p:List DC × Nat),kK ds=true->ds[i]?=some d->ci d=some p->∀ v,vs[i]?=some v->aT w (aB (fun b=>N b/\b ∉ j3 bs is) g (iF 0 ds)) g (iF 0 ds) (.val false [.ptr (mN i) p.2]) v:=fun i d p hs hd hp v hv=>by
  obtain⟨b,hb,_,_,_,hm⟩:=h3 i d v p hd (by simpa using hv) hp;have:=(B1 ds 0 i d p hs hd hp).1;rw [Nat.zero_add] at this;exact⟨_,rfl,by rw [this];rfl,b,by rw [hgb i v hv,hm.2.1];rfl,hm.2.1⟩
 have hshort:nF 0 ds ≠ []->kK ds=true:=fun hne=>(hsv.resolve_left hne).2;have hmref:∀ (i:Nat) (d:DV) (p:List DC × Nat),ds[i]?=some d->ci d=some p->nF 0 ds ≠ []:=by
  have key:∀ (l:List DV) (k i:Nat) (d:DV) (p:List DC × Nat),l[i]?=some d->ci d=some p->nF k l ≠ []:=by
   intro l
   induction l with
   | nil=>intro k i d p h;simp at h
   | cons x r ih=>
    intro k i d p h hp;simp only [nF];cases i with
    | zero=>simp at h;subst h;rw [hp];simp
    | succ i=>
     split
     ·exact ih (k+1) i d p (by simpa using h) hp
     ·simp
  exact fun i d p hd hp=>key ds 0 i d p hd hp
 refine⟨g,⟨.refl,fun n e he=>?_,fun n m b hn hm bn bm=>?_,fun n b hl hb=>?_,fun b hb=>⟨hN b hb.1,hb.2⟩⟩,fun t x hx=>?_,by simp;omega,⟨List.nodup_nil,fun _=>rfl,fun d hd=>by simp at hd⟩,fun t x hx=>?_⟩
 ·obtain⟨i,d,p,b,v,i1,e1,e2,e3,e4,e5,hm,hl,k | k⟩:=hent n e he
  ·obtain⟨k1,rfl,hgn⟩:=k
   obtain⟨_,hmv,cells,t,k1',k2⟩:=hm;obtain⟨c1,c2,c3,_⟩:=k2.get;have hs:=hshort (hmref i d p e1 e2);refine⟨b,cells,t,hgn,k1',by rw [Nl,c1];simp,fun j c x hc hx=>?_,fun j c hc=>?_⟩
   ·obtain⟨d',hd',rfl⟩:=DX _ _ _ _ hc
    rw [Nat.zero_add];cases hq:fk d' with
    | none=>
     have h0:=c2 j d' x hd' (by simpa using hx) hq;cases hnm:LW d' with
     | true=>rw [if_pos hnm] at h0;exact h0
     | false=>rw [if_neg (by rw [hnm];simp)] at h0;exact h0.less hav
    | some q=>
     have hj:j < 1000:=Nat.lt_of_lt_of_le (List.getElem?_eq_some_iff.1 hd').1 hl;have hso:=(c3 j d' x q hd' (by simpa using hx) hq).1;have hcv:rn w v j=x:=by
      rw [hmv];simp only [rn,k1'];rw [Array.getD_eq_getD_getElem?,hx];rfl
     have hT:=(B1 ds 0 i d p hs e1 e2).2 j d' q hd' hq;rw [Nat.zero_add] at hT;refine⟨by show (an (iF 0 ds) (mI i j)).isSome=true;rw [hT];rfl,by rw [(hgi i j d v hj e1 e3).2,hcv],?_⟩;rcases hso with ⟨e,_,_⟩ | ⟨_,_,_,_,_,_,_,e,_⟩
     ·exact⟨_,_,_,e⟩
     ·exact⟨_,_,_,e⟩
   ·obtain⟨d',hd',rfl⟩:=DX _ _ _ _ hc
    cases fk d' with
    | none=>cases LW d' <;> rfl
    | some _=>rfl
  ·obtain⟨j,c,q,k1,hj,k2,k3,rfl,k5,k6,k7⟩:=k
   refine⟨?_,k7⟩;rw [k5,k6];exact ((hm.inn e2).1 j c q k2 k3).sub hav
 ·obtain⟨_,_,i,d,v,e1,e2,e3⟩:=hblk n b hn bn
  obtain⟨_,_,i',d',v',c1,c2,c3⟩:=hblk m b hm bm;rcases e3 with ⟨k1,k2,p,k3,k4⟩ | ⟨j,k1,k2,k3⟩ <;> rcases c3 with ⟨l1,l2,p',l3,l4⟩ | ⟨j',l1,l2,l3⟩
  ·have:=h5 hnb.1 i i' d d' p p' b p.2 p'.2 e1 c1 k3 l3 (by rw [<- k4];simpa using e2) (by rw [<- l4];simpa using c2)
   rw [k1,l1,this]
  ·exact absurd l2 (hnb.2.2 b k2)
  ·exact absurd k2 (hnb.2.2 b l2)
  ·obtain⟨a1,a2⟩:=h6 hnb.2.1 i i' d d' v v' j j' b e1 c1 (by simpa using e2) (by simpa using c2) k3 l3
   rw [k1,l1,a1,a2]
 ·obtain⟨a1,a2,_⟩:=hblk n b hl hb
  exact⟨.inr a2,hN b a1⟩
 ·obtain⟨i,d,rfl,hd,rfl⟩:=G9 ds 0 t x hx
  rw [Nat.zero_add];have hi:i < vs.size:=by have:=(List.getElem?_eq_some_iff.1 hd).1;rw [h1] at this;simpa using this
  have hv:vs[i]?=some vs[i]:=by simp [hi]
  have hget:(vs++Array.replicate (nt - vs.size) undef).getD i undef=vs[i]:=by
   rw [Array.getD_eq_getD_getElem?,Array.getElem?_append_left hi,hv];rfl
  rw [hget];cases hp:ci d with
  | none=>
   have:=(h2 i d vs[i] hd (by simp [hi]) hp).av (g:=g) (T:=iF 0 ds);simp only [];refine aT.mono (fun c v hc=>?_) this;exact hc.mono (fun _ _ hd=>hd.less hav) (fun _ h=>h) fun _ _=>⟨rfl,rfl,rfl⟩
  | some p=>exact hptr i d p (hshort (hmref i d p hd hp)) hd hp _ hv
 ·obtain⟨i,d,p,rfl,hd,hp,rfl⟩:=xC ds 0 t x hx
  rw [Nat.zero_add];have hs:=hsv.resolve_left (hmref i d p hd hp);obtain⟨rfl,hs⟩:=hs;have hi:i < svv.size:=by have:=(List.getElem?_eq_some_iff.1 hd).1;rw [h1] at this;simpa using this
  have hv:svv[i]?=some svv[i]:=by simp [hi]
  rw [Array.getD_eq_getD_getElem?,hv];exact hptr i d p hs hd hp _ hv
def arI (rs:List dZ)(res:List RV)(e:Exit)(σ:St):Prop:=(e=.ret\/e=.normal)/\C6 rs σ=some res
theorem uG {F:Fence}{n:Nat}{fn:Func}{tmps:Array Value}{R:Ending->World->Prop}{svv sv2:Array Value}(hfin:∀ w g,Mem w0 N0 g σ.tab w->dw w (aB N0 g σ.tab) g σ.tab σ.tmps tmps->dw w (aB N0 g σ.tab) g σ.tab σ.sv sv2->LeavesIn F n P fn tmps R [] .returning w) :
  ∀ (l:List Deferred) (w:World) (g:Gh),Mem w0 N0 g σ.tab w->dw w (aB N0 g σ.tab) g σ.tab σ.tmps tmps->dw w (aB N0 g σ.tab) g σ.tab σ.sv sv2->zl w0 svv l w->LeavesInM F n P fn tmps R l .returning w
 | [],w,g,hM,hS,hS2,_=>hfin w g hM hS hS2
 | d::l,w,g,hM,hS,hS2,hm=>by
  obtain⟨D,h1,h2,h3⟩:=hm.2.2 d (by simp);refine⟨nofun,.inl ⟨D,_,by rw [h1],run_takeDeferred h3,?_⟩⟩;obtain⟨h4,h5⟩:=hM.putObj (o':=.deferred none) h3 rfl (.inl h2);refine uG hfin l _ g h4 (fun t x hx=>h5.a (hS t x hx)) (fun t x hx=>h5.a (hS2 t x hx)) ⟨(List.nodup_cons.1 hm.1).2,fun h=>absurd (hm.2.1 h) (List.cons_ne_nil _ _),fun d' hd'=>?_⟩;obtain⟨D',k1,k2,k3⟩:=hm.2.2 d' (List.mem_cons_of_mem _ hd');refine⟨D',k1,k2,?_⟩;rw [World.putObj_heap_other fun e=>(List.nodup_cons.1 hm.1).1 (by rw [h1,<- e,<- k1];exact hd')];exact k3
theorem rC {σ:St}:∀ {rs ts:List dZ} {ys:List AV},gD σ (rs++ts)=some ys->∃ y1 y2,ys=y1++y2/\gD σ rs=some y1/\gD σ ts=some y2
 | [],ts,ys,h=>⟨[],ys,rfl,rfl,h⟩
 | r::rs,ts,ys,h=>by
  simp only [List.cons_append,gD] at h;split at h
  ·rename_i y ys' h1 h2
   simp only [zaI] at h;subst h;obtain⟨y1,y2,e1,e2,e3⟩:=rC h2;exact⟨y::y1,y2,by rw [e1];rfl,by simp only [gD,h1,e2],e3⟩
  ·cases h
theorem G4 {names:List Nat}:∀ {l:List (Nat × AV)},alc names l=true->∀ (k:Nat) (x:AV) (n off:Nat),an l k=some x->de x=some (.ptr n off)->n ∉ names
 | [],_,k,x,n,off,h,_=>by simp [an] at h
 | p::r,h,k,x,n,off,hk,ho=>by
  simp only [alc,Bool.and_eq_true] at h;simp only [an] at hk;split at hk
  ·simp only [zaI] at hk
   subst hk;have:=h.1;rw [ho] at this;simp only [Bool.not_eq_true'] at this;exact fun hx=>by rw [Jd.2 hx] at this;cases this
  ·exact G4 h.2 k x n off hk ho
theorem Id {wb:World}{bs0:List Nat}{N:Nat->Prop}{svv:Array Value}(hM:Mem ⟨wb,fun b=>b ∈ bs0⟩ N0 g σ.tab w)(hS:dw w (aB N0 g σ.tab) g σ.tab σ.sv svv){names:List Nat}(hno:alc names σ.sv=true) :
  ∀ (ds:List DV) (vs:List Value) (bs:List Nat) (is:List (Option Nat)) (k:Nat) (ys:List AV),iv wb N ds vs bs is->(∀ (i:Nat) (v:Value),vs[i]?=some v->svv.getD (k+i) undef=v)->gD σ (gJ k ds)=some ys ->
   (∃ us,kE w bs us/\us.length=ys.length/\∀ (i:Nat) (y:AV) (v:Value),ys[i]?=some y->us[i]?=some v->aT w (aB N0 g σ.tab) g σ.tab y v) /\
   ∀ b ∈ bs,∃ n cs,an σ.tab n=some (.box cs)/\g.blk n=some b/\n ∉ names
 | [],[],bs,is,k,ys,h,_,hy=>by
  obtain⟨rfl,_⟩:bs=[]/\is=[]:=h;simp only [gJ,gD,zaI] at hy;subst hy;exact⟨⟨[],rfl,rfl,fun i y v h=>by simp at h⟩,by simp⟩
 | [],_::_,bs,is,k,ys,h,_,_=>h.elim
 | _::_,[],bs,is,k,ys,h,_,_=>h.elim
 | d::ds,v::vs,bs,is,k,ys,h,hv,hy=>by
  have hv':∀ (i:Nat) (v:Value),vs[i]?=some v->svv.getD (k+1+i) undef=v:=fun i u hu=>by
   have:=hv (i+1) u (by simpa using hu)
   rwa [show k+(i+1)=k+1+i by omega] at this
  simp only [iv] at h;simp only [gJ] at hy;split at h
  ·rename_i hd
   rw [hd] at hy;exact Id hM hS hno ds vs bs is (k+1) ys h.2 hv' hy
  ·rename_i p hd
   rw [hd] at hy;split at h
   ·rename_i b bs'
    obtain⟨i1,i2,rfl,hm0,hrest⟩:=h;simp only [gD] at hy;split at hy
    ·rename_i y ys' hy1 hy2
     simp only [zaI] at hy;subst hy;obtain⟨⟨us,u1,u2,u3⟩,u4⟩:=Id hM hS hno ds vs bs' i2 (k+1) ys' hrest hv' hy2;simp only [Md] at hy1;split at hy1
     ·rename_i x hx
      split at hy1
      ·rename_i n off ho
       split at hy1
       ·rename_i cs hT
        simp only [zaI] at hy1;subst hy1;have hrel:=bf (hS k x hx) ho;have h0:=hv 0 v rfl;rw [Nat.add_zero] at h0;rw [h0] at hrel;obtain⟨_,b',hb',hvb⟩:=hrel;have hvp:=hm0.2.1;rw [hvb] at hvp;simp only [Value.pointer.injEq,zaI,Addr.mk.injEq,and_true] at hvp;obtain⟨rfl,_⟩:=hvp;obtain⟨b2,cells,t,k1,k2,k3,k4,k5⟩:=hM.box hT;rw [hb'] at k1;simp only [zaI] at k1;subst k1;refine⟨⟨.agg cells::us,⟨⟨cells,t,k2,rfl⟩,u1⟩,by simp [u2],fun i y u hi hu=>?_⟩,fun b2 hb2=>?_⟩
        ·cases i with
         | zero=>
          simp at hi hu;subst hi;subst hu;exact⟨cells,rfl,k3.symm,k4⟩
         | succ i=>exact u3 i y u (by simpa using hi) (by simpa using hu)
        ·rcases List.mem_cons.1 hb2 with rfl | hb2
         ·exact⟨n,cs,hT,hb',G4 hno k x n off hx ho⟩
         ·exact u4 b2 hb2
       ·cases hy1
      ·cases hy1
     ·cases hy1
    ·cases hy
   ·exact h.elim
theorem Dc:∀ {ds:List DV} {k:Nat},nF k ds=[]->gJ k ds=[]/\∀ {w:World} {N:Nat->Prop} {vs:List Value} {bs:List Nat} {is:List (Option Nat)},iv w N ds vs bs is->bs=[]/\is=[]
 | [],k,_=>⟨rfl,fun {w N vs bs is} h=>by cases vs with | nil=>exact h | cons=>exact h.elim⟩
 | d::ds,k,h=>by
  simp only [nF] at h;split at h
  ·rename_i hd
   obtain⟨h1,h2⟩:=Dc h;refine⟨by simp only [gJ,hd];exact h1,fun {w N vs bs is} ha=>?_⟩;cases vs with
   | nil=>exact ha.elim
   | cons v vs=>
    simp only [iv,hd] at ha;exact h2 ha.2
  ·cases h
theorem y3 {f:FuncId}{fn:Func}{c:Code}{ac:aq}{rs:List dZ}{top:Bool}(hf:P.funcs[f]?=some fn)(hb:fn.body=some c)(hm:P.follows .mixedOrders=true)(hc:mk P fn.ntmps tr tl top c=some ac)
  (hr:gZ P fn.results.toList=some rs) (hE:dy P E) {ds:List DV} {res:List RV} (hn:ds.length<=fn.ntmps) (htop:top=true->nF 0 ds=[]) (hsh:nF 0 ds=[]\/kK ds=true) (h:wpA P E ac (arI (rs++gJ 0 ds) res) (DN ds)):eu P f ds res:=by
 intro w vs N bs is hN hnd hargs;have hlen:=hargs.get.1;have hsz:vs.size<=fn.ntmps:=by
  have:ds.length=vs.size:=by simpa using hlen
  omega
 obtain⟨svv,hsvv⟩:∃ svv:Array Value,svv=if top then #[] else vs:=⟨_,rfl⟩
 refine callsIn_wide (n:=0).1 (callsIn_of_wp_marks hf hb trivial ?_);refine azy hE hm c top ac hc none (fun _=>rfl) 0 ⟨w,fun b=>b ∈ j3 bs is⟩ (fun b=>N b/\b ∉ j3 bs is) svv (arI (rs++gJ 0 ds) res) _ (DN ds) _ w (fun ht=>by rw [hsvv,ht];rfl) (fun e σ a' w' hd hR=>?_) (Z9 hN hnd hargs hsz (by
  cases top with
  | true=>exact .inl (htop rfl)
  | false=>exact hsh.imp id fun h=>⟨hsvv,h⟩)) h
 obtain⟨he,hres⟩:=hd;obtain⟨g,hM,hS,hsz',hdf,hS2⟩:=hR;have key:LeavesInM Fence.wide 0 P fn a'.tmps (fun e w'=>∃ v us,e=.returned v/\rU (j3 bs is) w w'/\kE w' bs us/\AL w N is res us v w') a'.defers .returning w':=by
  refine uG (σ:=σ) (fun w2 g2 hM2 hT2 hV2=>?_) a'.defers w' g hM hS hS2 hdf;unfold C6 at hres;split at hres
  ·rename_i avs havs
   split at hres
   ·rename_i res' names har
    split at hres
    ·rename_i hown
     simp only [zaI] at hres;subst hres;simp only [Bool.and_eq_true] at hown;obtain⟨y1,y2,rfl,a1,a2⟩:=rC havs;obtain⟨vs',hrun,hlen',hrel⟩:=F7 (P:=P) (a:=a') hM2 hT2 fn.results.toList rs y1 hr a1;have houts:(∃ us,kE w2 bs us/\us.length=y2.length/\∀ (i:Nat) (y:AV) (v:Value),y2[i]?=some y->us[i]?=some v->aT w2 (aB (fun b=>N b/\b ∉ j3 bs is) g2 σ.tab) g2 σ.tab y v) /\
       ∀ b ∈ bs,∃ n cs,an σ.tab n=some (.box cs)/\g2.blk n=some b/\n ∉ names++(jO σ.tab 0 (y1++y2)).map (·.2):=by
      cases top with
      | true=>
       obtain⟨o1,o2⟩:=Dc (htop rfl);obtain⟨rfl,rfl⟩:=o2 hargs;rw [o1] at a2;simp only [gD,zaI] at a2;subst a2;exact⟨⟨[],rfl,rfl,fun i y v h=>by simp at h⟩,by simp⟩
      | false=>
       simp only [Bool.false_eq_true,if_false] at hsvv;subst hsvv;exact Id hM2 hV2 hown.2 ds svv.toList bs is 0 y2 hargs (fun i v hv=>by
        rw [Nat.zero_add,Array.getD_eq_getD_getElem?,show svv[i]?=some v by simpa using hv];rfl) a2
     obtain⟨⟨us,u1,u2,u3⟩,u4⟩:=houts;refine⟨_,Mw hrun,_,us,rfl,⟨hM2.below.os,hM2.below.tape,hM2.below.output,hM2.below.size,fun k hk hkb=>hM2.below.block k hk hkb⟩,u1,aaq hM2 (by simp [hlen',u2]) (fun i y v hy hv=>?_) har hown.1 u4 fun b hb=>?_⟩
     ·rw [List.getElem?_append] at hy hv
      rw [hlen'] at hv;split at hy
      ·rename_i hi
       rw [if_pos hi] at hv;exact hrel i y v hy hv
      ·rename_i hi
       rw [if_neg hi] at hv;exact u3 _ y v hy hv
     ·by_cases hbb:b ∈ j3 bs is
      ·exact .inr hbb
      ·exact .inl ⟨hb,hbb⟩
    ·cases hres
   ·cases hres
  ·cases hres
 rcases he with rfl | rfl <;> exact key
def tI (P:Program)(f:FuncId)(nt:Nat)(tr tl:List (Nat × bX))(ac:aq)(rs:List dZ):Prop:=
 ∃ fn, P.funcs[f]? = some fn ∧ fn.ntmps = nt ∧ fn.body.bind (mk P nt tr tl true) = some ac ∧ gZ P fn.results.toList = some rs ∧ (fn.name == "runtime.NumGoroutine") = false
variable {P:Program}{E:Env}{f:FuncId}{nt:Nat}{tr tl:List (Nat × bX)}{ac:aq}{rs:List dZ}
theorem tI.contract (h:tI P f nt tr tl ac rs)(hm:P.follows .mixedOrders=true)(hE:dy P E){ds:List DV}{res:List RV}(hn:ds.length<=nt)(hio:akU ds ac=true)(hw:wpA P E ac (arI (rs++gJ 0 ds) res) (DN ds)) :
  eu P f ds res/\ge P f:=by
 obtain⟨fn,h1,h2,h3,h4,h5⟩:=h;subst h2;cases hb:fn.body with
 | none=>rw [hb] at h3;cases h3
 | some c=>
  rw [hb] at h3;simp only [Option.bind_some] at h3;have h3':mk P fn.ntmps tr tl true c=some ac:=h3;refine⟨?_,fn,h1,by rw [hb];rfl,h5⟩;unfold akU at hio;split at hio
  ·rename_i hv
   exact y3 h1 hb hm h3' h4 hE hn (fun _=>hv) (.inl hv) hw
  ·simp only [Bool.and_eq_true] at hio
   exact y3 (top:=false) h1 hb hm (agk c ac h3' hio.1) h4 hE hn (fun h=>by cases h) (.inr hio.2) hw
def Env.add (E:Env)(f:Nat)(s:List DV->Option (List RV)):Env:=⟨fun g ds=>if g=f then s ds else E g ds,E.seq,E.io⟩
theorem dy.add (hE:dy P E){s:List DV->Option (List RV)}(h:∀ ds res,s ds=some res->eu P f ds res/\ge P f):dy P (E.add f s):=by
 refine⟨fun g ds res hg=>?_,hE.seq⟩;simp only [Env.add] at hg;split at hg
 ·rename_i he;subst he;exact h ds res hg
 ·exact hE.call g ds res hg
def Env.nil:Env:=⟨fun _ _=>none,fun _ _=>none,fun _=>[]⟩
theorem dy.nil:dy P Env.nil:=⟨fun _ _ _ h=>(nomatch h),fun _ _ _ h=>(nomatch h)⟩
section
variable {t:TypeId}{x y:Operand}{k:IntKind}{a b:Int}
@[simp] theorem pG:di P .add t x y (.int k a) (.int k b)=some (.int k (k.wrap (a+b))):=by simp [di,eqGuard,binOp,Op.intArith,aH,bind,Sem.bind,pure]
@[simp] theorem aFm:di P .sub t x y (.int k a) (.int k b)=some (.int k (k.wrap (a - b))):=by simp [di,eqGuard,binOp,Op.intArith,aH,bind,Sem.bind,pure]
@[simp] theorem aCM:di P .mul t x y (.int k a) (.int k b)=some (.int k (k.wrap (a*b))):=by simp [di,eqGuard,binOp,Op.intArith,aH,bind,Sem.bind,pure]
theorem ajS (hb:b ≠ 0):di P .quo t x y (.int k a) (.int k b)=some (.int k (k.wrap (a.tdiv b))):=by simp [di,eqGuard,binOp,Op.intDiv,aH,bind,Sem.bind,pure,hb]
theorem adb (hb:b ≠ 0):di P .rem t x y (.int k a) (.int k b)=some (.int k (a.tmod b)):=by simp [di,eqGuard,binOp,Op.intDiv,aH,bind,Sem.bind,pure,hb]
@[simp] theorem aCX:di P .eql t x y (.int k a) (.int k b)=some (.bool (a == b)):=by simp [di,eqGuard,binOp,Op.intCmp,aH,bind,Sem.bind,pure]
@[simp] theorem aGc:di P .neq t x y (.int k a) (.int k b)=some (.bool (a != b)):=by simp [di,eqGuard,binOp,Op.intCmp,aH,bind,Sem.bind,pure]
@[simp] theorem lV:di P .lss t x y (.int k a) (.int k b)=some (.bool (decide (a < b))):=by simp [di,eqGuard,binOp,Op.intCmp,aH,bind,Sem.bind,pure]
@[simp] theorem aD8:di P .leq t x y (.int k a) (.int k b)=some (.bool (decide (a<=b))):=by simp [di,eqGuard,binOp,Op.intCmp,aH,bind,Sem.bind,pure]
@[simp] theorem aAM:di P .gtr t x y (.int k a) (.int k b)=some (.bool (decide (b < a))):=by simp [di,eqGuard,binOp,Op.intCmp,aH,bind,Sem.bind,pure]
@[simp] theorem aGs:di P .geq t x y (.int k a) (.int k b)=some (.bool (decide (b<=a))):=by simp [di,eqGuard,binOp,Op.intCmp,aH,bind,Sem.bind,pure]
end
abbrev vI (n:Int):DV:=(false,[.v (.int .i64 n)])
abbrev rB (n:Bool):RV:=(false,[.d (.v (.bool n))])
inductive Kn where
 | nil
 | seq (b:aq) (k:Kn)
 | blk (id:Nat) (k:Kn)
 | rounds (td:Option bX) (b:aq) (n:Nat) (k:Kn)
section
variable {P:Program}{E:Env}{c a b:aq}{k:Kn}{Q:Exit->St->Prop}{σ:St}{e:Exit}{i n:Nat}{td:Option bX}{ops:List bp}{ao:bp}{prs:List (Nat × Nat)}{acc:List dv}{p:Nat × Nat}
end
def g9 (ρ:Operand->AV):List Operand->Option (List Value)
 | []=>some []
 | x::r=>match ff (ρ x),g9 ρ r with
  | some v,some vs=>some (v::vs)
  | _,_=>none
def gA (l:Nat)(ρ:Operand->AV):AOp->Option (List Operand)
 | .calld x as=>match de (ρ x) with
  | some (.yld l')=>if l'=l then some as else none
  | _=>none
 | _=>none
def rq:AV->Bool
 | .val _ cs=>cs.all fun | .d (.v _) | .und | .yld _=>true | _=>false
 | .tup _=>false
def lp:List (Nat × AV)->List (Nat × AV)
 | []=>[]
 | (k,x)::r=>(k,if rq x then x else .val false [.unk])::lp r
def ma (A:List (Nat × AV))(σ:St)(dst:Option Nat)(b:Bool):St:=⟨xm (A++lp σ.tmps) dst (.val false [.d (.v (.bool b))]),[],[]⟩
def rm (A:List (Nat × AV)):Option Nat->Bool
 | some d=>(an A d).isNone
 | none=>true
def LD (P:Program)(E:Env)(xs:List (List Value))(l:Nat)(A:List (Nat × AV)):List bp->(Option Nat->St->Prop)->Option Nat->St->Prop
 | [],K,i,σ=>K i σ
 | ao::r,K,i,σ=>rm A ao.dst=true/\df (ew σ.tmps ao.guard)
   (match gA l (evO σ.tmps) ao.op with
    | some as=>match i with
     | some k=>(∃ x,xs[k]?=some x/\g9 (evO σ.tmps) as=some x)/\LD P E xs l A r K (some (k+1)) (ma A σ ao.dst true)/\LD P E xs l A r K none (ma A σ ao.dst false)
     | none=>False
    | none=>rS (eff P E σ.tab (evO σ.tmps) (ao.dst.getD 9999) ao.op) fun y es=>LD P E xs l A r K i (bN σ ao.dst y es))
   (LD P E xs l A r K i (bN σ ao.dst (.val false [.und]) []))
def Zu (K:Option Nat->St->Prop)(Q:Exit->Option Nat->St->Prop):Exit->Option Nat->St->Prop
 | .normal,i,σ=>K i σ
 | .exit id,i,σ=>Q (.exit id) i σ
 | .ret,i,σ=>Q .ret i σ
 | _,_,_=>False
def O1 (id:Nat)(Q:Exit->Option Nat->St->Prop):Exit->Option Nat->St->Prop
 | .normal,i,σ=>Q .normal i σ
 | .exit id',i,σ=>if id'=id then Q .normal i σ else Q (.exit id') i σ
 | .ret,i,σ=>Q .ret i σ
 | _,_,_=>False
def adV (A:List (Nat × AV))(ks:List Nat)(σ:St):St:=match σ.tab with
 | []=>⟨dY ks σ.tmps,[],[]⟩
 | _::_=>⟨A++lp (dY ks σ.tmps),[],[]⟩
def M1 (A:List (Nat × AV))(f:(Exit->Option Nat->St->Prop)->Option Nat->St->Prop)(ks:List Nat)(Q:Exit->Option Nat->St->Prop):Nat->Option Nat->St->Prop
 | 0,_,_=>False
 | k+1,i,σ=>f (Zu (M1 A f ks Q k) Q) i (adV A ks σ)
def np:Option bX->List (Nat × AV)->List (Nat × AV)
 | none,l=>l
 | some t,l=>dY t.keep l
def jJ:Option bX->List Nat
 | none=>[]
 | some t=>t.keep
def wpI (P:Program)(E:Env)(xs:List (List Value))(l:Nat)(A:List (Nat × AV)):aq->(Exit->Option Nat->St->Prop)->Option Nat->St->Prop
 | .skip,Q,i,σ=>Q .normal i σ
 | .ret,Q,i,σ=>Q .ret i σ
 | .exit id,Q,i,σ=>Q (.exit id) i σ
 | .region ops _ td,Q,i,σ=>LD P E xs l A ops (fun i' σ'=>Q .normal i' ⟨np td σ'.tmps,σ'.tab,[]⟩) i σ
 | .seq a b,Q,i,σ=>wpI P E xs l A a (Zu (wpI P E xs l A b Q) Q) i σ
 | .cond c a b,Q,i,σ=>df (ik (evO σ.tmps c)) (wpI P E xs l A a Q i σ) (wpI P E xs l A b Q i σ)
 | .block id b,Q,i,σ=>wpI P E xs l A b (O1 id Q) i σ
 | .loop td b,Q,i,σ=>∃ k,M1 A (wpI P E xs l A b) (jJ td) Q k i σ
 | .rangeF _ _ _ _ _,_,_,_=>False
def lc:Code->Bool
 | .region _ _ d=>!d
 | .seq a b | .cond _ a b=>lc a && lc b
 | .block _ b | .loop b=>lc b
 | .skip | .ret | .exit _=>true
 | _=>false
variable {P:Program}{E:Env}{xs:List (List Value)}{nt:Nat}{mvs:List Nat}{N:Nat->Prop}{B l:Nat}{J:Nat->World->Prop}{Jx:World->Prop}{w w':World}{a:Act}{σ σ':St}{i:Option Nat}{n:Nat}{g g':Gh}
def gh0:Gh:=⟨fun _=>none,fun _=>undef,fun _=>0⟩
def now (J:Nat->World->Prop)(Jx:World->Prop):Option Nat->World->Prop
 | some k,w=>J k w
 | none,w=>Jx w
def upB (N:Nat->Prop)(B:Nat):Nat->Prop:=fun b=>N b\/B<=b
def rh (A:List (Nat × AV))(N:Nat->Prop)(B:Nat)(nt:Nat)(J:Nat->World->Prop)(Jx:World->Prop)(i:Option Nat)(σ:St)(a:Act)(w:World):Prop:=
 a.tmps.size=nt/\a.defers=[]/\∃ (wb:World) (g:Gh),B<=wb.heap.size/\now J Jx i wb/\Mem ⟨wb,fun _=>False⟩ N g σ.tab w/\dw w (aB N g σ.tab) g σ.tab σ.tmps a.tmps/\dw wb (upB N B) gh0 [] A a.tmps
theorem Mem.belowB {wb:World}{T:Tab}(h:Mem ⟨wb,fun _=>False⟩ N g T w):Below wb.heap.size wb w:=
 ⟨h.below.os,h.below.tape,h.below.output,h.below.size,fun k hk=>h.below.block k hk id⟩
def Gv (P:Program)(xs:List (List Value))(l:Nat)(B:Nat)(N:Nat->Prop)(n:Nat)(J:Nat->World->Prop)(Jx:World->Prop):Prop:=
 (∀ b,N b->b < B)/\(∀ i W W',J i W->Below W.heap.size W W'->J i W')/\(∀ W W',Jx W->Below W.heap.size W W'->Jx W') /\
 ∀ i x W1,xs[i]?=some x->J i W1->YieldAt (Fw none) n P l x.toArray W1 fun e W'=>OR B N W1 W'/\((e=.returned (.bool true)/\J (i+1) W')\/(e=.returned (.bool false)/\Jx W'))
theorem xH:aB N g []=N:=by
 funext b;simp only [aB,eq_iff_iff];exact⟨fun h=>h.elim id fun ⟨n,h,_⟩=>by simp [live,an] at h,.inl⟩
theorem asl (hN:∀ b,N b->b < B)(hB:B<=w.heap.size):Mem ⟨w,fun _=>False⟩ N gh0 [] w:=
 ⟨.refl,fun n e he=>by simp [an] at he,fun n m b hn=>by simp [live,an] at hn,fun n b hn=>by simp [live,an] at hn,fun b hb=>⟨Nat.lt_of_lt_of_le (hN b hb) hB,id⟩⟩
theorem now.grow (hG:Gv P xs l B N n J Jx)(h:now J Jx i w)(hb:Below w.heap.size w w'):now J Jx i w':=by
 cases i with
 | some k=>exact hG.2.1 k w w' h hb
 | none=>exact hG.2.2.1 w w' h hb
theorem Dg {N:Nat->Prop}{T:Tab}{tmps:List (Nat × AV)}(h:dw w N g T tmps a.tmps):∀ (as:List Operand) (vs:List Value),g9 (evO tmps) as=some vs->as.map a.eval=vs
 | [],vs,hv=>by simp only [g9,zaI] at hv;subst hv;rfl
 | x::r,vs,hv=>by
  simp only [g9] at hv;split at hv
  ·rename_i v vs' h1 h2
   simp only [zaI] at hv;subst hv;rw [List.map_cons,Dg h r vs' h2,lm (gI h x) h1]
  ·cases hv
theorem v3 {o:Oper}{c:Call}{x:Operand}{as:List Operand}(h:gv P o c=some (.calld x as)):c.callee=.value x/\c.args.toList=as:=by
 unfold gv at h
 repeat' split at h
 all_goals first
  | (simp only [zaI,AOp.calld.injEq] at h;exact⟨by simp_all,h.2⟩)
  | simp at h
theorem E5 {o:Oper}{x:Operand}{as:List Operand}(h:bU P o=some (.calld x as)):∃ c,o.op=.call c/\c.callee=.value x/\c.args.toList=as:=by
 cases ho:o.op
 case call c=>
  simp only [bU,ho] at h;exact⟨c,rfl,v3 h⟩
 all_goals (exfalso;simp only [bU,ho] at h)
 case makeFunc fn first caps=>cases fn <;> simp at h <;> split at h <;> simp at h
 case slice t y lo hi mx=>cases mx <;> simp only [] at h <;> (repeat' split at h) <;> simp_all
 case build t ps=>
  repeat' split at h
  all_goals (try (simp at h;done))
  all_goals (simp only [Option.map_eq_some_iff,Option.bind_eq_some_iff] at h;obtain⟨_,_,_,_,h⟩:=h;cases h)
 all_goals (repeat' split at h)
 all_goals (try (simp at h;done))
 all_goals (try (simp only [Option.map_eq_some_iff] at h;obtain⟨_,_,h⟩:=h;cases h))
theorem aT.nilT {N':Nat->Prop}(hd:∀ d v,aX w N d v->aX w' N' d v){y:AV}{v:Value}(h:aT w N g [] y v):aT w' N' g [] y v:=
 h.mono fun _ _ h=>h.mono hd (fun _ h=>h) fun n hn=>by simp [an] at hn
theorem Nr {α:Type}(l m:List (Nat × α))(t:Nat):an (l++m) t=match an l t with | some x=>some x | none=>an m t:=by
 induction l with
 | nil=>rfl
 | cons p r ih=>
  obtain⟨k,x⟩:=p;simp only [List.cons_append,an];split
  ·rfl
  ·exact ih
theorem ZK {M N':Nat->Prop}{T:Tab}{y:AV}{v:Value}(h:aT w M g T y v):aT w' N' g' [] (if rq y then y else .val false [.unk]) v:=by
 split
 ·rename_i hf
  have cell:∀ (c:C) (v:Value),(match c with | .d (.v _) | .und | .yld _=>true | _=>false)=true->dr w M g T c v->dr w' N' g' [] c v:=by
   intro c v hc h;split at hc
   ·cases h with
    | v hp=>exact aX.v hp
   ·exact h
   ·exact h
   ·cases hc
  cases y with
  | tup l=>simp [rq] at hf
  | val b cs=>
   simp only [rq] at hf;have hall:=List.all_eq_true.1 hf;cases b with
   | true=>
    obtain⟨xs,h1,h2,h3⟩:=h;exact⟨xs,h1,h2,fun i c x hc hx=>cell c x (hall c (List.mem_of_getElem? hc)) (h3 i c x hc hx)⟩
   | false=>
    obtain⟨c,rfl,h2⟩:=h;exact⟨c,rfl,cell c v (hall c (by simp)) h2⟩
 ·exact⟨.unk,rfl,trivial⟩
theorem Pz (l:List (Nat × AV))(t:Nat):an (lp l) t=(an l t).map fun x=>if rq x then x else .val false [.unk]:=by
 induction l with
 | nil=>rfl
 | cons p r ih=>
  obtain⟨k,y⟩:=p;simp only [lp,an];split
  ·rfl
  ·exact ih
theorem dw.flat {tmps:List (Nat × AV)}{vals:Array Value}{M N':Nat->Prop}{T:Tab}(h:dw w M g T tmps vals):dw w' N' g' [] (lp tmps) vals:=by
 intro t x hx;rw [Pz] at hx;cases hq:an tmps t with
 | none=>rw [hq] at hx;cases hx
 | some y=>
  rw [hq] at hx;simp only [Option.map_some,zaI] at hx;subst hx;exact ZK (h t y hq)
theorem dw.forget {A tmps:List (Nat × AV)}{vals:Array Value}{M:Nat->Prop}{T:Tab}{wb:World}(hA:dw w' (upB N B) gh0 [] A vals)(h:dw w M g T tmps vals):dw w' N gh0 [] (A++lp tmps) vals:=fun t x hx=>by
 rw [Nr] at hx;cases hq:an A t with
 | some y=>
  rw [hq] at hx;simp only [zaI] at hx;subst hx;exact (hA t y hq).nilT fun _ _ hd=>hd.mono (Nat.le_refl _) (fun _ _ _=>rfl) fun _ _ h=>.inl h
 | none=>
  rw [hq] at hx;exact dw.flat h t x hx
theorem af7 (hE:dy P E)(hG:Gv P xs l B N n J Jx){A:List (Nat × AV)}{ops:Array Oper}{o:Oper}{ao:bp}(hc:lR P mvs nt ops o=some ao)(hds:m7 nt ops=true){j:Nat}(hj:ops[j]?=some o)
  (hR:rh A N B nt J Jx i σ a w) {rest:Option Nat->St->Prop} {Q':Exit->Act->World->Prop} {K':Act->World->Prop} (hK:∀ i' σ' a' w',rest i' σ'->rh A N B nt J Jx i' σ' a' w'->K' a' w')
  (hA:rm A ao.dst=true)
  (h:df (ew σ.tmps ao.guard)
   (match gA l (evO σ.tmps) ao.op with
    | some as=>match (generalizing:=false) i with
     | some k=>(∃ x,xs[k]?=some x/\g9 (evO σ.tmps) as=some x)/\rest (some (k+1)) (ma A σ ao.dst true)/\rest none (ma A σ ao.dst false)
     | none=>False
    | none=>rS (eff P E σ.tab (evO σ.tmps) (ao.dst.getD 9999) ao.op) fun y es=>rest i (bN σ ao.dst y es))
   (rest i (bN σ ao.dst (.val false [.und]) []))):wpOpIn (Fw none) (n+1) P ops Q' j K' a w:=by
 obtain⟨hsz,hdf,wb,g,hB,hnow,hM,hS,hArgs⟩:=hR;obtain⟨h1,h2,h3,h4,h5⟩:=kP hc;have hput:∀ (tm:List (Nat × AV)) (tb:Tab) (sv:List (Nat × AV)) (y:AV) (v:Value) (wb' w':World) (g':Gh) (i':Option Nat),aT w' (aB N g' tb) g' tb y v->dw w' (aB N g' tb) g' tb tm a.tmps->Mem ⟨wb',fun _=>False⟩ N g' tb w'->B<=wb'.heap.size ->
   now J Jx i' wb'->dw wb' (upB N B) gh0 [] A a.tmps->rh A N B nt J Jx i' ⟨xm tm ao.dst y,tb,sv⟩ (a.put o.dst v) w':=by
  intro tm tb sv y v wb' w' g' i' hy hs hm hb hn hAr;rw [h4] at hA ⊢;cases hd:o.dst with
  | none=>exact⟨hsz,hdf,wb',g',hb,hn,hm,hs,hAr⟩
  | some d=>
   rw [hd] at h3 hA;simp only [B5,decide_eq_true_eq] at h3;refine⟨by simpa [Act.put] using hsz,hdf,wb',g',hb,hn,hm,hs.put (by omega) hy,fun t x hx=>?_⟩;have hne:d ≠ t:=fun e=>by subst e;simp [rm,hx] at hA
   simp only [Act.put];rw [Array.getD_eq_getD_getElem?,Array.getElem?_setIfInBounds_ne hne,<- Array.getD_eq_getD_getElem?];exact hAr t x hx
 unfold wpOpIn;simp only [hj];rcases dU h with ⟨hw,h⟩ | ⟨hw,h⟩
 ·rw [if_pos (qT hS hsz (kq hds) h2 hw rfl)]
  split at h
  ·rename_i as hy
   cases i with
   | none=>exact h.elim
   | some k=>
    obtain⟨⟨x,hx,hvals⟩,ht,hf⟩:=h;have hcd:∃ y,ao.op=.calld y as/\de (evO σ.tmps y)=some (.yld l):=by
     unfold gA at hy;split at hy
     ·rename_i y as' hop
      split at hy
      ·rename_i l' hone
       split at hy
       ·rename_i hl
        simp only [zaI] at hy;subst hy;subst hl;exact⟨y,hop,hone⟩
       ·cases hy
      ·cases hy
     ·cases hy
    obtain⟨y,hop,hone⟩:=hcd;rw [hop] at h1;obtain⟨c,ho,hcal,hargs⟩:=E5 (h1.resolve_left (by simp) |>.resolve_right (by rintro (⟨_,_,_,_,_,_,h | h⟩ | ⟨_,_,h⟩) <;> cases h));have hyv:a.eval y=.func (.yield l) #[] #[]:=bf (gI (a:=a) hS y) hone;have hav:c.args.map a.eval=x.toArray:=by
     apply Array.ext';rw [Array.toList_map,hargs];simpa using Dg (a:=a) hS as x hvals
    have hbel:=hM.belowB;have hnoww:J k w:=now.grow (i:=some k) hG hnow hbel;obtain⟨fn,tmps,ca,cb,hrun,hround⟩:=hG.2.2.2 k x w hx hnoww;have hrun':(execOp a.eval o).run P w=.ok (.round l fn tmps ca cb) w:=by
     simp only [execOp,ho,resolve,hcal,hyv];simp [Deferred.ofValue,invoke,hav,hrun]
    refine⟨fun _ _=>trivial,?_⟩;rw [Oper.semAt_eq _ _ _ (fun c' hc'=>by rw [ho] at hc';cases hc'),hrun'];refine⟨fun h=>by simp [Fw,Fence.wide] at h,?_⟩;refine RoundIn.mono hround ?_;have hArgsW:dw w (upB N B) gh0 [] A a.tmps:=fun t x hx=>(hArgs t x hx).nilT fun _ _ hd=>hd.mono hbel.size (fun b hb _=>hbel.block b hb) fun _ _ h=>h;have hargs':∀ W',OR B N w W'->dw W' (upB N B) gh0 [] A a.tmps:=fun W' hk t x hx=>(hArgsW t x hx).nilT fun _ _ hd=>hd.mono hk.1 (fun b hb hN=>hk.2 b (Nat.lt_of_not_le fun h=>hN (.inr h)) fun h=>hN (.inl h)) fun _ _ h=>h;have hback:∀ W',OR B N w W'->dw W' (aB N gh0 []) gh0 [] (A++lp σ.tmps) a.tmps:=fun W' hk=>by
     rw [xH];exact dw.forget (wb:=wb) (hargs' W' hk) hS
    have hBW:∀ W',OR B N w W'->B<=W'.heap.size:=fun W' hk=>Nat.le_trans (Nat.le_trans hB hbel.size) hk.1
    rintro e W' ⟨hkept,⟨rfl,hJ⟩ | ⟨rfl,hJ⟩⟩
    ·exact hK _ _ _ _ ht (hput _ [] [] _ _ W' W' gh0 _ ⟨_,rfl,.v rfl⟩ (hback W' hkept) (asl hG.1 (hBW W' hkept)) (hBW W' hkept) hJ (hargs' W' hkept))
    ·exact hK _ _ _ _ hf (hput _ [] [] _ _ W' W' gh0 _ ⟨_,rfl,.v rfl⟩ (hback W' hkept) (asl hG.1 (hBW W' hkept)) (hBW W' hkept) hJ (hargs' W' hkept))
  ·rename_i hy
   obtain⟨y,es,heff,hrest⟩:=g8 h;refine WG (r:=none) (n:=n+1) hE hM (fun x=>gI hS x) h1 heff K' Q' ?_
   rintro v w' ⟨g',hM',hKp,hv⟩
   exact hK i (bN σ ao.dst y es) _ _ hrest (hput σ.tmps (aputs σ.tab es) σ.sv y v wb w' g' i hv (fun t x hx=>hKp.a (hS t x hx)) hM' hB hnow hArgs)
 ·rw [if_neg (by rw [qT hS hsz (kq hds) h2 hw rfl];simp)]
  exact⟨fun _ _=>trivial,hK i (bN σ ao.dst (.val false [.und]) []) _ _ h (hput σ.tmps σ.tab σ.sv (.val false [.und]) undef wb w g i ⟨_,rfl,rfl⟩ hS hM hB hnow hArgs)⟩
theorem Qh (hE:dy P E)(hG:Gv P xs l B N n J Jx){A:List (Nat × AV)}{ops:Array Oper}(hds:m7 nt ops=true){K:Option Nat->St->Prop}{Q':Exit->Act->World->Prop}
  (hQ:∀ i' σ' a' w',K i' σ'->rh A N B nt J Jx i' σ' a' w'->Q' .normal a' w'):∀ (os:List Oper) (as:List bp) (k:Nat) (i:Option Nat) (σ:St) (a:Act) (w:World),cN P mvs nt ops os=some as->(∀ j,os[j]?=ops[k+j]?) ->
  rh A N B nt J Jx i σ a w->LD P E xs l A as K i σ->wpOpsIn (Fw none) (n+1) P ops Q' (List.range' k os.length) a w
 | [],as,k,i,σ,a,w,hc,hl,hR,h=>by
  simp only [cN,zaI] at hc;subst hc;exact hQ i σ a w h hR
 | o::os,as,k,i,σ,a,w,hc,hl,hR,h=>by
  simp only [cN] at hc;split at hc
  ·rename_i ao as' h1 h2
   simp only [zaI] at hc;subst hc;have h0:ops[k]?=some o:=by simpa using (hl 0).symm
   rw [List.length_cons,List.range'_succ,wpOpsIn_cons];obtain⟨hA,h⟩:=h;exact af7 hE hG h1 hds h0 hR (rest:=LD P E xs l A as' K) (fun i' σ' a' w' hr hR'=>Qh hE hG hds hQ os as' (k+1) i' σ' a' w' h2 (fun j=>by have:=hl (j+1);simpa [Nat.add_assoc,Nat.add_comm 1 j] using this) hR' hr) hA h
  ·cases hc
theorem rh.keep {A:List (Nat × AV)}{τ:St}(h:rh A N B nt J Jx i σ a w)(ht:τ.tab=σ.tab)(hs:∀ t x,an τ.tmps t=some x->an σ.tmps t=some x):rh A N B nt J Jx i τ a w:=by
 obtain⟨h1,h2,wb,g,h3,h4,h5,h6,h7⟩:=h;refine⟨h1,h2,wb,g,h3,h4,?_,?_,h7⟩
 ·rw [ht];exact h5
 ·rw [ht];exact fun t x hx=>h6 t x (hs t x hx)
theorem rh.head {A:List (Nat × AV)}(hG:Gv P xs l B N n J Jx)(h:rh A N B nt J Jx i σ a w)(ks:List Nat):rh A N B nt J Jx i (adV A ks σ) a w:=by
 unfold adV;split
 ·rename_i ht
  exact h.keep (by rw [ht]) fun t x hx=>gl _ _ _ _ hx
 ·obtain⟨h1,h2,wb,g,h3,h4,h5,h6,h7⟩:=h
  have hbel:=h5.belowB;have hArgsW:dw w (upB N B) gh0 [] A a.tmps:=fun t x hx=>(h7 t x hx).nilT fun _ _ hd=>hd.mono hbel.size (fun b hb _=>hbel.block b hb) fun _ _ h=>h;have hB:B<=w.heap.size:=Nat.le_trans h3 hbel.size;refine⟨h1,h2,w,gh0,hB,now.grow hG h4 hbel,asl hG.1 hB,?_,hArgsW⟩;rw [xH];exact dw.forget (wb:=wb) hArgsW (tmps:=dY ks σ.tmps) (fun t x hx=>h6 t x (gl _ _ _ _ hx))
theorem awH (hE:dy P E)(hG:Gv P xs l B N n J Jx){A:List (Nat × AV)}{tr tl:List (Nat × bX)}:∀ (c:Code) (ac:aq),lc c=true->mk P nt tr tl true c=some ac ->
  ∀ (Q:Exit->Option Nat->St->Prop) (Q':Exit->Act->World->Prop) (i:Option Nat) (σ:St) (a:Act) (w:World),(∀ e i σ a w,Q e i σ->rh A N B nt J Jx i σ a w->Q' e a w)->rh A N B nt J Jx i σ a w ->
  wpI P E xs l A ac Q i σ->c.wpIn (Fw none) (n+1) P Q' a w:=by
 intro c
 induction c with
 | skip=>intro ac _ h Q Q' i σ a w hQ hR hw;simp only [mk,zaI] at h;subst h;exact wpIn_skip (hQ _ _ _ _ _ hw hR)
 | ret=>intro ac _ h Q Q' i σ a w hQ hR hw;simp only [mk,zaI] at h;subst h;exact wpIn_ret (hQ _ _ _ _ _ hw hR)
 | exit id=>intro ac _ h Q Q' i σ a w hQ hR hw;simp only [mk,zaI] at h;subst h;exact wpIn_exit (hQ _ _ _ _ _ hw hR)
 | region id ops d=>
  intro ac hnd h Q Q' i σ a w hQ hR hw;have hd:d=false:=by simpa [lc] using hnd
  subst hd;simp only [mk] at h;split at h
  ·rename_i as hc
   split at h
   ·rename_i hds
    simp only [Bool.false_eq_true,if_false,zaI] at h;subst h;obtain⟨σ,hw,hpre⟩:∃ σ1,wpI P E xs l A (.region as [] (an tr id)) Q i σ1/\∀ a w,rh A N B nt J Jx i σ a w->rh A N B nt J Jx i σ1 a w:=by
     unfold agd at hw;split at hw
     ·exact⟨σ,hw,fun _ _ h=>h⟩
     ·rename_i td _
      exact⟨_,hw,fun _ _ hR'=>hR'.keep rfl fun t x hx=>by
       unfold np at hx;exact gl _ _ _ _ hx⟩
    have hR:=hpre _ _ hR;refine wpIn_region ?_;have:=Qh hE hG hds (Q':=Q') (K:=fun i' σ'=>Q .normal i' ⟨np (an tr id) σ'.tmps,σ'.tab,[]⟩) (fun i' σ' a' w' hk hR'=>hQ _ _ _ _ _ hk (hR'.keep rfl fun t x hx=>by
     unfold np at hx;split at hx
     ·exact hx
     ·exact gl _ _ _ _ hx)) ops.toList as 0 i σ a w hc (by simp) hR hw
    rw [List.range_eq_range'];simpa using this
   ·cases h
  ·cases h
 | seq x y ihx ihy=>
  intro ac hnd h Q Q' i σ a w hQ hR hw;simp only [lc,Bool.and_eq_true] at hnd;simp only [mk] at h;split at h
  ·rename_i ax ay hx hy
   simp only [zaI] at h;subst h;refine wpIn_seq (ihx ax hnd.1 hx _ _ i σ a w (fun e i1 σ1 a1 w1 h1 hR1=>?_) hR hw);cases e with
   | normal=>exact ihy ay hnd.2 hy Q Q' i1 σ1 a1 w1 hQ hR1 h1
   | exit id=>exact hQ _ _ _ _ _ h1 hR1
   | ret=>exact hQ _ _ _ _ _ h1 hR1
   | _=>exact h1.elim
  ·cases h
 | cond c x y ihx ihy=>
  intro ac hnd h Q Q' i σ a w hQ hR hw;simp only [lc,Bool.and_eq_true] at hnd;simp only [mk] at h;split at h
  ·rename_i ax ay hx hy
   simp only [zaI] at h;subst h;obtain⟨_,_,_,_,_,_,_,hS,_⟩:=id hR;rcases dU hw with ⟨hb,hw⟩ | ⟨hb,hw⟩
   ·exact wpIn_cond_true (lH (gI hS c) hb) (ihx ax hnd.1 hx Q Q' i σ a w hQ hR hw)
   ·exact wpIn_cond_false (lH (gI hS c) hb) (ihy ay hnd.2 hy Q Q' i σ a w hQ hR hw)
  ·cases h
 | block id b ih=>
  intro ac hnd h Q Q' i σ a w hQ hR hw;simp only [mk,Option.map_eq_some_iff] at h;obtain⟨ab,hb,rfl⟩:=h;refine wpIn_block (ih ab hnd hb _ _ i σ a w (fun e i1 σ1 a1 w1 h1 hR1=>?_) hR hw);cases e with
  | normal=>exact hQ _ _ _ _ _ h1 hR1
  | exit id'=>
   simp only [O1] at h1;simp only [Exit.inBlock];split at h1
   ·rename_i he;rw [if_pos he];exact hQ _ _ _ _ _ h1 hR1
   ·rename_i he;rw [if_neg he];exact hQ _ _ _ _ _ h1 hR1
  | ret=>exact hQ _ _ _ _ _ h1 hR1
  | _=>exact h1.elim
 | loop b ih=>
  intro ac hnd h Q Q' i σ a w hQ hR hw;simp only [mk,Option.map_eq_some_iff] at h;obtain⟨ab,hb,rfl⟩:=h;obtain⟨k,hk⟩:=hw;refine wpIn_loop_rounds k ?_;have key:∀ k i σ a w,rh A N B nt J Jx i σ a w->M1 A (wpI P E xs l A ab) (jJ (an tl (mW b))) Q k i σ->Code.roundsIn (Fw none) (n+1) P b Q' k a w:=by
   intro k
   induction k with
   | zero=>intro i σ a w _ h;exact h.elim
   | succ k ihk=>
    intro i σ a w hR h;rw [roundsIn_succ];refine ih ab hnd hb _ _ i _ a w (fun e i2 σ2 a2 w2 h3 hR2=>?_) (hR.head hG _) h;cases e with
    | normal=>exact ihk i2 σ2 a2 w2 hR2 h3
    | exit id=>exact hQ _ _ _ _ _ h3 hR2
    | ret=>exact hQ _ _ _ _ _ h3 hR2
    | _=>exact h3.elim
  exact key k i σ a w hR hk
 | _=>intro ac hnd;simp [lc] at hnd
def uU (xs:List (List Value))(e:Exit)(i:Option Nat)(_:St):Prop:=(e=.ret\/e=.normal)/\(i=some xs.length\/i=none)
def Ll:Nat->List DC->List (Nat × AV)
 | _,[]=>[]
 | k,d::r=>(k,.val false [.d d])::Ll (k+1) r
theorem HL:∀ (ds:List DC) (k t:Nat) (x:AV),an (Ll k ds) t=some x->∃ i d,t=k+i/\ds[i]?=some d/\x=.val false [.d d]
 | [],k,t,x,h=>by simp [Ll,an] at h
 | d::r,k,t,x,h=>by
  simp only [Ll,an] at h;split at h
  ·rename_i hk
   simp only [zaI] at h;exact⟨0,d,by omega,rfl,h.symm⟩
  ·obtain⟨i,d',h1,h2,h3⟩:=HL r (k+1) t x h
   exact⟨i+1,d',by omega,by simpa using h2,h3⟩
theorem ZN (hE:dy P E){f:FuncId}{fn:Func}{c:Code}{ac:aq}{tr tl:List (Nat × bX)}{caps:List DC}(hf:P.funcs[f]?=some fn)(hb:fn.body=some c)(hr:fn.results=#[])
  (hnd:lc c=true) (hc:mk P fn.ntmps tr tl true c=some ac) (hn:1+caps.length<=fn.ntmps) (hplain:∀ x ∈ xs,∀ v ∈ x,JW v=true)
  (h:∀ l,wpI P E xs l (Ll 1 caps) ac (uU xs) (some 0) ⟨(0,.val false [.yld l])::Ll 1 caps,[],[]⟩):ow P f caps xs:=by
 refine⟨hplain,fun w N lb l J Jx n hN hlen hcaps hJ hJx hY h0=>?_⟩;refine callsIn_wide (n:=n+1).1 (callsIn_of_wp hf hb trivial ?_);have hG:Gv P xs l w.heap.size N n J Jx:=⟨hN,hJ,hJx,hY⟩
 have hget:∀ (i:Nat) (d:DC),caps[i]?=some d->∃ v,lb[i]?=some v/\(#[Value.func (.yield l) #[] #[]]++lb++Array.replicate (fn.ntmps - (#[Value.func (.yield l) #[] #[]]++lb).size) undef).getD (1+i) undef=v:=by
  intro i d hd;have hi:i < lb.size:=by rw [<- hlen];exact (List.getElem?_eq_some_iff.1 hd).1
  refine⟨lb[i],by simp [hi],?_⟩;rw [Array.getD_eq_getD_getElem?,Array.getElem?_append_left (by simp;omega),Array.getElem?_append_right (by simp)];simp [hi]
 have hA:∀ (M:Nat->Prop),(∀ b,b < w.heap.size->M b->N b)->dw w M gh0 [] (Ll 1 caps) (#[Value.func (.yield l) #[] #[]]++lb++Array.replicate (fn.ntmps - (#[Value.func (.yield l) #[] #[]]++lb).size) undef):=by
  intro M hM t x hx;obtain⟨i,d,rfl,hd,rfl⟩:=HL caps 1 t x hx;obtain⟨v,hv,he⟩:=hget i d hd;rw [he];exact⟨_,rfl,(hcaps i d v hd hv).mono (Nat.le_refl _) (fun _ _ _=>rfl) hM⟩
 refine awH hE hG c ac hnd hc (uU xs) _ (some 0) _ _ w (fun e i σ a' w' hd hR=>?_) ⟨by simp;omega,rfl,w,gh0,Nat.le_refl _,h0,asl hN (Nat.le_refl _),fun t x hx=>?_,hA (upB N w.heap.size) fun b hb hN=>hN.elim id fun h=>by omega⟩ (h l)
 ·obtain⟨he,hi⟩:=hd
  have key:a'.defers=[]/\∃ v,(results fn a'.tmps).run P w'=.ok v w'/\(∃ v',Ending.returned v=.returned v')/\(J xs.length w'\/Jx w'):=by
   obtain⟨_,hdf,wb,g',_,hnow0,hM',_,_⟩:=hR;refine⟨hdf,_,results_none hr _ _ _,⟨_,rfl⟩,?_⟩;have hnow:=hnow0.grow hG hM'.belowB;rcases hi with rfl | rfl
   ·exact .inl hnow
   ·exact .inr hnow
  rcases he with rfl | rfl <;> exact key
 ·rw [xH]
  simp only [an] at hx;split at hx
  ·rename_i h0
   subst h0;simp only [zaI] at hx;subst hx;refine⟨_,rfl,?_⟩;rw [Array.getD_eq_getD_getElem?,Array.getElem?_append_left (by simp;omega),Array.getElem?_append_left (by simp)];rfl
  ·exact hA N (fun _ _ h=>h) t x hx
abbrev oB (op : Op) (t : TypeId) : Oper := { dst := none, op := op, type := t, pos := "", after := #[], guard := none }
def Ib (P:Program)(E:Env)(ops:List bp)(prs:List (Nat × Nat))(σ:St):Option St:=
 match prs with
 | []=>rR P E ops σ
 | _::_=>match iG P E ops σ with
  | some (os,σ')=>if prs.all (sc os) then some σ' else none
  | none=>none
def uT (fa fb:St->Option (Exit × St))(ps:List Nat)(td:Option bX):List (List Value)->St->Option (Exit × St)
 | [],σ=>some (.normal,σ)
 | x::xs,σ=>if x.length=ps.length then match fa ⟨Bm ps x σ.tmps,σ.tab,σ.tmps⟩ with
   | some (.normal,σ1)=>match fb σ1 with
    | some (.normal,σ2)=>match iJ td ⟨σ2.sv,σ2.tab,[]⟩ with
     | some σ3=>uT fa fb ps td xs σ3
     | none=>none
    | some (.ret,σ2)=>some (.ret,⟨σ2.sv,σ2.tab,[]⟩)
    | some (.exit id,σ2)=>some (.exit id,⟨σ2.sv,σ2.tab,[]⟩)
    | _=>none
   | _=>none
  else none
def kY (P:Program)(E:Env):Nat->aq->St->Option (Exit × St)
 | 0,_,_=>none
 | n+1,c,σ=>match c with
  | .skip=>some (.normal,σ)
  | .ret=>some (.ret,σ)
  | .exit id=>some (.exit id,σ)
  | .region ops prs td=>match Ib P E ops prs σ with
   | some σ1=>match iJ td σ1 with
    | some σ2=>some (.normal,σ2)
    | none=>none
   | none=>none
  | .seq a b=>match kY P E n a σ with
   | some (.normal,σ1)=>kY P E n b σ1
   | some (.ret,σ1)=>some (.ret,σ1)
   | some (.exit id,σ1)=>some (.exit id,σ1)
   | _=>none
  | .cond c a b=>match ik (evO σ.tmps c) with
   | some true=>kY P E n a σ
   | some false=>kY P E n b σ
   | none=>none
  | .block id b=>match kY P E n b σ with
   | some (.normal,σ1)=>some (.normal,σ1)
   | some (.ret,σ1)=>some (.ret,σ1)
   | some (.exit id',σ1)=>if id'=id then some (.normal,σ1) else some (.exit id',σ1)
   | _=>none
  | .loop td b=>match iJ td σ with
   | some σ0=>match kY P E n b σ0 with
    | some (.normal,σ1)=>kY P E n (.loop td b) σ1
    | some (.ret,σ1)=>some (.ret,σ1)
    | some (.exit id,σ1)=>some (.exit id,σ1)
    | _=>none
   | none=>none
  | .rangeF g ps td a b=>match GZ E (evO σ.tmps g) σ.sv with
   | some xs=>uT (kY P E n a) (kY P E n b) ps td xs σ
   | none=>none
variable {P:Program}{E:Env}{Q:Exit->St->Prop}
theorem fF:∀ (c:aq) {Q Q':Exit->St->Prop} {σ:St},(∀ e σ,Q e σ->Q' e σ)->wpA P E c Q σ->wpA P E c Q' σ:=by
 have run:∀ (l:List bp) {K K':St->Prop} {σ:St},(∀ σ,K σ->K' σ)->nG P E l K σ->nG P E l K' σ:=by
  intro l
  induction l with
  | nil=>intro K K' σ h hk;exact h σ hk
  | cons ao l ih=>
   intro K K' σ h hk;rcases dU hk with ⟨h1,h2⟩ | ⟨h1,h2⟩
   ·obtain⟨y,es,h3,h4⟩:=g8 h2
    simp only [nG,h1,h3,df,rS];exact⟨fun _=>ih h h4,nofun⟩
   ·simp only [nG,h1,df]
    exact⟨nofun,fun _=>ih h h2⟩
 have outs:∀ (l:List bp) {K K':List dv->St->Prop} {acc:List dv} {σ:St},(∀ os σ,K os σ->K' os σ)->gU P E l K acc σ->gU P E l K' acc σ:=by
  intro l
  induction l with
  | nil=>intro K K' acc σ h hk;exact h _ σ hk
  | cons ao l ih=>
   intro K K' acc σ h hk;rcases dU hk with ⟨h1,h2⟩ | ⟨h1,h2⟩
   ·obtain⟨y,es,h3,h4⟩:=g8 h2
    simp only [gU,h1,h3,df,rS];exact⟨fun _=>ih h h4,nofun⟩
   ·simp only [gU,h1,df]
    exact⟨nofun,fun _=>ih h h2⟩
 have some_:∀ {o:Option St} {K K':St->Prop},(∀ σ,K σ->K' σ)->j7 o K->j7 o K':=by
  intro o K K' h hk;obtain⟨σ,h1,h2⟩:=jB hk;subst h1;exact h σ h2
 have thn:∀ {K K':St->Prop} {Q Q':Exit->St->Prop} {e:Exit} {σ:St},(∀ σ,K σ->K' σ)->(∀ e σ,Q e σ->Q' e σ)->GF K Q e σ->GF K' Q' e σ:=by
  intro K K' Q Q' e σ h1 h2 h;cases e <;> first | exact h1 _ h | exact h2 _ _ h | exact h
 intro c
 induction c with
 | skip=>intro Q Q' σ h hw;exact h _ _ hw
 | ret=>intro Q Q' σ h hw;exact h _ _ hw
 | exit id=>intro Q Q' σ h hw;exact h _ _ hw
 | region ops prs td=>
  intro Q Q' σ h hw;simp only [wpA] at hw ⊢;unfold kF at hw ⊢;cases prs with
  | nil=>exact run ops (fun σ hs=>some_ (fun σ hs=>h _ σ hs) hs) hw
  | cons p r=>exact outs ops (fun os σ hs=>⟨hs.1,some_ (fun σ hs=>h _ σ hs) hs.2⟩) hw
 | seq a b iha ihb=>intro Q Q' σ h hw;exact iha (fun e σ hs=>thn (fun σ hs=>ihb h hs) h hs) hw
 | cond c a b iha ihb=>
  intro Q Q' σ h hw;rcases dU hw with ⟨h1,h2⟩ | ⟨h1,h2⟩
  ·simp only [wpA,h1,df];exact⟨fun _=>iha h h2,nofun⟩
  ·simp only [wpA,h1,df];exact⟨nofun,fun _=>ihb h h2⟩
 | block id b ih=>
  intro Q Q' σ h hw;refine ih (fun e σ hs=>?_) hw;cases e with
  | normal=>exact h _ _ hs
  | ret=>exact h _ _ hs
  | exit id'=>
   simp only [xT] at hs ⊢;split at hs
   ·rename_i he;rw [if_pos he];exact h _ _ hs
   ·rename_i he;rw [if_neg he];exact h _ _ hs
  | _=>exact hs
 | loop td b ih=>
  intro Q Q' σ h hw;obtain⟨k,hk⟩:=hw;refine⟨k,?_⟩;have key:∀ k σ,rz (wpA P E b) td Q k σ->rz (wpA P E b) td Q' k σ:=by
   intro k
   induction k with
   | zero=>intro σ h;exact h
   | succ k ihk=>intro σ hl;exact some_ (fun σ hs=>ih (fun e σ hs=>thn (fun σ hs=>ihk σ hs) h hs) hs) hl
  exact key k σ hk
 | rangeF g ps td a b iha ihb=>
  intro Q Q' σ h hw;simp only [wpA] at hw ⊢;unfold VC at hw ⊢;split at hw
  ·rename_i xs hxs
   have key:∀ xs σ,iR (wpA P E a) (wpA P E b) ps td Q xs σ->iR (wpA P E a) (wpA P E b) ps td Q' xs σ:=by
    intro xs
    induction xs with
    | nil=>intro σ hs;exact h _ _ hs
    | cons x xs ihx=>
     intro σ hs;refine⟨hs.1,iha (fun e σ hs=>thn (fun σ hs=>ihb (fun e σ hs=>?_) hs) (fun _ _ h=>h) hs) hs.2⟩;cases e with
     | normal=>exact some_ (fun σ hs=>ihx σ hs) hs
     | ret=>exact h _ _ hs
     | exit id=>exact h _ _ hs
     | _=>exact hs
   exact key xs σ hw
  ·exact hw.elim
theorem Kk {K:St->Prop}:∀ (l:List bp) (σ σ':St),rR P E l σ=some σ'->K σ'->nG P E l K σ
 | [],σ,σ',h,hk=>by simp only [rR,zaI] at h;subst h;exact hk
 | ao::l,σ,σ',h,hk=>by
  simp only [rR,vU,na] at h;split at h
  ·rename_i σ1 h1
   split at h1
   ·rename_i y es h2
    simp only [zaI] at h1;subst h1;split at h2
    ·rename_i h3;simp only [nG,h3,h2,df,rS];exact⟨fun _=>Kk l _ _ h hk,nofun⟩
    ·rename_i h3
     simp only [zaI,zbI] at h2;obtain⟨rfl,rfl⟩:=h2;simp only [nG,h3,df];exact⟨nofun,fun _=>Kk l _ _ h hk⟩
    ·cases h2
   ·cases h1
  ·cases h
theorem DA {K:List dv->St->Prop}:∀ (l:List bp) (acc os:List dv) (σ σ':St),iG P E l σ=some (os,σ')->K (acc.reverse++os) σ'->gU P E l K acc σ
 | [],acc,os,σ,σ',h,hk=>by simp only [iG,zaI,zbI] at h;obtain⟨rfl,rfl⟩:=h;simpa [gU] using hk
 | ao::l,acc,os,σ,σ',h,hk=>by
  simp only [iG,na] at h;split at h
  ·rename_i y es h2
   split at h
   ·rename_i os' σ1 h1
    simp only [zaI,zbI] at h;obtain⟨rfl,rfl⟩:=h;split at h2
    ·rename_i h3;simp only [gU,h3,h2,df,rS];exact⟨fun _=>DA l _ os' _ _ h1 (by simpa using hk),nofun⟩
    ·rename_i h3
     simp only [zaI,zbI] at h2;obtain⟨rfl,rfl⟩:=h2;simp only [gU,h3,df];exact⟨nofun,fun _=>DA l _ os' _ _ h1 (by simpa using hk)⟩
    ·cases h2
   ·cases h
  ·cases h
theorem OO {K:St->Prop}{ops:List bp}{prs:List (Nat × Nat)}{σ σ':St}(h:Ib P E ops prs σ=some σ')(hk:K σ'):kF P E ops prs K σ:=by
 unfold Ib at h;unfold kF;split at h
 ·exact Kk _ _ _ h hk
 ·split at h
  ·rename_i os σ1 h1
   split at h
   ·rename_i h2
    simp only [zaI] at h;subst h;exact DA _ [] os _ _ h1 ⟨by simpa using h2,hk⟩
   ·cases h
  ·cases h
theorem DJ {fa fb:St->Option (Exit × St)}{a b:aq}{ps:List Nat}{td:Option bX}(ha:∀ σ e σ',fa σ=some (e,σ')->wpA P E a (fun e1 σ1=>e1=e/\σ1=σ') σ)
  (hb:∀ σ e σ',fb σ=some (e,σ')->wpA P E b (fun e1 σ1=>e1=e/\σ1=σ') σ):∀ (xs:List (List Value)) (σ:St) (e:Exit) (σ':St),uT fa fb ps td xs σ=some (e,σ')->Q e σ'->iR (wpA P E a) (wpA P E b) ps td Q xs σ
 | [],σ,e,σ',h,hq=>by
  simp only [uT,zaI,zbI] at h;obtain⟨rfl,rfl⟩:=h;exact hq
 | x::xs,σ,e,σ',h,hq=>by
  simp only [uT] at h;split at h
  ·rename_i hlen
   split at h
   ·rename_i σ1 h1
    refine⟨hlen,fF a (fun e2 s2 hs=>?_) (ha _ _ _ h1)⟩;obtain⟨rfl,rfl⟩:=hs;split at h
    ·rename_i σ2 h2
     split at h
     ·rename_i σ3 h3
      refine fF b (fun e2 s2 hs=>?_) (hb _ _ _ h2);obtain⟨rfl,rfl⟩:=hs;simp only [Ip,h3,j7];exact DJ ha hb xs σ3 e σ' h hq
     ·cases h
    ·rename_i σ2 h2
     simp only [zaI,zbI] at h;obtain⟨rfl,rfl⟩:=h;refine fF b (fun e2 s2 hs=>?_) (hb _ _ _ h2);obtain⟨rfl,rfl⟩:=hs;exact hq
    ·rename_i id σ2 h2
     simp only [zaI,zbI] at h;obtain⟨rfl,rfl⟩:=h;refine fF b (fun e2 s2 hs=>?_) (hb _ _ _ h2);obtain⟨rfl,rfl⟩:=hs;exact hq
    ·cases h
   ·cases h
  ·cases h
theorem XS:∀ (n:Nat) (c:aq) (Q:Exit->St->Prop) (σ:St) (e:Exit) (σ':St),kY P E n c σ=some (e,σ')->Q e σ'->wpA P E c Q σ:=by
 intro n
 induction n with
 | zero=>intro c Q σ e σ' h;simp [kY] at h
 | succ n ih=>
  intro c Q σ e σ' h hq;cases c with
  | skip=>simp only [kY,zaI,zbI] at h;obtain⟨rfl,rfl⟩:=h;exact hq
  | ret=>simp only [kY,zaI,zbI] at h;obtain⟨rfl,rfl⟩:=h;exact hq
  | exit id=>simp only [kY,zaI,zbI] at h;obtain⟨rfl,rfl⟩:=h;exact hq
  | region ops prs td=>
   simp only [kY] at h;split at h
   ·rename_i σ1 h1
    split at h
    ·rename_i σ2 h2
     simp only [zaI,zbI] at h;obtain⟨rfl,rfl⟩:=h;exact OO h1 (by simp only [h2,j7];exact hq)
    ·cases h
   ·cases h
  | seq a b=>
   simp only [kY] at h;split at h
   ·rename_i σ1 h1;exact ih a _ σ _ σ1 h1 (ih b Q σ1 e σ' h hq)
   ·rename_i σ1 h1;simp only [zaI,zbI] at h;obtain⟨rfl,rfl⟩:=h;exact ih a _ σ _ σ1 h1 hq
   ·rename_i id σ1 h1;simp only [zaI,zbI] at h;obtain⟨rfl,rfl⟩:=h;exact ih a _ σ _ σ1 h1 hq
   ·cases h
  | cond c a b=>
   simp only [kY] at h;split at h
   ·rename_i hb;simp only [wpA,hb,df];exact⟨fun _=>ih a Q σ e σ' h hq,nofun⟩
   ·rename_i hb;simp only [wpA,hb,df];exact⟨nofun,fun _=>ih b Q σ e σ' h hq⟩
   ·cases h
  | block id b=>
   simp only [kY] at h;split at h
   ·rename_i σ1 h1;simp only [zaI,zbI] at h;obtain⟨rfl,rfl⟩:=h;exact ih b _ σ _ σ1 h1 hq
   ·rename_i σ1 h1;simp only [zaI,zbI] at h;obtain⟨rfl,rfl⟩:=h;exact ih b _ σ _ σ1 h1 hq
   ·rename_i id' σ1 h1
    split at h
    ·rename_i hid
     simp only [zaI,zbI] at h;obtain⟨rfl,rfl⟩:=h;exact ih b _ σ _ σ1 h1 (by simp only [xT,hid,if_true];exact hq)
    ·rename_i hid
     simp only [zaI,zbI] at h;obtain⟨rfl,rfl⟩:=h;exact ih b _ σ _ σ1 h1 (by simp only [xT,hid,if_false];exact hq)
   ·cases h
  | loop td b=>
   simp only [kY] at h;split at h
   ·rename_i σ0 h0
    split at h
    ·rename_i σ1 h1
     obtain⟨k,hk⟩:=ih (.loop td b) Q σ1 e σ' h hq;exact⟨k+1,by simp only [rz,h0,j7];exact ih b _ σ0 _ σ1 h1 hk⟩
    ·rename_i σ1 h1
     simp only [zaI,zbI] at h;obtain⟨rfl,rfl⟩:=h;exact⟨1,by simp only [rz,h0,j7];exact ih b _ σ0 _ σ1 h1 hq⟩
    ·rename_i id σ1 h1
     simp only [zaI,zbI] at h;obtain⟨rfl,rfl⟩:=h;exact⟨1,by simp only [rz,h0,j7];exact ih b _ σ0 _ σ1 h1 hq⟩
    ·cases h
   ·cases h
  | rangeF g ps td a b=>
   simp only [kY] at h;split at h
   ·rename_i xs hxs
    simp only [wpA,hxs,VC];exact DJ (fun σ e σ' h=>ih a _ σ e σ' h ⟨rfl,rfl⟩) (fun σ e σ' h=>ih b _ σ e σ' h ⟨rfl,rfl⟩) xs σ e σ' h hq
   ·cases h
structure FnT where
 nt:Nat
 tr:List (Nat × bX)
 tl:List (Nat × bX)
 ac:aq
 rs:List dZ
def aes (P:Program)(E:Env)(aE:Nat)(t:FnT)(ds:List DV):Option (List RV):=
 if ds.length<=t.nt/\akU ds t.ac=true then match kY P E aE t.ac (DN ds) with
  | some (.ret,σ)=>C6 (t.rs++gJ 0 ds) σ
  | some (.normal,σ)=>C6 (t.rs++gJ 0 ds) σ
  | _=>none
 else none
def EF (P:Program)(aE:Nat)(tbl:List (Nat × FnT))(sq:Env->Nat->List DC->Option (List (List Value)))(io:List (Nat × List Nat):=[]):Nat->Env
 | 0=>Env.nil
 | k+1=>⟨fun f ds=>match an tbl f with
   | some t=>aes P (EF P aE tbl sq io k) aE t ds
   | none=>none,fun f caps=>sq (EF P aE tbl sq io k) f caps,fun f=>(an io f).getD []⟩
def Gy (P:Program):List (Nat × FnT)->Prop
 | []=>True
 | (f,t)::r=>tI P f t.nt t.tr t.tl t.ac t.rs/\Gy P r
theorem Gy.get {P:Program}:∀ {tbl:List (Nat × FnT)},Gy P tbl->∀ {f:Nat} {t:FnT},an tbl f=some t->tI P f t.nt t.tr t.tl t.ac t.rs
 | [],_,f,t,h=>by simp [an] at h
 | (g,u)::r,hT,f,t,h=>by
  simp only [an] at h;split at h
  ·rename_i hg;subst hg;simp only [zaI] at h;subst h;exact hT.1
  ·exact Gy.get hT.2 h
theorem adU (hm:P.follows .mixedOrders=true)(hE:dy P E){f:Nat}{t:FnT}(ht:tI P f t.nt t.tr t.tl t.ac t.rs){aE:Nat}{ds:List DV}{res:List RV}(h:aes P E aE t ds=some res):eu P f ds res/\ge P f:=by
 unfold aes at h;split at h
 ·rename_i hn
  split at h
  ·rename_i σ h1;exact ht.contract hm hE hn.1 hn.2 (XS _ _ _ _ _ _ h1 ⟨.inl rfl,h⟩)
  ·rename_i σ h1;exact ht.contract hm hE hn.1 hn.2 (XS _ _ _ _ _ _ h1 ⟨.inr rfl,h⟩)
  ·cases h
 ·cases h
theorem aij (hm:P.follows .mixedOrders=true){aE:Nat}{tbl:List (Nat × FnT)}{sq:Env->Nat->List DC->Option (List (List Value))}{io:List (Nat × List Nat)}(hT:Gy P tbl)
  (hsq:∀ E,dy P E->∀ f caps xs,sq E f caps=some xs->ow P f caps xs/\ge P f):∀ k,dy P (EF P aE tbl sq io k)
 | 0=>dy.nil
 | k+1=>by
  refine⟨fun f ds res h=>?_,fun f caps xs h=>hsq _ (aij hm hT hsq k) f caps xs h⟩;simp only [EF] at h;split at h
  ·rename_i t ht;exact adU hm (aij hm hT hsq k) (hT.get ht) h
  ·cases h
abbrev tT (k:Nat)(l:List Nat):Nat × bX:=(k,⟨l,true,[],[]⟩)
abbrev tF (k:Nat)(l:List Nat):Nat × bX:=(k,⟨l,false,[],[]⟩)
section
variable (P:Program)(E:Env)(xs:List (List Value))(l:Nat)(A:List (Nat × AV))
def iL:Kn->(Exit->Option Nat->St->Prop)->Exit->Option Nat->St->Prop
 | .nil,Q=>Q
 | .seq b k,Q=>Zu (wpI P E xs l A b (iL k Q)) (iL k Q)
 | .blk id k,Q=>O1 id (iL k Q)
 | .rounds td b n k,Q=>Zu (M1 A (wpI P E xs l A b) (jJ td) (iL k Q) n) (iL k Q)
def icC (c:aq)(k:Kn)(Q:Exit->Option Nat->St->Prop)(i:Option Nat)(σ:St):Prop:=wpI P E xs l A c (iL P E xs l A k Q) i σ
def icK (k:Kn)(Q:Exit->Option Nat->St->Prop)(e:Exit)(i:Option Nat)(σ:St):Prop:=iL P E xs l A k Q e i σ
def icL (td:Option bX)(b:aq)(n:Nat)(k:Kn)(Q:Exit->Option Nat->St->Prop)(i:Option Nat)(σ:St):Prop:=M1 A (wpI P E xs l A b) (jJ td) (iL P E xs l A k Q) n i σ
def icR (ops:List bp)(td:Option bX)(k:Kn)(Q:Exit->Option Nat->St->Prop)(i:Option Nat)(σ:St):Prop:=
 LD P E xs l A ops (fun i' σ'=>iL P E xs l A k Q .normal i' ⟨np td σ'.tmps,σ'.tab,[]⟩) i σ
def icB (o:Option Bool)(a b:aq)(k:Kn)(Q:Exit->Option Nat->St->Prop)(i:Option Nat)(σ:St):Prop:=df o (icC P E xs l A a k Q i σ) (icC P E xs l A b k Q i σ)
def icX (o:Option (AV × List (Nat × aL)))(dst:Option Nat)(ops:List bp)(td:Option bX)(k:Kn)(Q:Exit->Option Nat->St->Prop)(i:Option Nat)(σ:St):Prop:=
 rS o fun y es=>icR P E xs l A ops td k Q i (bN σ dst y es)
def icY (o:Option (List Operand))(ao:bp)(ops:List bp)(td:Option bX)(k:Kn)(Q:Exit->Option Nat->St->Prop)(i:Option Nat)(σ:St):Prop:=
 match o with
 | some as=>match i with
  | some n=>(∃ x,xs[n]?=some x/\g9 (evO σ.tmps) as=some x)/\icR P E xs l A ops td k Q (some (n+1)) (ma A σ ao.dst true)/\icR P E xs l A ops td k Q none (ma A σ ao.dst false)
  | none=>False
 | none=>icX P E xs l A (eff P E σ.tab (evO σ.tmps) (ao.dst.getD 9999) ao.op) ao.dst ops td k Q i σ
def icW (o:Option Bool)(ao:bp)(ops:List bp)(td:Option bX)(k:Kn)(Q:Exit->Option Nat->St->Prop)(i:Option Nat)(σ:St):Prop:=
 df o (icY P E xs l A (gA l (evO σ.tmps) ao.op) ao ops td k Q i σ) (icR P E xs l A ops td k Q i (bN σ ao.dst (.val false [.und]) []))
end
section
variable {P:Program}{E:Env}{xs:List (List Value)}{l:Nat}{A:List (Nat × AV)}{c a b:aq}{k:Kn}{Q:Exit->Option Nat->St->Prop}{σ:St}{i:Option Nat}{n m:Nat}{td:Option bX}{ops:List bp}{ao:bp} {prs:List (Nat × Nat)} {as:List Operand}
theorem aG3 (h:icC P E xs l A c .nil Q i σ):wpI P E xs l A c Q i σ:=h
theorem nI:icC P E xs l A .skip k Q i σ=icK P E xs l A k Q .normal i σ:=rfl
theorem uY:icC P E xs l A .ret k Q i σ=icK P E xs l A k Q .ret i σ:=rfl
theorem lq:icC P E xs l A (.exit n) k Q i σ=icK P E xs l A k Q (.exit n) i σ:=rfl
theorem qU:icC P E xs l A (.seq a b) k Q i σ=icC P E xs l A a (.seq b k) Q i σ:=rfl
theorem lQ:icC P E xs l A (.block n b) k Q i σ=icC P E xs l A b (.blk n k) Q i σ:=rfl
theorem lv {c:Operand}:icC P E xs l A (.cond c a b) k Q i σ=icB P E xs l A (ik (evO σ.tmps c)) a b k Q i σ:=rfl
theorem Fo:icB P E xs l A (some true) a b k Q i σ=icC P E xs l A a k Q i σ:=by simp [icB,df]
theorem Gf:icB P E xs l A (some false) a b k Q i σ=icC P E xs l A b k Q i σ:=by simp [icB,df]
theorem hI:icC P E xs l A (.region ops prs td) k Q i σ=icR P E xs l A ops td k Q i σ:=rfl
theorem D1 {tm sv:List (Nat × AV)}:icL P E xs l A td b (n+1) k Q i ⟨tm,[],sv⟩=icC P E xs l A b (.rounds td b n k) Q i ⟨dY (jJ td) tm,[],[]⟩:=rfl
theorem qK {e:Exit}:icK P E xs l A .nil Q e i σ=Q e i σ:=rfl
theorem jb:icK P E xs l A (.seq b k) Q .normal i σ=icC P E xs l A b k Q i σ:=rfl
theorem lh:icK P E xs l A (.seq b k) Q .ret i σ=icK P E xs l A k Q .ret i σ:=rfl
theorem i8:icK P E xs l A (.seq b k) Q (.exit n) i σ=icK P E xs l A k Q (.exit n) i σ:=rfl
theorem lg:icK P E xs l A (.blk m k) Q .normal i σ=icK P E xs l A k Q .normal i σ:=rfl
theorem lT:icK P E xs l A (.blk m k) Q .ret i σ=icK P E xs l A k Q .ret i σ:=rfl
theorem jg:icK P E xs l A (.blk m k) Q (.exit n) i σ=if n=m then icK P E xs l A k Q .normal i σ else icK P E xs l A k Q (.exit n) i σ:=rfl
theorem gR:icK P E xs l A (.rounds td b n k) Q .normal i σ=icL P E xs l A td b n k Q i σ:=rfl
theorem gX:icK P E xs l A (.rounds td b n k) Q .ret i σ=icK P E xs l A k Q .ret i σ:=rfl
theorem fq:icK P E xs l A (.rounds td b n k) Q (.exit m) i σ=icK P E xs l A k Q (.exit m) i σ:=rfl
theorem q8:icR P E xs l A [] td k Q i σ=icK P E xs l A k Q .normal i ⟨np td σ.tmps,σ.tab,[]⟩:=rfl
theorem lW:icR P E xs l A (ao::ops) td k Q i σ=(rm A ao.dst=true/\icW P E xs l A (ew σ.tmps ao.guard) ao ops td k Q i σ):=rfl
theorem Hn:icW P E xs l A (some true) ao ops td k Q i σ=icY P E xs l A (gA l (evO σ.tmps) ao.op) ao ops td k Q i σ:=by simp [icW,df]
theorem Gs:icW P E xs l A (some false) ao ops td k Q i σ=icR P E xs l A ops td k Q i (bN σ ao.dst (.val false [.und]) []):=by simp [icW,df]
theorem lf:icY P E xs l A none ao ops td k Q i σ=icX P E xs l A (eff P E σ.tab (evO σ.tmps) (ao.dst.getD 9999) ao.op) ao.dst ops td k Q i σ:=rfl
theorem nQ:icY P E xs l A (some as) ao ops td k Q (some n) σ=((∃ x,xs[n]?=some x/\g9 (evO σ.tmps) as=some x)/\icR P E xs l A ops td k Q (some (n+1)) (ma A σ ao.dst true)/\icR P E xs l A ops td k Q none (ma A σ ao.dst false)):=rfl
theorem mm {y:AV}{es:List (Nat × aL)}{dst:Option Nat}:icX P E xs l A (some (y,es)) dst ops td k Q i σ=icR P E xs l A ops td k Q i (bN σ dst y es):=by simp [icX,rS]
end
end Go.AM
