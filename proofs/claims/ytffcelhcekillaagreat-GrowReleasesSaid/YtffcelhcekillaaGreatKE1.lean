/- Equality of structs and arrays of scalars. -/
import Derived.Test.YtffcelhcekillaaGreatAMc
namespace Go.AM
theorem aF {P:Program}{γ δ:Type}{x:Sem γ}{f:γ->Sem δ}{y:γ}(h:aH P x=some y):aH P (x.bind f)=aH P (f y):=by
 induction x with
 | pure a=>simp only [aH,Option.some.injEq] at h;subst h;rfl
 | program k ih=>exact ih _ h
 | mark _ k ih=>exact ih h
 | _=>cases h
theorem aX {P:Program}{t:TypeId}{d:TypeDesc}(h:P.underlying t=some d):aH P (underlying t)=some d:=by
 simp [underlying,program,bind,Sem.bind,aH,h]
 first | rfl | simp [aH,pure]
def Rt (P:Program)(t:TypeId)(xs:Array Value)(off:Nat):Option Value:=aH P (part t xs off)
def aaX (P:Program)(rec:TypeId->Value->Value->Option Bool):List Field->Array Value->Array Value->Option Bool
 | [],_,_=>some true
 | f :: r, xs, ys => if f.name ≠ "_" then match Rt P f.type xs f.offset, Rt P f.type ys f.offset with
   | some u,some v=>match rec f.type u v,aaX P rec r xs ys with
    | some e,some g=>some (e && g)
    | _,_=>none
   | _,_=>none
  else aaX P rec r xs ys
def aiI (P:Program)(rec:TypeId->Value->Value->Option Bool)(e:TypeId)(n:Nat)(xs ys:Array Value):Nat->Nat->Option Bool
 | 0,_=>some true
 | k+1,i=>match Rt P e xs (i*n),Rt P e ys (i*n) with
  | some u,some v=>match rec e u v,aiI P rec e n xs ys k (i+1) with
   | some a,some g=>some (a && g)
   | _,_=>none
  | _,_=>none
def zy (P:Program):Nat->TypeId->Value->Value->Option Bool
 | 0,_,_,_=>none
 | d+1,t,x,y=>match P.underlying t,x,y with
  | some .bool,.bool a,.bool b=>some (a == b)
  | some (.int _),.int k a,.int k' b=>if k=k' then some (a == b) else none
  | some (.float _),.float k a,.float k' b=>if k=k' then some (Op.floatEq k a b) else none
  | some (.complex _),.complex k a b,.complex k' a' b'=>if k=k' then some (Op.floatEq k a a' && Op.floatEq k b b') else none
  | some .string,.string a,.string b=>some (a == b)
  | some (.struct fs),.agg xs,.agg ys=>if P.stoodInHeld t then none else aaX P (zy P d) fs.toList xs ys
  | some (.array len e),.agg xs,.agg ys=>match bK P e with
   | some n=>aiI P (zy P d) e n xs ys len 0
   | none=>none
  | _,_,_=>none
theorem sr {P:Program}{γ:Type}{body:γ->Option Bool × Unit->Sem (ForInStep (Option Bool × Unit))}:∀ (l:List γ) (es:List Bool),l.length=es.length ->
  (∀ (i:Nat) (f:γ) (e:Bool),l[i]?=some f->es[i]?=some e->aH P (body f (none,()))=some (if e then .yield (none,()) else .done (some false,()))) ->
  aH P (forIn l ((none,()):Option Bool × Unit) body)=some (if es.all id then (none,()) else (some false,()))
 | [],[],_,_=>rfl
 | f::r,e::es,hl,h=>by
  rw [List.forIn_cons];simp only [bind];rw [aF (h 0 f e rfl rfl)];cases e with
  | true=>
   simp only [if_true,List.all_cons,id,Bool.true_and];exact sr r es (by simpa using hl) fun i g e hg he=>h (i+1) g e (by simpa using hg) (by simpa using he)
  | false=>rfl
theorem ef {P:Program}{γ:Type}{f:Program->Sem γ}:aH P (Sem.bind program f)=aH P (f P):=by
 simp [program,Sem.bind,aH]
theorem xv {P:Program}{d:Nat}(ih:∀ {t:TypeId} {x y:Value} {b:Bool},zy P d t x y=some b->aH P (Op.equalIn d t x y)=some b){xs ys:Array Value}:∀ (l:List Field) (b:Bool),aaX P (zy P d) l xs ys=some b ->
  ∃ es:List Bool,l.length=es.length/\es.all id=b/\∀ (i:Nat) (f:Field) (e:Bool),l[i]?=some f->es[i]?=some e ->
   if f.name ≠ "_" then ∃ u v, aH P (part f.type xs f.offset) = some u ∧ aH P (part f.type ys f.offset) = some v ∧ aH P (Op.equalIn d f.type u v) = some e else e = true
 | [],b,h=>by
  simp only [aaX,Option.some.injEq] at h;subst h;exact⟨[],rfl,rfl,fun i f e h=>by simp at h⟩
 | f::r,b,h=>by
  simp only [aaX] at h;split at h
  ·rename_i hn
   split at h
   ·rename_i u v hu hv
    split at h
    ·rename_i a g ha hg
     simp only [Option.some.injEq] at h;obtain⟨es,h0,h1,h2⟩:=xv ih r g hg;refine⟨a::es,by simp [h0],by rw [List.all_cons,h1];exact h,fun i f' e hf he=>?_⟩;cases i with
     | zero=>
      simp only [List.getElem?_cons_zero,Option.some.injEq] at hf he;subst hf;subst he;rw [if_pos hn];exact⟨u,v,hu,hv,ih ha⟩
     | succ i=>exact h2 i f' e (by simpa using hf) (by simpa using he)
    ·cases h
   ·cases h
  ·rename_i hn
   obtain⟨es,h0,h1,h2⟩:=xv ih r b h;refine⟨true::es,by simp [h0],by rw [List.all_cons,h1];rfl,fun i f' e hf he=>?_⟩;cases i with
   | zero=>
    simp only [List.getElem?_cons_zero,Option.some.injEq] at hf he;subst hf;subst he;rw [if_neg hn]
   | succ i=>exact h2 i f' e (by simpa using hf) (by simpa using he)
theorem GN {P:Program}{d:Nat}(ih:∀ {t:TypeId} {x y:Value} {b:Bool},zy P d t x y=some b->aH P (Op.equalIn d t x y)=some b){e:TypeId}{n:Nat}{xs ys:Array Value}:∀ (k i:Nat) (b:Bool),aiI P (zy P d) e n xs ys k i=some b ->
  ∃ es:List Bool,k=es.length/\es.all id=b/\∀ (j:Nat) (c:Bool),es[j]?=some c->∃ u v,aH P (part e xs ((i+j)*n))=some u/\aH P (part e ys ((i+j)*n))=some v/\aH P (Op.equalIn d e u v)=some c
 | 0,i,b,h=>by
  simp only [aiI,Option.some.injEq] at h;subst h;exact⟨[],rfl,rfl,fun j c h=>by simp at h⟩
 | k+1,i,b,h=>by
  simp only [aiI] at h;split at h
  ·rename_i u v hu hv
   split at h
   ·rename_i a g ha hg
    simp only [Option.some.injEq] at h;obtain⟨es,h0,h1,h2⟩:=GN ih k (i+1) g hg;refine⟨a::es,by simp [h0],by rw [List.all_cons,h1];exact h,fun j c hc=>?_⟩;cases j with
    | zero=>
     simp only [List.getElem?_cons_zero,Option.some.injEq] at hc;subst hc;exact⟨u,v,hu,hv,ih ha⟩
    | succ j=>rw [show i+(j+1)=i+1+j by omega];exact h2 j c (by simpa using hc)
   ·cases h
  ·cases h
theorem Im {P:Program}:∀ (d:Nat) {t:TypeId} {x y:Value} {b:Bool},zy P d t x y=some b->aH P (Op.equalIn d t x y)=some b
 | 0,t,x,y,b,h=>by simp [zy] at h
 | d+1,t,x,y,b,h=>by
  unfold zy at h;split at h
  ·rename_i a c ht
   simp only [Op.equalIn,bind,pure];rw [aF (aX ht)];exact h
  ·rename_i k a k' c ht
   simp only [Op.equalIn,bind,pure];rw [aF (aX ht)];split at h
   ·rename_i hk;simp only [hk,if_true];exact h
   ·cases h
  ·rename_i k a k' c ht
   simp only [Op.equalIn,bind,pure];rw [aF (aX ht)];split at h
   ·rename_i hk;simp only [hk,if_true];rw [hk] at h;exact h
   ·cases h
  ·rename_i k a a' k' c c' ht
   simp only [Op.equalIn,bind,pure];rw [aF (aX ht)];split at h
   ·rename_i hk;simp only [hk,if_true];rw [hk] at h;exact h
   ·cases h
  ·rename_i a c ht
   simp only [Op.equalIn,bind,pure];rw [aF (aX ht)];exact h
  ·rename_i fs xs ys ht
   split at h
   ·cases h
   ·rename_i hs
    obtain⟨es,h0,h1,h2⟩:=xv (Im d) fs.toList b h;simp only [Op.equalIn,bind,pure];rw [aF (aX ht)];simp only [];rw [ef,if_neg hs,<- Array.forIn_toList];rw [aF (sr fs.toList es h0 fun i f e hf he=>?_)]
    ·rw [h1];cases b <;> rfl
    ·have:=h2 i f e hf he
     split at this
     ·rename_i hn
      obtain⟨u,v,hu,hv,huv⟩:=this;rw [if_pos hn,aF hu,aF hv,aF huv];cases e <;> rfl
     ·rename_i hn
      rw [if_neg hn,this];rfl
  ·rename_i len el xs ys ht
   split at h
   ·rename_i n hn
    obtain⟨es,h0,h1,h2⟩:=GN (Im d) len 0 b h;have hsz:aH P (sizeOf el)=some n:=by
     simp only [bK,Option.map_eq_some_iff] at hn;obtain⟨i,hi,rfl⟩:=hn;simp [sizeOf,typeInfo,program,bind,Sem.bind,aH,hi,pure]
    simp only [Op.equalIn,bind,pure];rw [aF (aX ht)];simp only [];rw [aF hsz,Std.Legacy.Range.forIn_eq_forIn_range'];rw [aF (sr _ es (by simp [Std.Legacy.Range.size,h0]) fun i j e hf he=>?_)]
    ·rw [h1];cases b <;> rfl
    ·obtain⟨u,v,hu,hv,huv⟩:=h2 i e he
     have hj:j=0+i:=by
      rw [List.getElem?_range'] at hf
      ·simp at hf;omega
      ·have:=(List.getElem?_eq_some_iff.1 hf).1;simpa [Std.Legacy.Range.size] using this
     subst hj;rw [aF hu,aF hv,aF huv];cases e <;> rfl
   ·cases h
  ·cases h
end Go.AM
