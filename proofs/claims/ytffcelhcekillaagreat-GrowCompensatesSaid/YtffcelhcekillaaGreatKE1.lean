/- Equality of structs and arrays of scalars. -/
import Derived.Test.YtffcelhcekillaaGreatAMc
namespace Go.AM
theorem aG {P:Program}{γ δ:Type}{x:Sem γ}{f:γ->Sem δ}{y:γ}(h:aH P x=some y):aH P (x.bind f)=aH P (f y):=by
 induction x with
 | pure a=>simp only [aH,zaI] at h;subst h;rfl
 | program k ih=>exact ih _ h
 | mark _ k ih=>exact ih h
 | _=>cases h
theorem aY {P:Program}{t:TypeId}{d:TypeDesc}(h:P.underlying t=some d):aH P (underlying t)=some d:=by
 simp [underlying,program,bind,Sem.bind,aH,h]
 first | rfl | simp [aH,pure]
def WT (P:Program)(t:TypeId)(xs:Array Value)(off:Nat):Option Value:=aH P (part t xs off)
def aau (P:Program)(rec:TypeId->Value->Value->Option Bool):List Field->Array Value->Array Value->Option Bool
 | [],_,_=>some true
 | f :: r, xs, ys => if f.name ≠ "_" then match WT P f.type xs f.offset, WT P f.type ys f.offset with
   | some u,some v=>match rec f.type u v,aau P rec r xs ys with
    | some e,some g=>some (e && g)
    | _,_=>none
   | _,_=>none
  else aau P rec r xs ys
def abY (P:Program)(rec:TypeId->Value->Value->Option Bool)(e:TypeId)(n:Nat)(xs ys:Array Value):Nat->Nat->Option Bool
 | 0,_=>some true
 | k+1,i=>match WT P e xs (i*n),WT P e ys (i*n) with
  | some u,some v=>match rec e u v,abY P rec e n xs ys k (i+1) with
   | some a,some g=>some (a && g)
   | _,_=>none
  | _,_=>none
def zC (P:Program):Nat->TypeId->Value->Value->Option Bool
 | 0,_,_,_=>none
 | d+1,t,x,y=>match P.underlying t,x,y with
  | some .bool,.bool a,.bool b=>some (a == b)
  | some (.int _),.int k a,.int k' b=>if k=k' then some (a == b) else none
  | some (.float _),.float k a,.float k' b=>if k=k' then some (Op.floatEq k a b) else none
  | some (.complex _),.complex k a b,.complex k' a' b'=>if k=k' then some (Op.floatEq k a a' && Op.floatEq k b b') else none
  | some .string,.string a,.string b=>some (a == b)
  | some (.struct fs),.agg xs,.agg ys=>if P.stoodInHeld t then none else aau P (zC P d) fs.toList xs ys
  | some (.array len e),.agg xs,.agg ys=>match bL P e with
   | some n=>abY P (zC P d) e n xs ys len 0
   | none=>none
  | _,_,_=>none
theorem so {P:Program}{γ:Type}{body:γ->Option Bool × Unit->Sem (ForInStep (Option Bool × Unit))}:∀ (l:List γ) (es:List Bool),l.length=es.length ->
  (∀ (i:Nat) (f:γ) (e:Bool),l[i]?=some f->es[i]?=some e->aH P (body f (none,()))=some (if e then .yield (none,()) else .done (some false,()))) ->
  aH P (forIn l ((none,()):Option Bool × Unit) body)=some (if es.all id then (none,()) else (some false,()))
 | [],[],_,_=>rfl
 | f::r,e::es,hl,h=>by
  rw [List.forIn_cons];simp only [bind];rw [aG (h 0 f e rfl rfl)];cases e with
  | true=>
   simp only [if_true,List.all_cons,id,Bool.true_and];exact so r es (by simpa using hl) fun i g e hg he=>h (i+1) g e (by simpa using hg) (by simpa using he)
  | false=>rfl
theorem eh {P:Program}{γ:Type}{f:Program->Sem γ}:aH P (Sem.bind program f)=aH P (f P):=by
 simp [program,Sem.bind,aH]
theorem xi {P:Program}{d:Nat}(ih:∀ {t:TypeId} {x y:Value} {b:Bool},zC P d t x y=some b->aH P (Op.equalIn d t x y)=some b){xs ys:Array Value}:∀ (l:List Field) (b:Bool),aau P (zC P d) l xs ys=some b ->
  ∃ es:List Bool,l.length=es.length/\es.all id=b/\∀ (i:Nat) (f:Field) (e:Bool),l[i]?=some f->es[i]?=some e ->
   if f.name ≠ "_" then ∃ u v, aH P (part f.type xs f.offset) = some u ∧ aH P (part f.type ys f.offset) = some v ∧ aH P (Op.equalIn d f.type u v) = some e else e = true
 | [],b,h=>by
  simp only [aau,zaI] at h;subst h;exact⟨[],rfl,rfl,fun i f e h=>by simp at h⟩
 | f::r,b,h=>by
  simp only [aau] at h;split at h
  ·rename_i hn
   split at h
   ·rename_i u v hu hv
    split at h
    ·rename_i a g ha hg
     simp only [zaI] at h;obtain⟨es,h0,h1,h2⟩:=xi ih r g hg;refine⟨a::es,by simp [h0],by rw [List.all_cons,h1];exact h,fun i f' e hf he=>?_⟩;cases i with
     | zero=>
      simp only [List.getElem?_cons_zero,zaI] at hf he;subst hf;subst he;rw [if_pos hn];exact⟨u,v,hu,hv,ih ha⟩
     | succ i=>exact h2 i f' e (by simpa using hf) (by simpa using he)
    ·cases h
   ·cases h
  ·rename_i hn
   obtain⟨es,h0,h1,h2⟩:=xi ih r b h;refine⟨true::es,by simp [h0],by rw [List.all_cons,h1];rfl,fun i f' e hf he=>?_⟩;cases i with
   | zero=>
    simp only [List.getElem?_cons_zero,zaI] at hf he;subst hf;subst he;rw [if_neg hn]
   | succ i=>exact h2 i f' e (by simpa using hf) (by simpa using he)
theorem FU {P:Program}{d:Nat}(ih:∀ {t:TypeId} {x y:Value} {b:Bool},zC P d t x y=some b->aH P (Op.equalIn d t x y)=some b){e:TypeId}{n:Nat}{xs ys:Array Value}:∀ (k i:Nat) (b:Bool),abY P (zC P d) e n xs ys k i=some b ->
  ∃ es:List Bool,k=es.length/\es.all id=b/\∀ (j:Nat) (c:Bool),es[j]?=some c->∃ u v,aH P (part e xs ((i+j)*n))=some u/\aH P (part e ys ((i+j)*n))=some v/\aH P (Op.equalIn d e u v)=some c
 | 0,i,b,h=>by
  simp only [abY,zaI] at h;subst h;exact⟨[],rfl,rfl,fun j c h=>by simp at h⟩
 | k+1,i,b,h=>by
  simp only [abY] at h;split at h
  ·rename_i u v hu hv
   split at h
   ·rename_i a g ha hg
    simp only [zaI] at h;obtain⟨es,h0,h1,h2⟩:=FU ih k (i+1) g hg;refine⟨a::es,by simp [h0],by rw [List.all_cons,h1];exact h,fun j c hc=>?_⟩;cases j with
    | zero=>
     simp only [List.getElem?_cons_zero,zaI] at hc;subst hc;exact⟨u,v,hu,hv,ih ha⟩
    | succ j=>rw [show i+(j+1)=i+1+j by omega];exact h2 j c (by simpa using hc)
   ·cases h
  ·cases h
theorem KJ {P:Program}:∀ (d:Nat) {t:TypeId} {x y:Value} {b:Bool},zC P d t x y=some b->aH P (Op.equalIn d t x y)=some b
 | 0,t,x,y,b,h=>by simp [zC] at h
 | d+1,t,x,y,b,h=>by
  unfold zC at h;split at h
  ·rename_i a c ht
   simp only [Op.equalIn,bind,pure];rw [aG (aY ht)];exact h
  ·rename_i k a k' c ht
   simp only [Op.equalIn,bind,pure];rw [aG (aY ht)];split at h
   ·rename_i hk;simp only [hk,if_true];exact h
   ·cases h
  ·rename_i k a k' c ht
   simp only [Op.equalIn,bind,pure];rw [aG (aY ht)];split at h
   ·rename_i hk;simp only [hk,if_true];rw [hk] at h;exact h
   ·cases h
  ·rename_i k a a' k' c c' ht
   simp only [Op.equalIn,bind,pure];rw [aG (aY ht)];split at h
   ·rename_i hk;simp only [hk,if_true];rw [hk] at h;exact h
   ·cases h
  ·rename_i a c ht
   simp only [Op.equalIn,bind,pure];rw [aG (aY ht)];exact h
  ·rename_i fs xs ys ht
   split at h
   ·cases h
   ·rename_i hs
    obtain⟨es,h0,h1,h2⟩:=xi (KJ d) fs.toList b h;simp only [Op.equalIn,bind,pure];rw [aG (aY ht)];simp only [];rw [eh,if_neg hs,<- Array.forIn_toList];rw [aG (so fs.toList es h0 fun i f e hf he=>?_)]
    ·rw [h1];cases b <;> rfl
    ·have:=h2 i f e hf he
     split at this
     ·rename_i hn
      obtain⟨u,v,hu,hv,huv⟩:=this;rw [if_pos hn,aG hu,aG hv,aG huv];cases e <;> rfl
     ·rename_i hn
      rw [if_neg hn,this];rfl
  ·rename_i len el xs ys ht
   split at h
   ·rename_i n hn
    obtain⟨es,h0,h1,h2⟩:=FU (KJ d) len 0 b h;have hsz:aH P (sizeOf el)=some n:=by
     simp only [bL,Option.map_eq_some_iff] at hn;obtain⟨i,hi,rfl⟩:=hn;simp [sizeOf,typeInfo,program,bind,Sem.bind,aH,hi,pure]
    simp only [Op.equalIn,bind,pure];rw [aG (aY ht)];simp only [];rw [aG hsz,Std.Legacy.Range.forIn_eq_forIn_range'];rw [aG (so _ es (by simp [Std.Legacy.Range.size,h0]) fun i j e hf he=>?_)]
    ·rw [h1];cases b <;> rfl
    ·obtain⟨u,v,hu,hv,huv⟩:=h2 i e he
     have hj:j=0+i:=by
      rw [List.getElem?_range'] at hf
      ·simp at hf;omega
      ·have:=(List.getElem?_eq_some_iff.1 hf).1;simpa [Std.Legacy.Range.size] using this
     subst hj;rw [aG hu,aG hv,aG huv];cases e <;> rfl
   ·cases h
  ·cases h
end Go.AM
