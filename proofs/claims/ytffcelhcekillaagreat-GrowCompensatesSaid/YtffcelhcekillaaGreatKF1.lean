/- Arguments as data: what a statement's inputs read as. -/
import Derived.Test.YtffcelhcekillaaGreatKMa
import Derived.ProofKit
import Derived.Below
import Derived.OpenShut
namespace Go.AM
open Go.RowKit
inductive TS where
 | int (k:IntKind)
 | bool
 | str
 | flt (k:FloatKind)
 | sl (l:List TS)
inductive BZ:TS->DC->Prop
 | int {k:IntKind} {n:Int} (h:(Lit.int k n).wf=true):BZ (.int k) (.v (.int k n))
 | bool {b:Bool}:BZ .bool (.v (.bool b))
 | str {s:ByteArray} (h:s.size<=maxLen):BZ .str (.v (.string s))
 | flt {k:FloatKind} {n:Nat} (h:(Lit.float k n).wf=true):BZ (.flt k) (.v (.float k n))
 | sl {l:List TS} {rows:List (List DC)} (hl:rows.length<=maxLen) (h:∀ r ∈ rows,r.length=l.length) (hr:∀ r ∈ rows,∀ (i:Nat) (t:TS) (d:DC),l[i]?=some t->r[i]?=some d->BZ t d):BZ (.sl l) (.sl rows)
def fN (l:List TS)(r:List DC):Prop:=r.length=l.length/\∀ (i:Nat) (t:TS) (d:DC),l[i]?=some t->r[i]?=some d->BZ t d
def afT (P:Program)(rec:TypeId->Option (List TS)):List Field->Nat->Option (List TS)
 | [],_=>some []
 | f::r,acc=>if f.offset=acc then match rec f.type,afT P rec r (acc+P.cellsOf f.type) with
   | some l,some m=>if l.length=P.cellsOf f.type then some (l++m) else none
   | _,_=>none
  else none
def JY (P:Program):Nat->TypeId->Option (List TS)
 | 0,_=>none
 | d+1,t=>match P.underlying t with
  | some .bool=>some [.bool]
  | some (.int k)=>some [.int k]
  | some (.float k)=>some [.flt k]
  | some .string=>some [.str]
  | some (.slice e)=>match JY P d e with
   | some l=>if l.length=P.cellsOf e/\0 < l.length then some [.sl l] else none
   | none=>none
  | some (.struct fs)=>match afT P (JY P d) fs.toList 0 with
   | some l=>if l.length=P.cellsOf t then some l else none
   | none=>none
  | some (.array n e)=>match JY P d e with
   | some l=>if l.length=P.cellsOf e/\n*l.length=P.cellsOf t then some (List.replicate n l).flatten else none
   | none=>none
  | _=>none
def fG (w:World)(l:List TS)(cs:List Value):Prop:=
 ∃ ds:List DC,fN l ds/\ds.length=cs.length/\∀ (i:Nat) (d:DC) (c:Value),ds[i]?=some d->cs[i]?=some c->aX w (fun _=>False) d c
theorem fG.nil {w:World}:fG w [] []:=⟨[],⟨rfl,fun i t d h=>by simp at h⟩,rfl,fun i d c h=>by simp at h⟩
theorem fN.append {l m:List TS}{r s:List DC}(h:fN l r)(k:fN m s):fN (l++m) (r++s):=by
 refine⟨by simp [h.1,k.1],fun i t d ht hd=>?_⟩;by_cases hi:i < l.length
 ·rw [List.getElem?_append_left hi] at ht
  rw [List.getElem?_append_left (by rw [h.1];exact hi)] at hd;exact h.2 i t d ht hd
 ·rw [List.getElem?_append_right (by omega)] at ht
  rw [List.getElem?_append_right (by rw [h.1];omega)] at hd;rw [h.1] at hd;exact k.2 _ t d ht hd
theorem fG.append {w:World}{l m:List TS}{cs es:List Value}(h:fG w l cs)(k:fG w m es):fG w (l++m) (cs++es):=by
 obtain⟨ds,h1,h2,h3⟩:=h;obtain⟨fs,k1,k2,k3⟩:=k;refine⟨ds++fs,h1.append k1,by simp [h2,k2],fun i d c hd hc=>?_⟩;by_cases hi:i < ds.length
 ·rw [List.getElem?_append_left hi] at hd
  rw [List.getElem?_append_left (by omega)] at hc;exact h3 i d c hd hc
 ·rw [List.getElem?_append_right (by omega)] at hd
  rw [List.getElem?_append_right (by omega)] at hc;rw [<- h2] at hc;exact k3 _ d c hd hc
theorem fG.one {w:World}{t:TS}{d:DC}{c:Value}(h:BZ t d)(k:aX w (fun _=>False) d c):fG w [t] [c]:=
 ⟨[d],⟨rfl,fun i t' d' ht hd=>by
  cases i with
  | zero=>simp only [List.getElem?_cons_zero,zaI] at ht hd;subst ht;subst hd;exact h
  | succ i=>simp at ht⟩,rfl,fun i d' c' hd hc=>by
  cases i with
  | zero=>simp only [List.getElem?_cons_zero,zaI] at hd hc;subst hd;subst hc;exact k
  | succ i=>simp at hd⟩
theorem Vf {α β:Type}{f:α->Option β}:∀ {l:List α} {r:List β},l.mapM f=some r->r.length=l.length/\∀ (i:Nat) (a:α),l[i]?=some a->∃ b,f a=some b/\r[i]?=some b
 | [],r,h=>by simp at h;subst h;exact⟨rfl,fun i a h=>by simp at h⟩
 | x::l,r,h=>by
  rw [List.mapM_cons] at h;cases hx:f x with
  | none=>rw [hx] at h;cases h
  | some b=>
   rw [hx] at h;cases hl:l.mapM f with
   | none=>rw [hl] at h;cases h
   | some bs=>
    rw [hl] at h;have:b::bs=r:=by simpa using h
    subst this;obtain⟨h1,h2⟩:=Vf hl;refine⟨by simp [h1],fun i a ha=>?_⟩;cases i with
    | zero=>simp only [List.getElem?_cons_zero,zaI] at ha;subst ha;exact⟨b,hx,rfl⟩
    | succ i=>obtain⟨c,h3,h4⟩:=h2 i a (by simpa using ha);exact⟨c,h3,by simpa using h4⟩
theorem Kj (a:Addr)(i j:Nat):(a.add i).add j=a.add (i+j):=by
 unfold Addr.add;by_cases h1:i=0
 ·subst h1;simp
 ·by_cases h2:j=0
  ·subst h2;simp
  ·simp [h1,h2,Nat.add_assoc]
theorem rE (b off n:Nat):(⟨b,off,none⟩:Addr).add n=⟨b,off+n,none⟩:=by
 unfold Addr.add;by_cases h:n=0
 ·subst h;simp
 ·simp [h]
theorem NI {P:Program}{rec:TypeId->Option (List TS)}{w:World}{cs:List Value}:∀ (fs:List Field) (acc:Nat) (l:List TS),afT P rec fs acc=some l ->
  (∀ f ∈ fs,∀ m,rec f.type=some m->fG w m ((cs.drop f.offset).take (P.cellsOf f.type)))->acc+l.length<=cs.length->fG w l ((cs.drop acc).take l.length)
 | [],acc,l,h,_,_=>by simp only [afT,zaI] at h;subst h;simpa using fG.nil
 | f::r,acc,l,h,hr,hlen=>by
  simp only [afT] at h;split at h
  ·rename_i ho
   split at h
   ·rename_i l1 l2 h1 h2
    split at h
    ·rename_i h3
     simp only [zaI] at h;subst h;have k1:=hr f (by simp) l1 h1;have k2:=NI r _ l2 h2 (fun g hg=>hr g (List.mem_cons_of_mem _ hg)) (by simp only [List.length_append] at hlen;omega);have:=k1.append k2;rw [ho,<- h3] at this;have e:((cs.drop acc).take l1.length)++((cs.drop (acc+l1.length)).take l2.length)=(cs.drop acc).take (l1++l2).length:=by
      rw [List.length_append,List.take_add,List.drop_drop]
     rw [h3] at e;rw [h3] at this;rw [<- e];exact this
    ·cases h
   ·cases h
  ·cases h
theorem mG {H:Type}{enc:TypeId × Value->H}{P:Program}{w:World}{spare:Nat->Bool}:∀ (n aE:Nat) {t:TypeId} {cs:List Value} {x:DataW H × List MemPlace} {l:List TS},
  DataW.trod enc P w 0 spare true aE t cs=some x->JY P n t=some l->fG w l cs
 | 0,_,t,cs,x,l,_,h=>by simp [JY] at h
 | n+1,aE,t,cs,x,l,h,hl=>by
  simp only [JY] at hl;split at hl
  ·rename_i ht
   simp only [zaI] at hl;subst hl;obtain⟨b,rfl,_⟩:=DataW.trod_bool ht h;exact fG.one .bool (.v rfl)
  ·rename_i k ht
   simp only [zaI] at hl;subst hl;obtain⟨b,rfl,_,hw⟩:=DataW.trod_int ht h;exact fG.one (.int hw) (.v rfl)
  ·rename_i k ht
   simp only [zaI] at hl;subst hl;have:∃ b,cs=[.float k b]/\(Lit.float k b).wf=true:=by
    cases aE with
    | zero=>simp [DataW.trod] at h
    | succ m=>
     unfold DataW.trod at h;rw [ht] at h;split at h <;> simp_all
   obtain⟨b,rfl,hw⟩:=this;exact fG.one (.flt hw) (.v rfl)
  ·rename_i ht
   simp only [zaI] at hl;subst hl;obtain⟨b,rfl,_,hw⟩:=DataW.trod_string ht h;exact fG.one (.str hw) (.v rfl)
  ·rename_i e ht
   split at hl
   ·rename_i le hle
    split at hl
    ·rename_i hsz
     simp only [zaI] at hl;subst hl;rcases DataW.trod_slice ht h with ⟨rfl,_⟩ | ⟨a,len,cap,elems,rest,m,rfl,rfl,_,_,h1,h2,h3,h4,_⟩
     ·exact fG.one (.sl (rows:=[]) (Nat.zero_le _) (by simp) (by simp)) .nil
     ·-- each element reads
      have hel:∀ i,i < len->∃ es y,w.cells? 0 (a.add (i*P.cellsOf e)) (P.cellsOf e)=some es/\DataW.trod enc P w 0 spare true m e es=some y:=by
       intro i hi;have:=h4 i hi;rw [List.getElem?_eq_getElem (by omega)] at this;obtain⟨es,k1,k2⟩:=Option.bind_eq_some_iff.1 this;exact⟨es,_,k1,k2⟩
      by_cases h0:len=0
      ·subst h0
       exact fG.one (.sl (rows:=[]) (Nat.zero_le _) (by simp) (by simp)) .nil
      ·have hrow:∀ i,i < len->∃ r:List DC,fN le r/\∀ j d,r[j]?=some d->∃ c,w.cell? (a.add (i*P.cellsOf e+j))=some c/\aX w (fun _=>False) d c:=by
        intro i hi;obtain⟨es,y,k1,k2⟩:=hel i hi;obtain⟨r,r1,r2,r3⟩:=mG n m k2 hle;refine⟨r,r1,fun j d hd=>?_⟩;unfold World.cells? at k1;rw [if_pos (Nat.zero_le _)] at k1;obtain⟨q1,q2⟩:=Vf k1;have hj:j < es.length:=by rw [<- r2];exact (List.getElem?_eq_some_iff.1 hd).1
        obtain⟨c,q3,q4⟩:=q2 j j (by rw [q1,List.length_range] at hj;rw [List.getElem?_range hj]);refine⟨c,?_,r3 j d c hd q4⟩;rw [<- q3,Kj]
       -- rows
       let f:Nat->List DC:=fun i=>if h:i < len then Classical.choose (hrow i h) else []
       have hf:∀ i (h:i < len),fN le (f i)/\∀ j d,(f i)[j]?=some d->∃ c,w.cell? (a.add (i*P.cellsOf e+j))=some c/\aX w (fun _=>False) d c:=by
        intro i h;simp only [f,dif_pos h];exact Classical.choose_spec (hrow i h)
       have hlen0:0 < P.cellsOf e:=by rw [<- hsz.1];exact hsz.2
       have hspot:∃ b off,a=⟨b,off,none⟩/\b < w.heap.size:=by
        obtain⟨c1,c2⟩:=hf 0 (by omega);have:0 < (f 0).length:=by rw [c1.1];exact hsz.2
        obtain⟨c,c3,_⟩:=c2 0 (f 0)[0] (by simp [this]);have e0:a.add (0*P.cellsOf e+0)=a:=by unfold Addr.add;simp
        rw [e0] at c3;have hs:=World.cell?_spot c3;obtain⟨b,off,spot⟩:=a;have hs:spot=none:=hs;subst hs;refine⟨b,off,rfl,?_⟩;simp only [World.cell?] at c3;cases hb:w.heap[b]? with
        | none=>rw [hb] at c3;cases c3
        | some o=>exact (Array.getElem?_eq_some_iff.1 hb).1
       obtain⟨b,off,rfl,hb⟩:=hspot;have hlenle:len<=maxLen:=by omega
       refine fG.one (d:=.sl ((List.range len).map f)) (.sl (by simpa using hlenle) (fun r hr=>?_) (fun r hr=>?_)) ?_
       ·obtain⟨i,hi,rfl⟩:=List.mem_map.1 hr
        exact (hf i (by simpa using hi)).1.1
       ·obtain⟨i,hi,rfl⟩:=List.mem_map.1 hr
        exact (hf i (by simpa using hi)).1.2
       ·have:=aX.sl (w:=w) (N:=fun _=>False) (rows:=(List.range len).map f) (b:=b) (off:=off) (cap:=cap) (sz:=P.cellsOf e) (fun i j=>(w.cell? ⟨b,off+i*P.cellsOf e+j,none⟩).getD undef)
         (by simp;omega) (fun h=>h) hb hlen0 (fun r hr=>by obtain⟨i,hi,rfl⟩:=List.mem_map.1 hr;rw [(hf i (by simpa using hi)).1.1,hsz.1]) (by simp;omega)
         (fun i j hi hj=>by
          have hi:i < len:=by simpa using hi
          have hj':j < (f i).length:=by rw [(hf i hi).1.1,hsz.1];exact hj
          obtain⟨c,c3,_⟩:=(hf i hi).2 j (f i)[j] (by simp [hj']);have c3:w.cell? ⟨b,off+i*P.cellsOf e+j,none⟩=some c:=by rw [<- c3,rE,Nat.add_assoc]
          rw [c3];rfl)
         (fun i j r d hr hd=>by
          rw [List.getElem?_map] at hr;have hi:i < len:=by
           by_cases hi:i < len
           ·exact hi
           ·rw [List.getElem?_eq_none (by simp;omega)] at hr;cases hr
          rw [List.getElem?_range hi] at hr;simp only [Option.map_some,zaI] at hr;subst hr;obtain⟨c,c3,c4⟩:=(hf i hi).2 j d hd;have c3:w.cell? ⟨b,off+i*P.cellsOf e+j,none⟩=some c:=by rw [<- c3,rE,Nat.add_assoc]
          rw [c3];exact c4)
        simpa using this
    ·cases hl
   ·cases hl
  ·rename_i fs ht
   split at hl
   ·rename_i l' hl'
    split at hl
    ·rename_i hlen
     simp only [zaI] at hl;subst hl;obtain⟨xs,m,rfl,_,h1,h2,h3⟩:=DataW.trod_struct ht h;have:=NI (w:=w) (cs:=cs) fs.toList 0 l' hl' (fun f hf q hq=>by
      obtain⟨i,hi⟩:=List.getElem?_of_mem hf;have h4:=h3 i f (by simpa using hi);have hi':i < xs.length:=by rw [h2];have:=(List.getElem?_eq_some_iff.1 hi).1;simpa using this
      rw [List.getElem?_eq_getElem hi'] at h4;exact mG n m h4 hq) (by omega)
     rw [hlen,<- h1] at this;simpa using this
    ·cases hl
   ·cases hl
  ·rename_i k e ht
   split at hl
   ·rename_i le hle
    split at hl
    ·rename_i hsz
     simp only [zaI] at hl;subst hl;obtain⟨xs,m,rfl,_,h1,h2,h3⟩:=Go.DataW.trod_array ht h;have key:∀ i,i<=k->fG w (List.replicate i le).flatten (cs.take (i*P.cellsOf e)):=by
      intro i
      induction i with
      | zero=>intro _;simpa using fG.nil
      | succ i ih=>
       intro hi;have h4:=h3 i (by omega);rw [List.getElem?_eq_getElem (by omega)] at h4;have:=(ih (by omega)).append (mG n m h4 hle);rw [List.replicate_succ',List.flatten_append,Nat.succ_mul,List.take_add];simpa using this
     have:=key k (Nat.le_refl _);rw [List.take_of_length_le (by rw [h1,<- hsz.2,hsz.1];exact Nat.le_refl _)] at this;exact this
    ·cases hl
   ·cases hl
  ·cases hl
theorem fN.cons {a:TS}{l:List TS}{r:List DC}(h:fN (a::l) r):∃ x r',r=x::r'/\BZ a x/\fN l r':=by
 match r,h.1 with
 | x::r',hl=>exact⟨x,r',rfl,h.2 0 a x rfl rfl,by simpa using hl,fun i t d ht hd=>h.2 (i+1) t d (by simpa using ht) (by simpa using hd)⟩
theorem fN.nil {r:List DC}(h:fN [] r):r=[]:=by
 match r,h.1 with
 | [],_=>rfl
theorem BZ.rows {l:List TS}{d:DC}(h:BZ (.sl l) d):∃ rows,d=.sl rows/\rows.length<=maxLen/\∀ r ∈ rows,fN l r:=by
 cases h with
 | sl hl h hr=>exact⟨_,rfl,hl,fun r hm=>⟨h r hm,hr r hm⟩⟩
theorem zH {A:Type}{enc:A->List DC}{l:List TS}(h:∀ r,fN l r->∃ a,r=enc a):∀ rows:List (List DC),(∀ r ∈ rows,fN l r)->∃ L:List A,rows=L.map enc
 | [],_=>⟨[],rfl⟩
 | r::rows,hr=>by
  obtain⟨a,rfl⟩:=h r (hr r (by simp));obtain⟨L,rfl⟩:=zH h rows fun q hq=>hr q (List.mem_cons_of_mem _ hq);exact⟨a::L,rfl⟩
def KQ (P:Program)(t:TypeId):Bool:=match P.underlying t with
 | some (.struct _) | some (.array _ _)=>true
 | _=>false
def Arg (P:Program)(w:World)(t:TypeId)(l:List TS)(v:Value):Prop:=∃ ds:List DC,fN l ds/\pU w (fun _=>False) (KQ P t,ds) v
theorem afv {H:Type}{enc:TypeId × Value->H}{P:Program}{w:World}{spare:Nat->Bool}{r:Reach}{base n:Nat}{t:TypeId}{v:Value}{d:DataW H}{ps:List MemPlace}{l:List TS}
  (hok:Value.okWide P w r base t v) (h:DataW.Trod enc P w 0 spare true t v d ps) (hl:JY P n t=some l):Arg P w t l v:=by
 obtain⟨aE,hf⟩:=h;obtain⟨ds,h1,h2,h3⟩:=mG n aE hf hl;refine⟨ds,h1,?_⟩;unfold KQ;unfold Value.okWide at hok;split at hok
 ·rename_i fs ht
  obtain⟨cs,rfl,_,_⟩:=hok;rw [ht];exact⟨cs,rfl,by simpa [Value.cells] using h2,fun i d x hd hx=>h3 i d x hd (by simpa [Value.cells] using hx)⟩
 ·rename_i k e ht
  obtain⟨cs,rfl,_,_⟩:=hok;rw [ht];exact⟨cs,rfl,by simpa [Value.cells] using h2,fun i d x hd hx=>h3 i d x hd (by simpa [Value.cells] using hx)⟩
 ·rename_i hn1 hn2
  have hagg:∀ cs,v ≠ .agg cs:=by
   rintro cs rfl
   unfold Cell.okWide at hok;split at hok <;> first | (rename_i hq;cases hq) | skip
   all_goals (try (unfold Cell.ok at hok;split at hok <;> first | (rename_i hq;cases hq) | exact hok.elim))
  have hc:v.cells.toList=[v]:=by
   cases v <;> first | rfl | exact absurd rfl (hagg _)
  rw [hc] at h2 h3;have hfalse:(match P.underlying t with | some (.struct _) | some (.array _ _)=>true | _=>false)=false:=by
   split
   ·rename_i fs hq;exact absurd hq (hn1 fs)
   ·rename_i k e hq;exact absurd hq (hn2 k e)
   ·rfl
  rw [hfalse]
  match ds,h2 with
  | [d],_=>exact⟨d,rfl,h3 0 d v rfl rfl⟩
theorem aar {P:Program}{f nt:Nat}{x:OZ}(hi:ak P f nt x){w:World}{ds:List DV}{vs:Array Value}(hn:ds.length<=nt)(hx:x.1.dec ds (x.2 _ some)=some (some [rB true]))(ha:iW w (fun _=>False) ds vs) :
  Calls P f vs w fun e w'=>e=.returned (.bool true)/\Below w.heap.size w w':=by
 have hc:=(hi.ok ds _ hn hx).1.plain (N:=fun _=>False) (fun _ h=>h.elim) ha;refine hc.mono fun e w' h=>?_;obtain⟨v,rfl,hb,us,ob,h1,h2,h3,_⟩:=h;refine⟨?_,hb⟩;have hs:us.size=1:=by simpa using h2.symm
 rw [dif_pos hs] at h1;have:=h3 0 (rB true) us[0] rfl (by simp [hs]);obtain⟨c,hc1,hc2⟩:=this;simp only [List.cons.injEq,and_true] at hc1;subst hc1;have e0:us[0]=.bool true:=by
  generalize us[0]=u at hc2;cases hc2;rfl
 rw [h1,e0]
theorem iW.of {w:World}{N:Nat->Prop}:∀ {ds:List DV} {vs:List Value},ds.length=vs.length->(∀ (i:Nat) (d:DV) (v:Value),ds[i]?=some d->vs[i]?=some v->pU w N d v)->iW w N ds vs.toArray:=
 fun h k=>⟨by simpa using h,fun i d v hd hv=>k i d v hd (by simpa using hv)⟩
end Go.AM
