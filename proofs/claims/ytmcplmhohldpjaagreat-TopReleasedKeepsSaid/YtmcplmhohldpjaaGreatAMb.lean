/- Texts of one kind, put together. -/
import Derived.Test.YtmcplmhohldpjaaGreatAMa
import Derived.Lib.ConvBytes
import Derived.RangeFuncFrom
import Derived.RangeFuncLeaves
import Derived.OrdersIn
namespace Go.AM
open Go.RowKit
variable {P:Program}{E:Env}{w0:fB P}{w w':World}{N0:Nat->Prop}{g g':Gh}{T T':Tab}{r:Option Nat}{n:Nat}{o:Oper}{a:Act}{ρ:Operand->AV}{dst:Nat}
 {y:AV} {es:List (Nat × aC)}
theorem eJ (P:Program)(b o:Nat)(t:TypeId)(fz:Nat × Nat):∀ (vs:List Value) (i:Nat) (cur:Array Value) (w:World),w.heap[b]?=some (.cells cur t fz)->o+i+vs.length<=cur.size ->
  (∀ j,j < vs.length->(decide (fz.1<=o+i+j) && decide (o+i+j < fz.2))=false)->(∀ v ∈ vs,v.oneCell'=true) ->
  (storeCells ⟨b,o,none⟩ vs i).run P w=.ok () (w.setRow b (splice cur.toList (o+i) vs).toArray)
 | [],i,cur,w,hg,_,_,_=>by
  simp only [storeCells,splice,List.append_nil,List.length_nil,Nat.add_zero,List.take_append_drop,Array.toArray_toList]
  rw [setRow_self w b cur t fz hg]
  rfl
 | v::rest,i,cur,w,hg,hl,hf,h1=>by
  have hi:o+i < cur.size:=by simp at hl;omega
  have hcell:w.cell? ⟨b,o+i,none⟩=some cur[o+i]:=by simp [World.cell?,hg,hi]
  have hfro:w.frozen? ⟨b,o+i,none⟩=false:=by
   have:=hf 0 (by simp)
   simp only [World.frozen?,hg]
   simpa using this
  have hst:(store ((⟨b,o,none⟩:Addr).add i) v).run P w=.ok () (w.setRow b (cur.setIfInBounds (o+i) v)):=by
   rw [fy,run_store P w _ v _ (h1 v (by simp)),hcell]
   simp [hfro,setCell_eq_setRow w b (o+i) cur t fz v hg]
  have ih:=eJ P b o t fz rest (i+1) (cur.setIfInBounds (o+i) v) (w.setRow b (cur.setIfInBounds (o+i) v)) (setRow_heap w b cur _ t fz hg) (by simp at hl ⊢;omega)
   (fun j hj=>by have:=hf (j+1) (by simp;omega);rwa [show o+i+(j+1)=o+(i+1)+j by omega] at this) (fun x hx=>h1 x (by simp [hx]))
  simp only [storeCells,Sem.run_bind,hst,Result.andThen_ok,ih,setRow_setRow]
  congr 2
  have:=list_seg_step cur.toList (o+i) v rest (by simp at hl ⊢;omega)
  simp only [splice,Array.toList_setIfInBounds,List.length_cons]
  rw [show o+(i+1)=o+i+1 by omega]
  rw [this]
theorem gM (w:World)(b:Nat)(cs:Array Value):w.grownBy (w.setRow b cs) (some b):=
 ⟨rfl,rfl,rfl,by simp,fun k _ hk=>setRow_other w b k cs (fun h=>hk (by rw [h]))⟩
theorem sj {t:TypeId}{x z:Operand}(ho:o.op=.store t x z){s b off:Nat}(hs:bE P t=some s)(hx:a.eval x=.pointer (some ⟨b,off,none⟩))(hsz:(a.eval z).cells.size=s){cur:Array Value}{te:TypeId}{fz:Nat × Nat}
  (hg:w.heap[b]?=some (.cells cur te fz)) (hl:off+s<=cur.size) (hf:∀ j,j < s->(decide (fz.1<=off+j) && decide (off+j < fz.2))=false) (h1:∀ v ∈ (a.eval z).cells.toList,v.oneCell'=true) :
  (execOp a.eval o).run P w=.ok .skip (w.setRow b (splice cur.toList off (a.eval z).cells.toList).toArray):=by
 have:=eJ P b off te fz (a.eval z).cells.toList 0 cur w hg (by simp [hsz];omega) (fun j hj=>by simpa using hf j (by simpa [hsz] using hj)) h1
 simp only [Nat.add_zero] at this
 simp only [execOp,ho,Instr.storeAt,hx,Instr.sureAddr,Sem.run_bind,Sem.run_pure,Result.andThen_ok,storeVar,bN hs]
 rw [if_neg (by simpa using hsz)]
 simp [this]
theorem XK (hM:Mem w0 N0 g T w)(hρ:∀ x,aH w (ap N0 g T) g T (ρ x) (a.eval x)){t:TypeId}{x z:Operand}{s:Nat}(ho:o.op=.store t x z)(hs:bE P t=some s)
  (he:eff P E T ρ dst (.store s x z)=some (y,es)):aR r n P o a w (Res w0 N0 g T w y es):=by
 have hd:∀ c,o.op ≠ .defer c:=fun c h=>by rw [ho] at h;cases h
 simp only [eff] at he
 split at he
 ·rename_i ys m off hy hx
  obtain⟨_,b,hb,hv⟩:=aJ (hρ x) hx
  split at he
  ·rename_i cs hm
   split at he
   ·rename_i hcond
    obtain⟨h1,h2,h3⟩:=hcond
    simp only [Option.some.injEq,Prod.mk.injEq] at he
    obtain⟨rfl,rfl⟩:=he
    obtain⟨b',cells,t',k1,k2,k3,k4,k5⟩:=hM.box hm
    rw [hb] at k1
    simp only [Option.some.injEq] at k1
    subst k1
    obtain⟨bb,hvz⟩:=jC (hρ z) hy
    obtain⟨c1,c2,c3⟩:=hvz.cells h3
    have hl:live T m:=by unfold live;rw [hm];trivial
    have hrun:=sj (w:=w) ho hs hv (by rw [c1,h1]) k2 (by omega) (fun j _=>by simp) c3
    have hfit:off+ys.length<=cs.length:=by omega
    obtain⟨q1,q2⟩:=hM.write (e:=.box (splice cs off ys)) hl hb trivial (gM w b _) (by simp) (fun hK=>by
     have hrel:dD w (ap N0 g T) g T (splice cs off ys) (splice cells.toList off (a.eval z).cells.toList):=
      dD.splice ⟨by simpa using k3,fun i c x hc hx=>k4 i c x hc (by simpa using hx)⟩ ⟨by simpa using c1,fun i c x hc hx=>c2 i c x hc (by simpa using hx)⟩ hfit
     exact⟨b,(splice cells.toList off (a.eval z).cells.toList).toArray,t',hb,setRow_heap w b cells _ t' _ k2,by rw [List.size_toArray];exact hrel.1,fun i c x hc hx=>hK.c (hrel.2 i c x hc (by rw [List.getElem?_toArray] at hx;exact hx)),lI (IM (yD k5) h3 hfit)⟩)
    exact aR.skip hd hrun ⟨g,q1,q2,_,rfl,rfl⟩
   ·cases he
  ·cases he
 ·rename_i ys m i off hy hx
  obtain⟨hsome,b,o',len,cap,hsv,hv⟩:=aJ (hρ x) hx
  split at he
  ·rename_i ds fs hfz
   split at he
   ·rename_i s' rows hm
    split at he
    ·rename_i hcond
     obtain⟨h1,h2,h3⟩:=hcond
     simp only [Option.some.injEq,Prod.mk.injEq] at he
     obtain⟨rfl,rfl⟩:=he
     obtain⟨bb,hvz⟩:=jC (hρ z) hy
     have hok:nC ys=true:=by
      refine yD fun j c hc=>?_
      have:∀ {cs:List C} {T:Tab} {ds:List DC} {es:List (Nat × aC)},cJ T cs=some (ds,es)->∀ (j:Nat) (c:C),cs[j]?=some c->okC c=true:=by
       intro cs
       induction cs with
       | nil=>intro T ds es _ j c hc;simp at hc
       | cons c0 cr ih=>
        intro T ds es hf j c hc
        simp only [cJ] at hf
        split at hf
        ·cases hf
        ·rename_i d e' h3
         split at hf
         ·cases hf
         ·rename_i ds' es' h4
          cases j with
          | zero=>
           simp at hc;subst hc
           cases c0 <;> first | rfl | (simp [ia] at h3)
          | succ j=>exact ih h4 j c (by simpa using hc)
      exact this hfz j c hc
     obtain⟨c1,c2,c3⟩:=hvz.cells hok
     obtain⟨m1,m2,m3,m4⟩:=ip hM (xs:=(a.eval z).cells.toList) ⟨by simpa using c1,fun j c u hc hu=>c2 j c u hc (by simpa using hu)⟩ hfz
     obtain⟨hso,hst⟩:=m1.ents m _ hm
     have hl:live (aputs T fs) m:=by unfold live;rw [hm];trivial
     rcases hso with ⟨_,hr,_⟩ | ⟨b',off',cap',cells,t',fz,k1,k2,k3,k4,k5,k6,k7,k8,k9,k10⟩
     ·subst hr;simp at h2
     ·rw [hsv] at k2
      simp only [Value.slice.injEq,Option.some.injEq,Addr.mk.injEq,and_true] at k2
      obtain⟨⟨rfl,rfl⟩,hlen,rfl⟩:=k2
      have hrow:=k8 _ (List.mem_of_getElem? (lJ h2))
      have hin:i*s'+s'<=cap*s':=by
       have:(i+1)*s'<=cap*s':=Nat.mul_le_mul_right _ (by omega)
       rwa [Nat.add_mul,Nat.one_mul] at this
      rw [hst] at hv
      have hrun:=sj (w:=w) ho hs hv (by rw [c1,h1]) k3 (by omega) (fun j hj=>k7 _ (by omega) (by omega)) c3
      have hlz:(a.eval z).cells.toList.length=s:=by simp [c1,h1]
      have hfit:o'+i*s'+off+(a.eval z).cells.toList.length<=cells.toList.length:=by rw [hlz];simp;omega
      have hds:ds.length=s:=by rw [m3,h1]
      obtain⟨q1,q2⟩:=m1.write (e:=.own s' (rows.set i (splice (cv rows i) off ds))) hl k1 trivial (gM w b _) (by simp) (fun hK=>by
       refine⟨.inr ⟨b,o',cap,(splice cells.toList (o'+i*s'+off) (a.eval z).cells.toList).toArray,t',fz,k1,by rw [hsv,hlen];simp,setRow_heap w b cells _ t' _ k3,by simpa using k4,k5,by rw [List.size_toArray,cN hfit];simpa using k6,k7,fun r hr=>?_,k9,fun p j r d hr hdd=>?_⟩,hst⟩
       ·rcases List.mem_or_eq_of_mem_set hr with hr | rfl
        ·exact k8 r hr
        ·rw [cN (by omega),hrow]
       ·have hget:(splice cells.toList (o'+i*s'+off) (a.eval z).cells.toList).toArray[o'+p*s'+j]?=if o'+i*s'+off<=o'+p*s'+j/\o'+p*s'+j < o'+i*s'+off+s then (a.eval z).cells.toList[o'+p*s'+j - (o'+i*s'+off)]? else cells[o'+p*s'+j]?:=by
         rw [List.getElem?_toArray,eL hfit,hlz]
         simp only [Array.getElem?_toList]
        rw [hget]
        rw [List.getElem?_set] at hr
        by_cases hp:i=p
        ·subst hp
         simp only [h2,if_true,Option.some.injEq] at hr
         subst hr
         rw [eL (by omega),hds] at hdd
         by_cases hj:off<=j/\j < off+s
         ·rw [if_pos hj] at hdd
          rw [if_pos (by omega),show o'+i*s'+j - (o'+i*s'+off)=j - off by omega]
          obtain⟨u,hu⟩:∃ u,(a.eval z).cells.toList[j - off]?=some u:=⟨(a.eval z).cells.toList[j - off]'(by omega),by simp⟩
          exact⟨u,hu,hK.d _ _ (m4 _ d u hdd hu)⟩
         ·rw [if_neg hj] at hdd
          rw [if_neg (by omega)]
          obtain⟨c,hc,hx⟩:=k10 i j _ d (lJ h2) hdd
          exact⟨c,hc,hK.d _ _ hx⟩
        ·simp only [hp,if_false] at hr
         have hjl:j < s':=by rw [<- k8 r (List.mem_of_getElem? hr)];exact (List.getElem?_eq_some_iff.1 hdd).1
         rw [if_neg]
         ·obtain⟨c,hc,hx⟩:=k10 p j r d hr hdd
          exact⟨c,hc,hK.d _ _ hx⟩
         ·intro ⟨e1,e2⟩
          exact V8 (Ne.symm hp) hjl (m:=p*s'+j - i*s') (by omega) (by omega))
      exact aR.skip hd hrun (Res.trans m2 ⟨g,q1,q2,_,rfl,rfl⟩)
    ·cases he
   ·cases he
  ·cases he
 ·cases he
end Go.AM

namespace Go.AM
open Go.RowKit
variable {P:Program}{E:Env}{w0:fB P}{w w':World}{N0:Nat->Prop}{g g':Gh}{T T':Tab}{r:Option Nat}{n:Nat}{o:Oper}{a:Act}{ρ:Operand->AV}{dst:Nat}
 {y:AV} {es:List (Nat × aC)}
theorem cR.append {N:Nat->Prop}{sz:Nat}{rows rows2:List (List DC)}{A B:List Value}(h:cR w N sz rows A)(k:cR w N sz rows2 B):cR w N sz (rows++rows2) (A++B):=by
 refine⟨by simp [h.1,k.1,Nat.add_mul],fun r hr=>?_,fun i j r d hr hd=>?_⟩
 ·rcases List.mem_append.1 hr with hr | hr
  ·exact h.2.1 r hr
  ·exact k.2.1 r hr
 ·rw [List.getElem?_append] at hr
  split at hr
  ·rename_i hi
   have hj:j < sz:=by rw [<- h.2.1 r (List.mem_of_getElem? hr)];exact (List.getElem?_eq_some_iff.1 hd).1
   obtain⟨c,hc,hx⟩:=h.2.2 i j r d hr hd
   rw [List.getElem?_append_left (by rw [h.1];exact rc hi hj)]
   exact⟨c,hc,hx⟩
  ·rename_i hi
   obtain⟨c,hc,hx⟩:=k.2.2 (i - rows.length) j r d hr hd
   have e:i*sz+j - A.length=(i - rows.length)*sz+j:=by
    rw [h.1]
    have:i*sz=rows.length*sz+(i - rows.length)*sz:=by rw [<- Nat.add_mul];congr 1;omega
    omega
   rw [List.getElem?_append_right (by rw [h.1];have:=Nat.mul_le_mul_right sz (show rows.length<=i by omega);omega),e]
   exact⟨c,hc,hx⟩
theorem cR.one {N:Nat->Prop}{sz:Nat}{rows:List (List DC)}{A:List Value}(h:cR w N sz rows A)(h0:0 < sz):∀ v ∈ A,v.oneCell'=true:=by
 intro v hv
 obtain⟨k,hk⟩:=List.mem_iff_getElem?.1 hv
 have hlt:k < rows.length*sz:=by rw [<- h.1];exact (List.getElem?_eq_some_iff.1 hk).1
 have hi:k / sz < rows.length:=Nat.div_lt_of_lt_mul (by rw [Nat.mul_comm];exact hlt)
 have hj:k % sz < sz:=Nat.mod_lt _ h0
 have hr:rows[k / sz]?=some rows[k / sz]:=by simp [hi]
 have hlen:=h.2.1 _ (List.mem_of_getElem? hr)
 have hd:rows[k / sz][k % sz]?=some (rows[k / sz][k % sz]'(by omega)):=by simp
 obtain⟨c,hc,hx⟩:=h.2.2 _ _ _ _ hr hd
 rw [Nat.mul_comm,Nat.div_add_mod,hk] at hc
 simp only [Option.some.injEq] at hc
 subst hc
 exact hx.one
theorem wk {N:Nat->Prop}{sz:Nat}{rows:List (List DC)}{b off:Nat}(h0:0 < sz)(hl:∀ r ∈ rows,r.length=sz)
  (hc:∀ (i j:Nat) (r:List DC) (d:DC),rows[i]?=some r->r[j]?=some d->∃ c,w.cell? ⟨b,off+i*sz+j,none⟩=some c/\aL w N d c) :
  ∃ A:Array Value,(loadCells ⟨b,off,none⟩ (rows.length*sz)).run P w=.ok A w/\cR w N sz rows A.toList:=by
 have key:∀ k,k < rows.length*sz->∃ r d,rows[k / sz]?=some r/\r[k % sz]?=some d:=fun k hk=>by
  have hi:k / sz < rows.length:=Nat.div_lt_of_lt_mul (by rw [Nat.mul_comm];exact hk)
  have hj:k % sz < sz:=Nat.mod_lt _ h0
  have hr:rows[k / sz]?=some rows[k / sz]:=by simp [hi]
  have hlen:=hl _ (List.mem_of_getElem? hr)
  exact⟨_,_,hr,by rw [List.getElem?_eq_getElem (by omega)]⟩
 have hcell:∀ k,k < rows.length*sz->∃ c,w.cell? ⟨b,off+k,none⟩=some c:=fun k hk=>by
  obtain⟨r,d,hr,hd⟩:=key k hk
  obtain⟨c,hc,_⟩:=hc _ _ r d hr hd
  rw [Nat.add_assoc,Nat.mul_comm,Nat.div_add_mod] at hc
  exact⟨c,hc⟩
 refine⟨((List.range (rows.length*sz)).map fun k=>(w.cell? ⟨b,off+k,none⟩).getD undef).toArray,?_,by simp,hl,fun i j r d hr hd=>?_⟩
 ·refine run_loadCells w _ _ _ fun j hj=>?_
  obtain⟨c,hc⟩:=hcell j hj
  rw [fy,hc];rfl
 ·have hi:=(List.getElem?_eq_some_iff.1 hr).1
  have hj:j < sz:=by rw [<- hl r (List.mem_of_getElem? hr)];exact (List.getElem?_eq_some_iff.1 hd).1
  obtain⟨c,hc,hx⟩:=hc i j r d hr hd
  refine⟨c,?_,hx⟩
  have hlt:=rc hi hj
  rw [Nat.add_assoc] at hc
  simp [hlt,hc]
theorem gl (hM:Mem w0 N0 g T w){x:AV}{rows:List (List DC)}{v:Value}{sz:Nat}(h0:0 < sz)(hx:aH w (ap N0 g T) g T x v)(h:iD T x=some rows)(hall:cC sz rows=true) :
  ∃ (ad:Option Addr) (cap:Nat) (A:Array Value),v=.slice ad rows.length cap/\(Builtin.firstCells sz rows.length v).run P w=.ok A w/\cR w (ap N0 g T) sz rows A.toList:=by
 obtain⟨ad,cap,hv,hr⟩:=vw hM hx h
 have hl:=jT hall
 rcases hr with rfl | ⟨b,off,s,rfl,hb,hs,hls,hc⟩
 ·refine⟨ad,cap,#[],hv,?_,by simp,by simp,by simp⟩
  subst hv
  cases ad with
  | none=>rfl
  | some ad=>
   have:=run_loadCells_list (P:=P) w ad [] (by simp)
   simpa [Builtin.firstCells] using this
 ·by_cases hne:rows=[]
  ·subst hne
   refine⟨_,cap,#[],hv,?_,by simp,by simp,by simp⟩
   subst hv
   have:=run_loadCells_list (P:=P) w ⟨b,off,none⟩ [] (by simp)
   simpa [Builtin.firstCells] using this
  ·obtain⟨r0,rest,rfl⟩:=List.exists_cons_of_ne_nil hne
   have:s=sz:=by rw [<- hls r0 (by simp),hl r0 (by simp)]
   subst this
   obtain⟨A,hA,hR⟩:=wk (P:=P) hs hls hc
   exact⟨_,cap,A,hv,by subst hv;exact hA,hR⟩
theorem fC {t u e:TypeId}{ty:TypeId}{i:TypeInfo}{z:Value}(ht:P.underlying t=some (.slice e))(hu:P.underlying u=some (.slice e))(hi:P.info? e=some i)(hz:r9 P e=some z)
  {base:Option Addr} {sLen sCap m:Nat} {x:Value} (hx:(Builtin.lenOf x).run P w=.ok m w) (hneed:sCap < sLen+m) (hbytes:(sLen+m)*i.bytes<=140737488355328)
  {old news:Array Value} (ho:(Builtin.firstCells i.size sLen (.slice base sLen sCap)).run P w.drew=.ok old w.drew) (hn:(Builtin.firstCells i.size m x).run P w.drew=.ok news w.drew) (hmax:sLen+m<=9223372036854775807) :
  (Builtin.append_ #[t,u] ty #[.slice base sLen sCap,x]).run P w=
   .ok (.slice (some ⟨w.heap.size,0,none⟩) (sLen+m) (grownCap w (sLen+m) sCap e)) (w.drew.alloc (.cells (old++news++Builtin.zeroCells z.cells (grownCap w (sLen+m) sCap e - (sLen+m))) e)):=by
 have hfit:=growslice_fits hneed hbytes
 have h1:¬ sLen+m<=sCap:=by omega
 have h2:¬ Builtin.nextslicecap (sLen+m) sCap*i.bytes > 2 ^ 48:=by omega
 have h3:¬ ((sLen+m:Nat):Int) > IntKind.i64.max:=by simp [IntKind.max,IntKind.signed,IntKind.bits];omega
 have hzz:=dK hz w.drew
 simp only [Builtin.append_]
 simp [run_underlying ht,run_underlying hu,sizeOf,typeInfo,hi,hx,h1,h2,Question.forced,ho,hn,hzz,newRow,grownCap]
 simp at h3
 omega
theorem wi {t u e:TypeId}{ty:TypeId}{i:TypeInfo}(ht:P.underlying t=some (.slice e))(hu:P.underlying u=some (.slice e))(hi:P.info? e=some i)
  {b off sLen sCap m:Nat} {x:Value} (hx:(Builtin.lenOf x).run P w=.ok m w) (hneed:sLen+m<=sCap)
  {news:Array Value} (hn:(Builtin.firstCells i.size m x).run P w=.ok news w) {cur:Array Value} {te:TypeId} {fz:Nat × Nat} (hg:w.heap[b]?=some (.cells cur te fz)) (hfit:off+sLen*i.size+news.size<=cur.size)
  (hf:∀ j,j < news.size->(decide (fz.1<=off+sLen*i.size+j) && decide (off+sLen*i.size+j < fz.2))=false) (h1:∀ v ∈ news.toList,v.oneCell'=true) :
  (Builtin.append_ #[t,u] ty #[.slice (some ⟨b,off,none⟩) sLen sCap,x]).run P w=
   .ok (.slice (some ⟨b,off,none⟩) (sLen+m) sCap) (w.setRow b (splice cur.toList (off+sLen*i.size) news.toList).toArray):=by
 have hst:=eJ P b (off+sLen*i.size) te fz news.toList 0 cur w hg (by simpa using hfit) (by simpa using hf) h1
 simp only [Nat.add_zero] at hst
 simp [Builtin.append_,run_underlying ht,run_underlying hu,sizeOf,typeInfo,hi,hx,hneed,hn,fy,hst]
theorem mV {t u e:TypeId}{ty:TypeId}{i:TypeInfo}(ht:P.underlying t=some (.slice e))(hu:P.underlying u=some (.slice e))(hi:P.info? e=some i)
  {x:Value} (hx:(Builtin.lenOf x).run P w=.ok 0 w) {news:Array Value} (hn:(Builtin.firstCells i.size 0 x).run P w=.ok news w) :
  (Builtin.append_ #[t,u] ty #[.slice none 0 0,x]).run P w=.ok (.slice none 0 0) w:=by
 simp [Builtin.append_,run_underlying ht,run_underlying hu,sizeOf,typeInfo,hi,hx,hn]
theorem xu {t u e:TypeId}{ty:TypeId}{i:TypeInfo}(ht:P.underlying t=some (.slice e))(hu:P.underlying u=some (.slice e))(hi:P.info? e=some i)
  {x:Value} {base:Option Addr} {sLen sCap:Nat} (hx:(Builtin.lenOf x).run P w=.ok 0 w) (hn:(Builtin.firstCells i.size 0 x).run P w=.ok #[] w) (hle:sLen<=sCap) :
  (Builtin.append_ #[t,u] ty #[.slice base sLen sCap,x]).run P w=.ok (.slice base sLen sCap) w:=by
 cases base with
 | none=>simp [Builtin.append_,run_underlying ht,run_underlying hu,sizeOf,typeInfo,hi,hx,hn,hle]
 | some b=>simp [Builtin.append_,run_underlying ht,run_underlying hu,sizeOf,typeInfo,hi,hx,hn,hle,storeCells]
theorem cX {v:Value}{sz k:Nat}{A:Array Value}(h:(Builtin.firstCells sz k v).run P w=.ok A w):(Builtin.firstCells sz k v).run P w.drew=.ok A w.drew:=by
 unfold Builtin.firstCells at *
 split at h
 ·rename_i ad _ _
  have key:∀ (n i:Nat) (acc:Array Value) (A:Array Value),(loadCellsFrom ad i n acc).run P w=.ok A w->(loadCellsFrom ad i n acc).run P w.drew=.ok A w.drew:=by
   intro n
   induction n with
   | zero=>intro i acc A h;simp only [loadCellsFrom,Sem.run_pure,Result.ok.injEq] at h ⊢;exact⟨h.1,trivial⟩
   | succ n ih=>
    intro i acc A h
    simp only [loadCellsFrom,Sem.run_bind,run_load,World.cell?_drew] at h ⊢
    cases hc:w.cell? (ad.add i) with
    | some x=>simp only [hc,Result.andThen_ok] at h ⊢;exact ih _ _ _ h
    | none=>
     simp only [hc] at h ⊢
     have e:w.drew.farLoad P (ad.add i) (Mode.plain == Mode.atomic)=w.farLoad P (ad.add i) (Mode.plain == Mode.atomic):=rfl
     rw [e]
     cases hf:w.farLoad P (ad.add i) (Mode.plain == Mode.atomic) with
     | ok p=>simp only [hf,Result.andThen_ok] at h ⊢;exact ih _ _ _ h
     | error h'=>simp only [hf,Result.andThen_halt] at h;cases h
  exact key _ _ _ _ h
 ·simp only [Sem.run_pure,Result.ok.injEq] at h ⊢;exact⟨h.1,trivial⟩
 ·simp only [Sem.run_pure,Result.ok.injEq] at h ⊢;exact⟨h.1,trivial⟩
 ·cases h
theorem aL.heap {N:Nat->Prop}{d:DC}{v:Value}(h:aL w N d v)(hs:w'.heap=w.heap):aL w' N d v:=h.mono (by rw [hs];exact Nat.le_refl _) (fun b _ _=>by rw [hs]) (fun _ _ h=>h)
theorem Tj {x y:AV}{l l2:List (Nat × Nat)}(h:ad4 x y=some (l,l2)):bO x=some (.psl l)/\bO y=some (.psl l2):=by
 unfold ad4 at h
 split at h
 ·cases h;exact⟨by assumption,by assumption⟩
 ·cases h
theorem nX:∀ {l:List (Nat × Nat)} {bs:List Nat} (l2:List (Nat × Nat)) (bs2:List Nat),bs.length=l.length->bq (l++l2) (bs++bs2)=bq l bs++bq l2 bs2
 | [],[],_,_,_=>rfl
 | [],_::_,_,_,h=>by simp at h
 | _::_,[],_,_,h=>by simp at h
 | p::l,b::bs,l2,bs2,h=>by simp only [List.cons_append,bq,nX l2 bs2 (l:=l) (bs:=bs) (by simpa using h)]
theorem ny:∀ (l:List (Nat × Nat)) (bs:List Nat),cC 1 (bq l bs)=true
 | [],_=>by simp [bq,cC]
 | _::_,[]=>by simp [bq,cC]
 | p::l,b::bs=>by
  have:=ny l bs
  simp only [cC] at this
  simp [bq,cC,this]
theorem KR (hM:Mem w0 N0 g T w){l l2:List (Nat × Nat)}{v1 v2:Value}(h1:cF w (ap N0 g T) g T (.psl l) v1)(h2:cF w (ap N0 g T) g T (.psl l2) v2)(_:0 < l2.length)(hlt:l.length < yY)(hge:yY<=l.length+l2.length) :
  ∃ (base ad:Option Addr) (cap2:Nat) (A B:Array Value),v1=.slice base l.length l.length/\v2=.slice ad l2.length cap2/\(Builtin.firstCells 1 l.length v1).run P w=.ok A w/\(Builtin.firstCells 1 l2.length v2).run P w=.ok B w /\
   ∀ (Z:Array Value) (cap:Nat) (te:TypeId),l.length+l2.length<=cap->Res w0 N0 g T w (.val false [.psl (l++l2)]) [] (.slice (some ⟨w.heap.size,0,none⟩) (l.length+l2.length) cap) (w.drew.alloc (.cells (A++B++Z) te)):=by
 obtain⟨bs,⟨q1,qf⟩,q2,q3⟩:=h1
 obtain⟨bs2,⟨r1,_⟩,r2,r3⟩:=h2
 obtain⟨base,hv1⟩:=qf hlt
 have len1:=eA q1
 have len2:=eA r1
 obtain⟨_,_,A,a1,a2,a3⟩:=gl (P:=P) hM (x:=.val false [.d (.sl (bq l bs))]) (v:=v1) (sz:=1) (by decide) ⟨_,rfl,q3⟩ rfl (ny l bs)
 obtain⟨ad,cap2,B,b1,b2,b3⟩:=gl (P:=P) hM (x:=.val false [.d (.sl (bq l2 bs2))]) (v:=v2) (sz:=1) (by decide) ⟨_,rfl,r3⟩ rfl (ny l2 bs2)
 rw [len1] at a2
 rw [len2] at b1 b2
 refine⟨base,ad,cap2,A,B,hv1,b1,a2,b2,fun Z cap te hcap=>?_⟩
 have hR:=a3.append b3
 rw [<- nX l2 bs2 q1] at hR
 obtain⟨hM1,hK1⟩:=hM.grow0 (w':=w.drew.alloc (.cells (A++B++Z) te)) (((Below.refl _ w).drew).alloc (Nat.le_refl _) _)
 have hl12:(bs++bs2).length=(l++l2).length:=by simp [q1,r1]
 have hrl:(bq (l++l2) (bs++bs2)).length=l.length+l2.length:=by rw [eA hl12];simp
 have hn0:¬ ap N0 g T w.heap.size:=fun h=>by have:=lA hM h;omega
 have hsize:(A++B).size=l.length+l2.length:=by
  have:=hR.1
  rw [hrl] at this
  simpa using this
 refine⟨g,hM1,hK1,_,rfl,bs++bs2,⟨hl12,fun h=>by simp at h;omega⟩,fun i p b hp hb=>?_,?_⟩
 ·by_cases hi:i < l.length
  ·rw [List.getElem?_append_left hi] at hp
   rw [List.getElem?_append_left (by omega)] at hb
   exact q2 i p b hp hb
  ·rw [List.getElem?_append_right (by omega)] at hp
   rw [List.getElem?_append_right (by omega),q1] at hb
   exact r2 _ p b hp hb
 ·suffices hDR:aL (w.drew.alloc (.cells (A++B++Z) te)) (ap N0 g T) (.sl (bq (l++l2) (bs++bs2))) (.slice (some ⟨w.heap.size,0,none⟩) (bq (l++l2) (bs++bs2)).length cap) by rw [hrl] at hDR;exact hDR
  refine aL.sl (sz:=1) (off:=0) (fun i j=>((A++B)[i+j]?).getD undef) (by rw [hrl];omega) hn0 (by rw [show (w.drew.alloc (.cells (A++B++Z) te)).heap=w.heap.push (.cells (A++B++Z) te) from rfl];simp) (by decide) (fun r hr=>hR.2.1 r hr) (by rw [hrl];exact hcap) (fun i j hi hj=>?_) (fun i j r d hr hd=>?_)
  ·rw [hrl] at hi
   have hlt:i+j < (A++B).size:=by omega
   have hnew:(w.drew.alloc (.cells (A++B++Z) te)).heap[w.heap.size]?=some (.cells (A++B++Z) te (0,0)):=Iw w.drew _
   simp only [World.cell?,hnew,Nat.mul_one,Nat.zero_add]
   rw [Array.getElem?_append_left hlt]
   rw [Array.getElem?_eq_getElem hlt]
   rfl
  ·obtain⟨c,hc1,hc2⟩:=hR.2.2 i j r d hr hd
   rw [Nat.mul_one,<- Array.toList_append,Array.getElem?_toList] at hc1
   rw [hc1]
   exact hK1.d _ _ hc2
theorem RJ (hM:Mem w0 N0 g T w)(hρ:∀ x,aH w (ap N0 g T) g T (ρ x) (a.eval x)){c:Call}{p q:Operand}{t u e:TypeId}{i:TypeInfo}{z:Value}(ho:o.op=.call c)(hc:c.callee=.builtin .append)
  (ha:c.args.toList=[p,q]) (hat:c.argTypes.toList=[t,u]) (ht:mX P t=some e) (hu:mX P u=some e) (hi:P.info? e=some i) (hz:r9 P e=some z) (hzs:z.cells.size=i.size) (h0:0 < i.size)
  (he:eff P E T ρ dst (.append i.size i.bytes p q)=some (y,es)):aR r n P o a w (Res w0 N0 g T w y es):=by
 have hd:∀ c,o.op ≠ .defer c:=fun c h=>by rw [ho] at h;cases h
 have ha':c.args=#[p,q]:=by rw [<- Array.toArray_toList (xs:=c.args),ha]
 have hat':c.argTypes=#[t,u]:=by rw [<- Array.toArray_toList (xs:=c.argTypes),hat]
 have hexec:∀ {v:Value} {w'':World},(Builtin.append_ #[t,u] o.type #[a.eval p,a.eval q]).run P w=.ok v w''->(execOp a.eval o).run P w=.ok (.value v) w'':=fun h=>by
  simp [execOp,ho,resolve,hc,invoke,builtin,ha',hat',h]
 have ht':=fo ht
 have hu':=fo hu
 have hsz:bE P e=some i.size:=by simp [bE,hi]
 simp only [eff] at he
 split at he
 ·rename_i l l2 hpp
  split at he
  ·rename_i hcond
   obtain⟨hs1,hpos,hlt,hge,hby,hmx⟩:=hcond
   simp only [Option.some.injEq,Prod.mk.injEq] at he
   obtain⟨rfl,rfl⟩:=he
   obtain⟨e1,e2⟩:=Tj hpp
   obtain⟨base,ad,cap2,A,B,k1,k2,k3,k4,k5⟩:=KR (P:=P) hM (aJ (hρ p) e1) (aJ (hρ q) e2) hpos hlt hge
   have hlen:(Builtin.lenOf (a.eval q)).run P w=.ok l2.length w:=by rw [k2];rfl
   rw [<- hs1] at k3 k4
   have k3':=cX k3
   rw [k1] at k3'
   have hrun:=fC (ty:=o.type) ht' hu' hi hz (base:=base) (sLen:=l.length) (sCap:=l.length) hlen (by omega) hby k3' (cX k4) hmx
   rw [<- k1] at hrun
   exact aR.value hd (hexec hrun) (k5 _ _ _ (grownCap_ge w (l.length+l2.length) l.length e))
  ·cases he
 split at he
 ·rename_i rows2 hr2
  split at he
  ·rename_i hp
   split at he
   ·rename_i hcond
    obtain⟨hall,hby,hmx,hf⟩:=hcond
    simp only [Option.some.injEq,Prod.mk.injEq] at he
    obtain⟨rfl,rfl⟩:=he
    obtain⟨ad,cap,A,hv,hA,hR⟩:=gl (P:=P) hM h0 (hρ q) hr2 hall
    have hlen:(Builtin.lenOf (a.eval q)).run P w=.ok rows2.length w:=by rw [hv];rfl
    have hpv:a.eval p=.slice none 0 0:=aJ (hρ p) hp
    by_cases hm:rows2.length=0
    ·have hrn:rows2=[]:=List.eq_nil_of_length_eq_zero hm
     subst hrn
     have hrun:=mV (ty:=o.type) ht' hu' hi (x:=a.eval q) (by simpa using hlen) (by simpa using hA)
     rw [<- hpv] at hrun
     have hn:=bX hf
     obtain⟨q1,q2⟩:=hM.create (w':=w) (e:=.own i.size []) (ob:=none) (sv:=.slice none 0 0) (s:=i.size) hn (Below.refl _ _) (fun b hb=>by cases hb) (fun hK=>⟨.inl ⟨by simp [Gh.set],rfl,by simp [Gh.set]⟩,by simp [Gh.set]⟩)
     exact aR.value hd (hexec hrun) ⟨_,q1,q2,_,rfl,by rw [show aputs T [(dst,aC.own i.size [])]=aput T dst (.own i.size []) from rfl,bf];rfl,by simp [Gh.set,hpv],_,_,_,hpv⟩
    ·have hrun:=fC (ty:=o.type) ht' hu' hi hz (base:=none) (sLen:=0) (sCap:=0) hlen (by omega) (by simpa using hby) (old:=#[]) (by rfl) (cX hA) (by omega)
     rw [<- hpv] at hrun
     have hcapn:=grownCap_ge w (0+rows2.length) 0 e
     have hcapm:=grownCap_le_maxLen w (0+rows2.length) 0 e (by unfold maxLen;omega)
     have hzc:(Builtin.zeroCells z.cells (grownCap w (0+rows2.length) 0 e - (0+rows2.length))).size=(grownCap w (0+rows2.length) 0 e - (0+rows2.length))*i.size:=by rw [size_zeroCells,hzs]
     have hAs:A.size=rows2.length*i.size:=by simpa using hR.1
     refine aR.value hd (hexec hrun) ?_
     simp only [Nat.zero_add] at hcapn hcapm hzc ⊢
     refine Res.newSlice hM hf rfl hcapn hcapm ?_ h0 hR.2.1 (fun k j r d hr hdd=>?_) (((Below.refl _ w).drew).alloc (Nat.le_refl _) _) rfl
     ·rw [Array.size_append,Array.size_append,hzc,hAs]
      simp only [Array.size_empty,Nat.zero_add]
      rw [<- Nat.add_mul]
      exact Nat.mul_le_mul_right _ (by omega)
     ·obtain⟨c,hcc,hx⟩:=hR.2.2 k j r d hr hdd
      refine⟨c,?_,hx⟩
      rw [Array.getElem?_toList] at hcc
      have hlt:=(Array.getElem?_eq_some_iff.1 hcc).1
      simp only [Array.empty_append]
      rw [Array.getElem?_append_left hlt]
      exact hcc
   ·cases he
  ·rename_i m hp
   obtain⟨hsome,hpv,_⟩:=aJ (hρ p) hp
   split at he
   ·rename_i s rows hm
    split at he
    ·rename_i hcond
     obtain⟨rfl,hall,hby,hmx,hf⟩:=hcond
     simp only [Option.some.injEq,Prod.mk.injEq] at he
     obtain⟨rfl,rfl⟩:=he
     obtain⟨ad,cap2,A,hv,hA,hR⟩:=gl (P:=P) hM h0 (hρ q) hr2 hall
     have hlen:(Builtin.lenOf (a.eval q)).run P w=.ok rows2.length w:=by rw [hv];rfl
     obtain⟨hso,hst⟩:=hM.ents m _ hm
     have hne:dst ≠ m:=fun h=>by subst h;rw [hm] at hf;simp at hf
     have hf1:aj (aput T m .dead) dst=none:=by rw [br _ _ hne];exact bX hf
     have hAs:A.size=rows2.length*i.size:=by simpa using hR.1
     have hget:∀ X:aC,aj (aputs T [(m,aC.dead),(dst,X)]) dst=some X:=fun X=>bf _ _ _
     -- a new block: the old name is let go first
     have fresh:∀ {base:Option Addr} {sCap:Nat} {old:Array Value},g.sv m=.slice base rows.length sCap->sCap < rows.length+rows2.length->(Builtin.firstCells i.size rows.length (.slice base rows.length sCap)).run P w=.ok old w ->
       cR w (ap N0 g T) i.size rows old.toList->aR r n P o a w (Res w0 N0 g T w (.val false [.ref dst]) [(m,.dead),(dst,.own i.size (rows++rows2))]):=by
      intro base sCap old hsv hcap hold hRo
      have hrun:=fC (ty:=o.type) ht' hu' hi hz (base:=base) (sLen:=rows.length) (sCap:=sCap) hlen hcap hby (cX hold) (cX hA) (by omega)
      rw [<- hsv,<- hpv] at hrun
      have hcapn:=grownCap_ge w (rows.length+rows2.length) sCap e
      have hcapm:=grownCap_le_maxLen w (rows.length+rows2.length) sCap e (by unfold maxLen;omega)
      have hzc:(Builtin.zeroCells z.cells (grownCap w (rows.length+rows2.length) sCap e - (rows.length+rows2.length))).size=(grownCap w (rows.length+rows2.length) sCap e - (rows.length+rows2.length))*i.size:=by rw [size_zeroCells,hzs]
      obtain⟨q1,q2⟩:=hM.retire (n:=m) (e:=.dead) (eV hm) trivial (fun _=>trivial)
      have hRR:=(hRo.append hR).keeps q2
      refine aR.value hd (hexec hrun) (Res.trans (fs:=[(m,.dead)]) q2 ?_)
      refine Res.newSlice q1 (by rw [hf1];rfl) (by simp) hcapn hcapm ?_ h0 hRR.2.1 (fun k j r d hr hdd=>?_) (((Below.refl _ w).drew).alloc (Nat.le_refl _) _) rfl
      ·have hos:old.size=rows.length*i.size:=by simpa using hRo.1
       rw [Array.size_append,Array.size_append,hzc,hAs,hos,<- Nat.add_mul,<- Nat.add_mul]
       exact Nat.mul_le_mul_right _ (by omega)
      ·obtain⟨c,hcc,hx⟩:=hRR.2.2 k j r d hr hdd
       refine⟨c,?_,hx⟩
       rw [<- Array.toList_append,Array.getElem?_toList] at hcc
       rw [Array.getElem?_append_left (Array.getElem?_eq_some_iff.1 hcc).1]
       exact hcc
     rcases hso with ⟨hsv,hrn,hbn⟩ | ⟨b,off,cap,cells,tt,fz,k1,k2,k3,k4,k5,k6,k7,k8,k9,k10⟩
     ·subst hrn
      by_cases hm0:rows2.length=0
      ·have hrn2:rows2=[]:=List.eq_nil_of_length_eq_zero hm0
       subst hrn2
       have hrun:=mV (ty:=o.type) ht' hu' hi (x:=a.eval q) (by simpa using hlen) (by simpa using hA)
       rw [<- hsv,<- hpv] at hrun
       obtain⟨q1,q2⟩:=hM.move (dst:=dst) (rows':=[]) (v:=.slice none 0 0) hm (bX hf) (w':=w) ⟨rfl,rfl,rfl,Nat.le_refl _,fun _ _ _=>rfl⟩ rfl (fun hK=>.inl ⟨rfl,rfl,hbn⟩)
       refine aR.value hd (hexec hrun) ⟨_,q1,q2,_,rfl,by simp only [List.append_nil];rw [hget];rfl,by simp [Gh.set,hpv,hsv],_,_,_,by rw [hpv,hsv]⟩
      ·exact fresh hsv (by simp;omega) (by rfl) ⟨by simp,by simp,by simp⟩
     ·by_cases hroom:rows.length+rows2.length<=cap
      ·have hAl:A.toList.length=rows2.length*i.size:=by simpa using hAs
       have hmul:rows.length*i.size+rows2.length*i.size<=cap*i.size:=by rw [<- Nat.add_mul];exact Nat.mul_le_mul_right _ hroom
       have hrun:=wi (w:=w) (ty:=o.type) ht' hu' hi (x:=a.eval q) (b:=b) (off:=off) hlen hroom hA k3 (by omega) (fun j hj=>k7 _ (by omega) (by omega)) (hR.one h0)
       rw [<- k2,<- hpv] at hrun
       have hfit:off+rows.length*i.size+A.toList.length<=cells.toList.length:=by rw [hAl];simp;omega
       obtain⟨q1,q2⟩:=hM.move (dst:=dst) (rows':=rows++rows2) (v:=.slice (some ⟨b,off,none⟩) (rows.length+rows2.length) cap) hm (bX hf) (w':=w.setRow b (splice cells.toList (off+rows.length*i.size) A.toList).toArray) (by rw [k1];exact gM w b _) (by simp) (fun hK=>by
        refine .inr ⟨b,off,cap,(splice cells.toList (off+rows.length*i.size) A.toList).toArray,tt,fz,k1,by simp,setRow_heap w b cells _ tt _ k3,by simpa using hroom,k5,by rw [List.size_toArray,cN hfit];simpa using k6,k7,fun r hr=>?_,k9,fun p j r d hr hdd=>?_⟩
        ·rcases List.mem_append.1 hr with hr | hr
         ·exact k8 r hr
         ·exact hR.2.1 r hr
        ·rw [List.getElem?_toArray,eL hfit,hAl]
         rw [List.getElem?_append] at hr
         split at hr
         ·rename_i hpl
          have hjl:j < i.size:=by rw [<- k8 r (List.mem_of_getElem? hr)];exact (List.getElem?_eq_some_iff.1 hdd).1
          have:=rc hpl hjl
          rw [if_neg (by omega)]
          obtain⟨c,hc',hx⟩:=k10 p j r d hr hdd
          exact⟨c,by simpa using hc',hK.d _ _ hx⟩
         ·rename_i hpl
          have hjl:j < i.size:=by rw [<- hR.2.1 r (List.mem_of_getElem? hr)];exact (List.getElem?_eq_some_iff.1 hdd).1
          have hp2:=(List.getElem?_eq_some_iff.1 hr).1
          have h5:=rc hp2 hjl
          have h6:p*i.size=rows.length*i.size+(p - rows.length)*i.size:=by rw [<- Nat.add_mul];congr 1;omega
          rw [if_pos (by omega),show off+p*i.size+j - (off+rows.length*i.size)=(p - rows.length)*i.size+j by omega]
          obtain⟨c,hc',hx⟩:=hR.2.2 (p - rows.length) j r d hr hdd
          exact⟨c,hc',hK.d _ _ hx⟩)
       exact aR.value hd (hexec hrun) ⟨_,q1,q2,_,rfl,by rw [hget];rfl,by simp [Gh.set],_,_,_,rfl⟩
      ·obtain⟨B,hB,hRB⟩:=wk (P:=P) (w:=w) (N:=ap N0 g T) (b:=b) (off:=off) k9 k8 (fun p j r d hr hdd=>by obtain⟨c,hc',hx⟩:=k10 p j r d hr hdd;exact⟨c,by simp [World.cell?,k3,hc'],hx⟩)
       exact fresh k2 (by omega) hB hRB
    ·cases he
   ·cases he
  ·rename_i l hp
   split at he
   ·rename_i hem
    simp only [Option.some.injEq,Prod.mk.injEq] at he
    obtain⟨rfl,rfl⟩:=he
    obtain rfl:=List.isEmpty_iff.1 hem
    obtain⟨ad2,cap2,A,hv2,hA,hR⟩:=gl (P:=P) hM h0 (hρ q) hr2 rfl
    have hlen:(Builtin.lenOf (a.eval q)).run P w=.ok 0 w:=by rw [hv2];rfl
    have hA0:A=#[]:=by have:=hR.1;simpa using this
    subst hA0
    have hcl:=aJ (hρ p) hp
    obtain⟨bs,q1,q2,hd'⟩:=hcl
    have hd0:=hd'
    have hpv:∃ ad cap,a.eval p=.slice ad l.length cap/\l.length<=cap:=by
     have hll:=eA q1.1
     generalize a.eval p=v at hd'
     generalize bq l bs=rows at hd' hll
     cases hd' with
     | nil=>rw [<- hll];exact⟨_,_,rfl,Nat.zero_le _⟩
     | sl f hne hN hb hsz hl2 hcap hc hdd=>rw [<- hll];exact⟨_,_,rfl,hcap⟩
    obtain⟨ad,cap,hpv,hcap⟩:=hpv
    have hrun:=xu (P:=P) (w:=w) (ty:=o.type) ht' hu' hi (x:=a.eval q) (base:=ad) hlen (by simpa using hA) hcap
    rw [<- hpv] at hrun
    exact aR.value hd (hexec hrun) (Res.same hM ⟨_,rfl,bs,q1,q2,hd0⟩)
   ·cases he
  ·rename_i rows hp
   split at he
   ·rename_i hcond
    obtain⟨hall1,hall,_,hby,hmx,hf⟩:=hcond
    simp only [Option.some.injEq,Prod.mk.injEq] at he
    obtain⟨rfl,rfl⟩:=he
    obtain⟨ad,cap,A,hv,hA,hR⟩:=gl (P:=P) hM h0 (hρ q) hr2 hall
    have hlen:(Builtin.lenOf (a.eval q)).run P w=.ok rows2.length w:=by rw [hv];rfl
    have hcl:aL w (ap N0 g T) (.csl rows) (a.eval p):=aJ (hρ p) hp
    obtain⟨base,hpv,hsl⟩:∃ base,a.eval p=.slice base rows.length rows.length/\aL w (ap N0 g T) (.sl rows) (.slice base rows.length rows.length):=by
     generalize a.eval p=v at hcl
     cases hcl with
     | csl h=>exact⟨_,rfl,h⟩
    obtain⟨_,_,B,_,hB,hRB⟩:=gl (P:=P) hM (x:=.val false [.d (.sl rows)]) h0 ⟨_,rfl,hsl⟩ rfl hall1
    have hrun:=fC (ty:=o.type) ht' hu' hi hz (base:=base) (sLen:=rows.length) (sCap:=rows.length) hlen (by omega) hby (cX hB) (cX hA) (by omega)
    rw [<- hpv] at hrun
    have hcapn:=grownCap_ge w (rows.length+rows2.length) rows.length e
    have hcapm:=grownCap_le_maxLen w (rows.length+rows2.length) rows.length e (by unfold maxLen;omega)
    have hzc:(Builtin.zeroCells z.cells (grownCap w (rows.length+rows2.length) rows.length e - (rows.length+rows2.length))).size=(grownCap w (rows.length+rows2.length) rows.length e - (rows.length+rows2.length))*i.size:=by rw [size_zeroCells,hzs]
    have hRR:=hRB.append hR
    have hAs:A.size=rows2.length*i.size:=by simpa using hR.1
    have hBs:B.size=rows.length*i.size:=by simpa using hRB.1
    refine aR.value hd (hexec hrun) ?_
    refine Res.newSlice hM hf (by simp) hcapn hcapm ?_ h0 hRR.2.1 (fun k j r d hr hdd=>?_) (((Below.refl _ w).drew).alloc (Nat.le_refl _) _) rfl
    ·rw [Array.size_append,Array.size_append,hzc,hAs,hBs,<- Nat.add_mul,<- Nat.add_mul]
     exact Nat.mul_le_mul_right _ (by omega)
    ·obtain⟨c,hcc,hx⟩:=hRR.2.2 k j r d hr hdd
     refine⟨c,?_,hx⟩
     rw [<- Array.toList_append,Array.getElem?_toList] at hcc
     rw [Array.getElem?_append_left (Array.getElem?_eq_some_iff.1 hcc).1]
     exact hcc
   ·cases he
  ·cases he
 ·cases he
theorem Sj (hM:Mem w0 N0 g T w){x:AV}{rows:List (List DC)}{v:Value}{sz k:Nat}(h0:0 < sz)(hx:aH w (ap N0 g T) g T x v)(h:iD T x=some rows)(hall:cC sz rows=true)(hk:k<=rows.length) :
  ∃ (ad:Option Addr) (cap:Nat) (A:Array Value),v=.slice ad rows.length cap/\(Builtin.firstCells sz k v).run P w=.ok A w/\cR w (ap N0 g T) sz (rows.take k) A.toList:=by
 obtain⟨ad,cap,hv,hr⟩:=vw hM hx h
 have hl:=jT hall
 rcases hr with rfl | ⟨b,off,s,rfl,hb,hs,hls,hc⟩
 ·have hk0:k=0:=by simpa using hk
  subst hk0
  refine⟨ad,cap,#[],hv,?_,by simp,by simp,by simp⟩
  subst hv
  cases ad with
  | none=>rfl
  | some ad=>
   have:=run_loadCells_list (P:=P) w ad [] (by simp)
   simpa [Builtin.firstCells] using this
 ·by_cases hne:rows=[]
  ·subst hne
   have hk0:k=0:=by simpa using hk
   subst hk0
   refine⟨_,cap,#[],hv,?_,by simp,by simp,by simp⟩
   subst hv
   have:=run_loadCells_list (P:=P) w ⟨b,off,none⟩ [] (by simp)
   simpa [Builtin.firstCells] using this
  ·obtain⟨r0,rest,hrr⟩:=List.exists_cons_of_ne_nil hne
   have:s=sz:=by rw [<- hls r0 (by rw [hrr];simp),hl r0 (by rw [hrr];simp)]
   subst this
   obtain⟨A,hA,hR⟩:=wk (P:=P) (w:=w) (N:=ap N0 g T) (rows:=rows.take k) (b:=b) (off:=off) hs (fun r hr=>hls r (List.mem_of_mem_take hr)) (fun i j r d hr hd=>hc i j r d (by rw [List.getElem?_take] at hr;split at hr;exact hr;cases hr) hd)
   refine⟨_,cap,A,hv,?_,hR⟩
   subst hv
   rw [List.length_take,Nat.min_eq_left hk] at hA
   exact hA
theorem agG (hM:Mem w0 N0 g T w)(hρ:∀ x,aH w (ap N0 g T) g T (ρ x) (a.eval x)){c:Call}{p q:Operand}{t u e:TypeId}{i:TypeInfo}(ho:o.op=.call c)(hc:c.callee=.builtin .copy)
  (ha:c.args.toList=[p,q]) (hat:c.argTypes.toList=[t,u]) (ht:mX P t=some e) (hi:P.info? e=some i) (h0:0 < i.size)
  (he:eff P E T ρ dst (.copy i.size p q)=some (y,es)):aR r n P o a w (Res w0 N0 g T w y es):=by
 have hd:∀ c,o.op ≠ .defer c:=fun c h=>by rw [ho] at h;cases h
 have ha':c.args=#[p,q]:=by rw [<- Array.toArray_toList (xs:=c.args),ha]
 have hat':c.argTypes=#[t,u]:=by rw [<- Array.toArray_toList (xs:=c.argTypes),hat]
 simp only [eff] at he
 split at he
 ·rename_i rows2 m lo hi' hrows hpart
  split at he
  ·rename_i s rows hm
   split at he
   ·rename_i hcond
    obtain⟨rfl,hall,hlt,hle⟩:=hcond
    simp only [Option.some.injEq,Prod.mk.injEq] at he
    obtain⟨rfl,rfl⟩:=he
    obtain⟨hso,hst⟩:=hM.ents m _ hm
    have hl:live T m:=by unfold live;rw [hm];trivial
    rcases hso with ⟨_,hr,_⟩ | ⟨b,off,cap,cells,te,fz,k1,k2,k3,k4,k5,k6,k7,k8,k9,k10⟩
    ·subst hr;simp at hle;omega
    ·-- where the copy goes
     obtain⟨cap',hvd⟩:∃ cap',a.eval p=.slice (some ⟨b,off+lo*i.size,none⟩) (hi' - lo) cap':=by
      cases hone:bO (ρ p) with
      | none=>rw [hone] at hpart;cases hpart
      | some cc=>
       rw [hone] at hpart
       have hcc:=aJ (hρ p) hone
       simp only [Option.bind_some] at hpart
       cases cc with
       | ref k=>
        simp only [nT] at hpart
        split at hpart
        ·rename_i s' rows' hk
         simp only [Option.some.injEq,Prod.mk.injEq] at hpart
         obtain⟨rfl,rfl,rfl⟩:=hpart
         rw [hm] at hk
         simp only [Option.some.injEq,aC.own.injEq] at hk
         obtain⟨_,rfl⟩:=hk
         exact⟨cap,by rw [hcc.2.1,k2];simp⟩
        ·cases hpart
       | sub k a b=>
        simp only [nT,Option.some.injEq,Prod.mk.injEq] at hpart
        obtain⟨rfl,rfl,rfl⟩:=hpart
        obtain⟨_,_,b2,o2,len,cp,cp',e1,e2,e3⟩:=hcc
        rw [k2] at e1
        simp only [Value.slice.injEq,Option.some.injEq,Addr.mk.injEq,and_true] at e1
        obtain⟨⟨rfl,rfl⟩,_,_⟩:=e1
        rw [hst] at e3
        exact⟨cp',e3⟩
       | _=>simp [nT] at hpart
     generalize hkk:min rows2.length (hi' - lo)=k
     have hk1:k<=rows2.length:=by omega
     have hk2:k<=hi' - lo:=by omega
     obtain⟨ad,cap2,A,hvs,hA,hR⟩:=Sj (P:=P) hM h0 (hρ q) hrows hall hk1
     have htake:rows2.take (hi' - lo)=rows2.take k:=by
      rw [<- hkk]
      by_cases hc:rows2.length<=hi' - lo
      ·rw [Nat.min_eq_left hc,List.take_of_length_le hc,List.take_of_length_le (Nat.le_refl _)]
      ·rw [Nat.min_eq_right (by omega)]
     have hxl:(rows2.take k).length=k:=by simp;omega
     have hAl:A.toList.length=k*i.size:=by rw [hR.1,hxl]
     have hin:lo*i.size+k*i.size<=cap*i.size:=by rw [<- Nat.add_mul];exact Nat.mul_le_mul_right _ (by omega)
     have hfit:off+lo*i.size+A.toList.length<=cells.toList.length:=by rw [hAl];simp;omega
     have hone:=hR.one h0
     have hstore:=eJ P b (off+lo*i.size) te fz A.toList 0 cells w k3 (by simpa using hfit) (fun j hj=>by
      rw [hAl] at hj
      exact k7 _ (by omega) (by omega)) hone
     simp only [Nat.add_zero] at hstore
     have hlenOf:(Builtin.lenOf (.slice ad rows2.length cap2)).run P w=.ok rows2.length w:=rfl
     have hrun:(execOp a.eval o).run P w=.ok (.value (goInt k)) (w.setRow b (splice cells.toList (off+lo*i.size) A.toList).toArray):=by
      rw [hvs] at hA
      have hmin:Nat.min rows2.length (hi' - lo)=k:=hkk
      have hcopy:(Builtin.copy_ #[t,u] o.type #[.slice (some ⟨b,off+lo*i.size,none⟩) (hi' - lo) cap',.slice ad rows2.length cap2]).run P w=.ok (goInt k) (w.setRow b (splice cells.toList (off+lo*i.size) A.toList).toArray):=by
       simp [Builtin.copy_,run_underlying (fo ht),sizeOf,typeInfo,hi,hlenOf,hmin,hA,hstore]
      simp only [execOp,ho,resolve,hc]
      simp [invoke,builtin,ha',hat',hvd,hvs,hcopy]
     obtain⟨q1,q2⟩:=hM.write (e:=.own i.size (splice rows lo (rows2.take k))) hl k1 trivial (gM w b _) (by simp) (fun hK=>by
      refine⟨.inr ⟨b,off,cap,(splice cells.toList (off+lo*i.size) A.toList).toArray,te,fz,k1,by rw [k2,cN (by rw [hxl];omega)],setRow_heap w b cells _ te _ k3,by rw [cN (by rw [hxl];omega)];exact k4,k5,by rw [List.size_toArray,cN hfit];simpa using k6,k7,fun r hr=>?_,k9,fun pi j r d hr hdd=>?_⟩,hst⟩
      ·unfold splice at hr
       rcases List.mem_append.1 hr with hr | hr
       ·rcases List.mem_append.1 hr with hr | hr
        ·exact k8 r (List.mem_of_mem_take hr)
        ·exact hR.2.1 r hr
       ·exact k8 r (List.mem_of_mem_drop hr)
      ·rw [eL (by rw [hxl];omega),hxl] at hr
       have hget:(splice cells.toList (off+lo*i.size) A.toList).toArray[off+pi*i.size+j]?=if off+lo*i.size<=off+pi*i.size+j/\off+pi*i.size+j < off+lo*i.size+k*i.size then A.toList[off+pi*i.size+j - (off+lo*i.size)]? else cells[off+pi*i.size+j]?:=by
        rw [List.getElem?_toArray,eL hfit,hAl]
        simp only [Array.getElem?_toList]
       rw [hget]
       by_cases hpi:lo<=pi/\pi < lo+k
       ·rw [if_pos hpi] at hr
        have hjl:j < i.size:=by rw [<- hR.2.1 r (List.mem_of_getElem? hr)];exact (List.getElem?_eq_some_iff.1 hdd).1
        obtain⟨c,hc,hx⟩:=hR.2.2 (pi - lo) j r d hr hdd
        have e1:pi*i.size=lo*i.size+(pi - lo)*i.size:=by rw [<- Nat.add_mul];congr 1;omega
        have e2:(pi - lo)*i.size+j < k*i.size:=rc (by omega) hjl
        rw [if_pos (by omega),show off+pi*i.size+j - (off+lo*i.size)=(pi - lo)*i.size+j by omega]
        exact⟨c,hc,hK.d _ _ hx⟩
       ·rw [if_neg hpi] at hr
        have hjl:j < i.size:=by rw [<- k8 r (List.mem_of_getElem? hr)];exact (List.getElem?_eq_some_iff.1 hdd).1
        rw [if_neg]
        ·obtain⟨c,hc,hx⟩:=k10 pi j r d hr hdd
         exact⟨c,hc,hK.d _ _ hx⟩
        ·intro ⟨e1,e2⟩
         rcases Nat.lt_or_ge pi lo with h | h
         ·have:=rc (n:=lo) h hjl
          omega
         ·have h2:lo+k<=pi:=by omega
          have:=Nat.mul_le_mul_right i.size h2
          rw [Nat.add_mul] at this
          omega)
     rw [htake]
     exact aR.value hd hrun ⟨g,q1,q2,_,rfl,aL.v rfl⟩
   ·cases he
  ·cases he
 ·cases he
end Go.AM

namespace Go.AM
open Go.RowKit
variable {P:Program}{E:Env}{w0:fB P}{w w':World}{N0:Nat->Prop}{g g':Gh}{T T':Tab}{r:Option Nat}{n:Nat}{o:Oper}{a:Act}{ρ:Operand->AV}{dst:Nat}
 {y:AV} {es:List (Nat × aC)}
def dl (N0:Nat->Prop)(g:Gh)(T:Tab)(names:List Nat):Nat->Prop:=fun b=>N0 b\/∃ n,n ∉ names/\live T n/\g.blk n=some b
theorem cB {names:List Nat}{b:Nat}(h:dl N0 g T names b):ap N0 g T b:=by
 rcases h with h | ⟨n,_,h1,h2⟩
 ·exact .inl h
 ·exact .inr ⟨n,h1,h2⟩
theorem aL.less {N N':Nat->Prop}(hn:∀ b,N' b->N b){d:DC}{v:Value}(h:aL w N d v):aL w N' d v:=h.mono (Nat.le_refl _) (fun _ _ _=>rfl) (fun b _ h=>hn b h)
theorem zH (hM:Mem w0 N0 g T w){names:List Nat}{n b:Nat}(hn:n ∈ names)(hl:live T n)(hb:g.blk n=some b):¬ dl N0 g T names b:=by
 rintro (h | ⟨m,h1,h2,h3⟩)
 ·have h1:=hM.n0 b h
  exact (hM.rng n b hl hb).1.elim (fun h=>by omega) h1.2.1
 ·have:=hM.inj m n b h2 hl h3 hb
  subst this
  exact h1 hn
theorem wm (hM:Mem w0 N0 g T w){names:List Nat}{m:Nat}{rows:List (List DC)}(hm:(∃ s,aj T m=some (.own s rows))\/aj T m=some (.imm rows))(hn:m ∈ names) :
  aL w (dl N0 g T names) (.sl rows) (g.sv m):=by
 rcases hm with ⟨s,hm⟩ | hm
 ·obtain⟨hs,hst⟩:=hM.ents m _ hm
  have hl:live T m:=by unfold live;rw [hm];trivial
  rcases hs with ⟨hv,hr,_⟩ | ⟨b,off,cap,cells,t,fz,h1,h2,h3,h4,h5,h6,h7,h8,h9,h10⟩
  ·rw [hv,hr];exact .nil
  ·rw [h2]
   by_cases hr:rows=[]
   ·subst hr;exact .nil
   ·have hsz:∀ (i:Nat) (r:List DC),rows[i]?=some r->r.length=s:=fun i r hr=>h8 r (List.mem_of_getElem? hr)
    refine .sl (sz:=s) (fun i j=>(cells[off+i*s+j]?).getD undef) (List.length_pos_iff.2 hr) (zH hM hn hl h1) (hM.rng m b hl h1).2 h9 h8 h4 (fun i j hi hj=>?_) (fun i j r d hr hd=>?_)
    ·obtain⟨r,hr⟩:∃ r,rows[i]?=some r:=⟨rows[i],by simp [hi]⟩
     obtain⟨d,hd⟩:∃ d,r[j]?=some d:=⟨r[j]'(by rw [hsz i r hr];exact hj),by simp⟩
     obtain⟨c,hc,_⟩:=h10 i j r d hr hd
     simp [World.cell?,h3,hc]
    ·obtain⟨c,hc,hx⟩:=h10 i j r d hr hd
     rw [hc]
     exact hx.less fun b hb=>cB hb
 ·exact (hM.ents m _ hm).1.less fun b hb=>cB hb
theorem s8 {α β:Type}{f:α->Option β}{l:List α}{r:List β}(h:l.mapM f=some r){i:Nat}{y:β}(hy:r[i]?=some y):∃ x,l[i]?=some x/\f x=some y:=by
 obtain⟨h1,h2⟩:=jb h
 have hi:i < l.length:=by rw [<- h1];exact (List.getElem?_eq_some_iff.1 hy).1
 obtain⟨y',hy',hf⟩:=h2 i l[i] (by simp [hi])
 rw [hy] at hy'
 simp only [Option.some.injEq] at hy'
 subst hy'
 exact⟨l[i],by simp [hi],hf⟩
theorem t6 (hM:Mem w0 N0 g T w){names:List Nat}:∀ (k:Nat) {c:C} {d:DC} {v:Value},cF w (ap N0 g T) g T c v->cP T k c=some d->(∀ m ∈ aT T k c,m ∈ names)->aL w (dl N0 g T names) d v
 | 0,c,d,v,_,h,_=>by simp [cP] at h
 | k+1,c,d,v,hc,h,hn=>by
  have box:∀ {m:Nat} {cs:List C} {ds:List DC} {b:Nat},aj T m=some (.box cs)->cs.mapM (cP T k)=some ds->(∀ q ∈ cs.flatMap (aT T k),q ∈ names)->m ∈ names->g.blk m=some b ->
    ∀ off,aL w (dl N0 g T names) (.cref ds off) (.pointer (some ⟨b,0+off,none⟩)):=by
   intro m cs ds b hm hds hq hmn hb off
   obtain⟨b',cells,t,h1,h2,h3,h4,h5⟩:=hM.box hm
   rw [hb] at h1
   simp only [Option.some.injEq] at h1
   subst h1
   have hl:live T m:=by unfold live;rw [hm];trivial
   obtain⟨e1,e2⟩:=jb hds
   refine .cref (fun j=>(cells[j]?).getD undef) (zH hM hmn hl hb) (hM.rng m b hl hb).2 (fun j hj=>?_) (fun j d hd=>?_)
   ·have:j < cells.size:=by omega
    simp [World.cell?,h2,this]
   ·obtain⟨c,hc,hf⟩:=s8 hds hd
    have hlt:j < cells.size:=by rw [h3];exact (List.getElem?_eq_some_iff.1 hc).1
    have:=t6 hM k (h4 j c cells[j] hc (by simp [hlt])) hf (fun q hq'=>hq q (List.mem_flatMap.2 ⟨c,List.mem_of_getElem? hc,hq'⟩))
    simpa [hlt] using this
  cases c with
  | d x=>simp only [cP,Option.some.injEq] at h;subst h;exact aL.less (fun b hb=>cB hb) hc
  | nils=>simp only [cP,Option.some.injEq] at h;subst h;rw [show v=_ from hc];exact .nil
  | und=>simp [cP] at h
  | unk=>simp [cP] at h
  | yld l=>simp [cP] at h
  | sub n lo hi=>simp [cP] at h
  | psl l=>simp [cP] at h
  | pptr n off=>simp [cP] at h
  | ref m=>
   obtain⟨_,rfl,_⟩:=hc
   simp only [cP] at h
   have hmn:m ∈ names:=hn m (by simp [aT])
   split at h
   ·rename_i s rows hm
    simp only [Option.some.injEq] at h;subst h
    exact wm hM (.inl ⟨_,hm⟩) hmn
   ·rename_i rows hm
    simp only [Option.some.injEq] at h;subst h
    exact wm hM (.inr hm) hmn
   ·cases h
  | ptr m off=>
   obtain⟨_,b,hb,rfl⟩:=hc
   simp only [cP] at h
   split at h
   ·rename_i cs hm
    cases hds:cs.mapM (cP T k) with
    | none=>rw [hds] at h;simp at h
    | some ds=>
     rw [hds] at h
     simp only [Option.map_some,Option.some.injEq] at h
     subst h
     have hmn:m ∈ names:=hn m (by simp [aT])
     have:=box hm hds (fun q hq=>hn q (by simp only [aT,hm];exact List.mem_cons_of_mem _ hq)) hmn hb off
     simpa using this
   ·cases h
  | eptr m i off=>
   obtain⟨_,b,o',len,cap,hsv,rfl⟩:=hc
   simp only [cP] at h
   have hmn:m ∈ names:=hn m (by simp [aT])
   have key:∀ rows,((∃ s,aj T m=some (.own s rows))\/aj T m=some (.imm rows))->(rows[i]?).map (fun r=>DC.cref r off)=some d->aL w (dl N0 g T names) d (.pointer (some ⟨b,o'+i*g.st m+off,none⟩)):=by
    intro rows hm h
    cases hr:rows[i]? with
    | none=>rw [hr] at h;simp at h
    | some r0=>
     rw [hr] at h
     simp only [Option.map_some,Option.some.injEq] at h
     subst h
     have hi:=(List.getElem?_eq_some_iff.1 hr).1
     have hne:rows ≠ []:=fun h=>by subst h;simp at hi
     have h1:=wm hM hm hmn
     obtain⟨b',off',cap',h2,h3,h4,h5,h6⟩:=hM.rows hm hne
     rw [hsv] at h1 h2
     simp only [Value.slice.injEq,Option.some.injEq,Addr.mk.injEq,and_true] at h2
     obtain⟨⟨rfl,rfl⟩,hll,rfl⟩:=h2
     subst hll
     cases h1 with
     | nil=>exact absurd rfl hne
     | @sl _ _ _ _ sz f hne' hN hb hsz hl hcap hcc hdd=>
      have hst:g.st m=sz:=by rw [<- h5 r0 (List.mem_of_getElem? hr),hl r0 (List.mem_of_getElem? hr)]
      rw [hst]
      exact .cref (fun j=>f i j) hN hb (fun j hj=>hcc i j hi (by rw [<- hl r0 (List.mem_of_getElem? hr)];exact hj)) (fun j d hd=>hdd i j r0 d hr hd)
   split at h
   ·rename_i s rows hm;exact key rows (.inl ⟨_,hm⟩) h
   ·rename_i rows hm;exact key rows (.inr hm) h
   ·cases h
  | fn f caps=>
   obtain⟨cs,rfl,h2,h3⟩:=hc
   simp only [cP] at h
   cases hds:caps.mapM (zn (cP T k) T) with
   | none=>rw [hds] at h;simp at h
   | some ds=>
    rw [hds] at h
    simp only [Option.map_some,Option.some.injEq] at h
    subst h
    obtain⟨e1,e2⟩:=jb hds
    refine .fn (by omega) (fun i d c hd hc=>?_)
    obtain⟨cap,hcap,hf⟩:=s8 hds hd
    have hr:=h3 i cap c hcap hc
    cases cap with
    | d x=>simp only [zn,Option.some.injEq] at hf;subst hf;exact aL.less (fun b hb=>cB hb) hr
    | ptr m=>
     obtain⟨_,b,hb,rfl⟩:=hr
     simp only [zn] at hf
     split at hf
     ·rename_i bcs hm
      cases hbs:bcs.mapM (cP T k) with
      | none=>rw [hbs] at hf;simp at hf
      | some ds'=>
       rw [hbs] at hf
       simp only [Option.map_some,Option.some.injEq] at hf
       subst hf
       have hsub:∀ q,q=m\/q ∈ bcs.flatMap (aT T k)->q ∈ names:=fun q hq=>hn q (by
        simp only [aT]
        refine List.mem_flatMap.2 ⟨_,List.mem_of_getElem? hcap,?_⟩
        simp only [hm]
        exact List.mem_cons.2 hq)
       have:=box hm hbs (fun q hq=>hsub q (.inr hq)) (hsub m (.inl rfl)) hb 0
       simpa using this
     ·cases hf
theorem Qv (hM:Mem w0 N0 g T w){names:List Nat}{x:AV}{d:DV}{v:Value}(hx:aH w (ap N0 g T) g T x v)(h:wA T x=some d)(hn:∀ m ∈ bi T x,m ∈ names):qK w (dl N0 g T names) d v:=by
 cases x with
 | tup l=>simp [wA] at h
 | val b cs=>
  simp only [wA] at h
  cases hds:cs.mapM (cP T 4) with
  | none=>rw [hds] at h;simp at h
  | some ds=>
   rw [hds] at h
   simp only [Option.map_some,Option.some.injEq] at h
   subst h
   obtain⟨e1,e2⟩:=jb hds
   have hsub:∀ (c:C),c ∈ cs->∀ q ∈ aT T 4 c,q ∈ names:=fun c hc q hq=>hn q (List.mem_flatMap.2 ⟨c,hc,hq⟩)
   cases b with
   | true=>
    obtain⟨xs,rfl,h2,h3⟩:=hx
    refine⟨xs,rfl,by omega,fun i d u hd hu=>?_⟩
    obtain⟨c,hc,hf⟩:=s8 hds hd
    exact t6 hM 4 (h3 i c u hc hu) hf (hsub c (List.mem_of_getElem? hc))
   | false=>
    obtain⟨c,rfl,hc⟩:=hx
    obtain⟨y,hy,hf⟩:=e2 0 c rfl
    cases ds with
    | nil=>simp at hy
    | cons d rest=>
     simp at e1 hy
     subst hy;subst e1
     exact⟨d,rfl,t6 hM 4 hc hf (hsub c (by simp))⟩
theorem Ao (hM:Mem w0 N0 g T w)(hρ:∀ x,aH w (ap N0 g T) g T (ρ x) (a.eval x)){names:List Nat}:∀ {args:List Operand} {ds:List DV},fD T ρ args=some ds->(∀ m ∈ args.flatMap (fun x=>bi T (ρ x)),m ∈ names) ->
  ds.length=args.length/\∀ (i:Nat) (d:DV) (v:Value),ds[i]?=some d->(args.map a.eval)[i]?=some v->qK w (dl N0 g T names) d v
 | [],ds,h,_=>by simp [fD] at h;subst h;simp
 | x::rest,ds,h,hn=>by
  simp only [fD] at h
  split at h
  ·rename_i d ds' h1 h2
   simp only [Option.some.injEq] at h
   subst h
   obtain⟨h3,h4⟩:=Ao hM hρ h2 (fun m hm=>hn m (by simp only [List.flatMap_cons];exact List.mem_append_right _ hm))
   refine⟨by simp [h3],fun i d' v hd hv=>?_⟩
   cases i with
   | zero=>
    simp at hd hv
    subst hd;subst hv
    exact Qv hM (hρ x) h1 (fun m hm=>hn m (by simp only [List.flatMap_cons];exact List.mem_append_left _ hm))
   | succ i=>exact h4 i d' v (by simpa using hd) (by simpa using hv)
  ·cases h
theorem vJ:∀ {ns ms:List Nat},K6 ns ms=true->ns.Nodup/\∀ n ∈ ns,n ∉ ms
 | [],_,_=>⟨List.nodup_nil,by simp⟩
 | n::r,ms,h=>by
  simp only [K6,Bool.and_eq_true,Bool.not_eq_true',List.any_eq_false,beq_iff_eq] at h
  obtain⟨⟨h1,h2⟩,h3⟩:=h
  obtain⟨h4,h5⟩:=vJ h3
  refine⟨List.nodup_cons.2 ⟨fun hx=>h1 n hx rfl,h4⟩,fun m hm=>?_⟩
  rcases List.mem_cons.1 hm with rfl | hm
  ·exact fun hx=>h2 m hx rfl
  ·exact h5 m hm
def fx (g:Gh):List Nat->List Nat
 | []=>[]
 | n::r=>(g.blk n).getD 0::fx g r
theorem ad8 {N:Nat->Prop}{c:C}{d:DC}{v:Value}(hc:cF w N g T c v)(h:RS c=some d):aL w N d v:=by
 unfold RS at h
 split at h
 ·simp only [Option.some.injEq] at h;subst h;exact hc
 ·simp only [Option.some.injEq] at h;subst h
  rw [show v=_ from hc];exact .nil
 ·cases h
theorem Lf {N:Nat->Prop}{d:DC}{v:Value}(h:aL w N d v):ft d=none/\GY d=false:=by cases h <;> exact⟨rfl,rfl⟩
theorem cj.sub {N N':Nat->Prop}{sz:Nat}{rows:List (List DC)}{v:Value}{ob:Option Nat}(hN:∀ b,N' b->N b)(h:cj w N sz rows v ob):cj w N' sz rows v ob:=by
 rcases h with h | ⟨b,off,cap,cells,t,fz,h1,h2,h3,h4,h5,h6,h7,h8,h9,h10⟩
 ·exact .inl h
 ·exact .inr ⟨b,off,cap,cells,t,fz,h1,h2,h3,h4,h5,h6,h7,h8,h9,fun i j r d hr hdd=>by
   obtain⟨c,hc,hx⟩:=h10 i j r d hr hdd
   exact⟨c,hc,hx.less hN⟩⟩
theorem IP (hM:Mem w0 N0 g T w){names:List Nat}:∀ {cs:List C} {xs:List Value} {l:List DC} {is:List Nat},wW T cs=some (l,is)->cs.length=xs.length ->
  (∀ (i:Nat) (c:C) (x:Value),cs[i]?=some c->xs[i]?=some x->cF w (ap N0 g T) g T c x)->(∀ n ∈ is,n ∉ names) ->
  (∀ n ∈ is,∃ sz rows,aj T n=some (.own sz rows))/\gw w (dl N0 g T names) l xs (is.map g.blk)
 | [],[],l,is,h,_,_,_=>by
  simp only [wW,Option.some.injEq,Prod.mk.injEq] at h
  obtain⟨rfl,rfl⟩:=h
  exact⟨by simp,rfl⟩
 | [],_::_,_,_,_,h,_,_=>by simp at h
 | _::_,[],_,_,_,h,_,_=>by simp at h
 | c::cs,x::xs,l,is,h,hl,hr,hn=>by
  simp only [wW] at h
  split at h
  ·rename_i d l1 ds l2 h1 h2
   simp only [Option.some.injEq,Prod.mk.injEq] at h
   obtain⟨rfl,rfl⟩:=h
   obtain⟨i1,i2⟩:=IP hM h2 (by simpa using hl) (fun i c' x' hc hx=>hr (i+1) c' x' (by simpa using hc) (by simpa using hx)) fun n hn'=>hn n (List.mem_append_right _ hn')
   have h0:=hr 0 c x rfl rfl
   have plain:aL w (dl N0 g T names) d x->l1=[]->(∀ n ∈ l1++l2,∃ sz rows,aj T n=some (.own sz rows))/\gw w (dl N0 g T names) (d::ds) (x::xs) ((l1++l2).map g.blk):=fun hd he=>by
    subst he
    refine⟨by simpa using i1,?_⟩
    simp only [gw,(Lf hd).1,(Lf hd).2,List.nil_append]
    exact⟨hd,i2⟩
   unfold YE at h1
   split at h1
   ·simp only [Option.some.injEq,Prod.mk.injEq] at h1
    obtain⟨rfl,rfl⟩:=h1
    exact plain (aL.less (fun b hb=>cB hb) h0) rfl
   ·simp only [Option.some.injEq,Prod.mk.injEq] at h1
    obtain⟨rfl,rfl⟩:=h1
    refine⟨by simpa using i1,?_⟩
    simp only [gw,ft,GY,if_true,List.nil_append]
    exact⟨h0,i2⟩
   ·rename_i n
    split at h1
    ·rename_i s rows hT
     obtain⟨sz,hsz⟩:∃ sz,sz=s+1:=⟨_,rfl⟩
     simp only [Option.some.injEq,Prod.mk.injEq] at h1
     obtain⟨rfl,rfl⟩:=h1
     have hT:aj T n=some (.own sz rows):=by rw [hT,hsz]
     have hlive:live T n:=by unfold live;rw [hT];trivial
     refine⟨fun m hm=>?_,?_⟩
     ·rcases List.mem_cons.1 hm with rfl | hm
      ·exact⟨sz,rows,hT⟩
      ·exact i1 m hm
     ·simp only [List.cons_append,List.nil_append,List.map_cons,gw,ft]
      have hs:cj w (ap N0 g T) sz rows (g.sv n) (g.blk n):=(hM.ents n _ hT).1
      rw [hsz] at hs
      obtain⟨_,hv,_⟩:=h0
      rw [hv]
      exact⟨hs.sub fun b hb=>cB hb,fun b hb=>.inr ⟨n,hn n (by simp),hlive,hb⟩,i2⟩
    ·rename_i rows hT
     simp only [Option.some.injEq,Prod.mk.injEq] at h1
     obtain⟨rfl,rfl⟩:=h1
     have hs:aL w (ap N0 g T) (.sl rows) (g.sv n):=(hM.ents n _ hT).1
     obtain⟨_,hv,_⟩:=h0
     exact plain (by rw [hv];exact hs.less fun b hb=>cB hb) rfl
    ·cases h1
   ·cases h1
  ·cases h
theorem Vq {N N':Nat->Prop}{sb:Bool}{n off:Nat}{v:Value}(h:cF w N g T (mC sb n off) v)(hN:∀ b,N' b->N b):∃ b,g.blk n=some b/\RH w N' sb b off v:=by
 cases sb with
 | false=>
  obtain⟨_,b,hb,hv⟩:=h
  exact⟨b,hb,hv⟩
 | true=>
  obtain⟨bs,⟨h1,hf⟩,h2,h3⟩:=h
  match bs,h1 with
  | [b],_=>exact⟨b,(h2 0 (n,off) b rfl rfl).2,h3.less hN,hf⟩
theorem sX (hM:Mem w0 N0 g T w)(hρ:∀ x,aH w (ap N0 g T) g T (ρ x) (a.eval x)){io:List Nat}{names:List Nat}:∀ {args:List Operand} {k:Nat} {ds:List DV} {ns is ms:List Nat},iv T ρ io k args=some (ds,ns,is,ms) ->
  (∀ m ∈ ms,m ∈ names)->(∀ n ∈ ns++is,n ∉ names) ->
  (∀ n ∈ ns,∃ cs,aj T n=some (.box cs))/\(∀ n ∈ ns,∃ b,g.blk n=some b)/\(∀ n ∈ is,∃ sz rows,aj T n=some (.own sz rows))/\fQ w (dl N0 g T names) ds (args.map a.eval) (fx g ns) (is.map g.blk)
 | [],k,ds,ns,is,ms,h,_,_=>by
  simp only [iv,Option.some.injEq,Prod.mk.injEq] at h
  obtain⟨rfl,rfl,rfl,rfl⟩:=h
  exact⟨by simp,by simp,by simp,rfl,rfl⟩
 | x::rest,k,ds,ns,is,ms,h,hn,hn2=>by
  simp only [iv] at h
  split at h
  ·cases h
  ·rename_i ds' ns' is' ms' hr
   split at h
   ·split at h
    ·rename_i sb n off hx
     obtain⟨c0,hx,hc0⟩:=Option.bind_eq_some_iff.1 hx
     obtain rfl:c0=mC sb n off:=vB hc0
     split at h
     ·rename_i cs hT
      split at h
      ·rename_i l is1 hl
       simp only [Option.some.injEq,Prod.mk.injEq] at h
       obtain⟨rfl,rfl,rfl,rfl⟩:=h
       obtain⟨i1,i2,i4,i3⟩:=sX hM hρ hr hn fun m hm=>hn2 m (by
        rcases List.mem_append.1 hm with hm | hm
        ·exact List.mem_append_left _ (List.mem_cons_of_mem _ hm)
        ·exact List.mem_append_right _ (List.mem_append_right _ hm))
       obtain⟨b,hb,hv⟩:=Vq (aJ (hρ x) hx) fun b hb=>cB (names:=names) hb
       obtain⟨b',cells,t,k1,k2,k3,k4,_⟩:=hM.box hT
       rw [hb] at k1
       simp only [Option.some.injEq] at k1
       subst k1
       have hlive:live T n:=by unfold live;rw [hT];trivial
       obtain⟨j1,j2⟩:=IP hM (names:=names) (xs:=cells.toList) hl (by simpa using k3.symm) (fun i c x hc hx=>k4 i c x hc (by simpa using hx)) fun m hm=>hn2 m (List.mem_append_right _ (List.mem_append_left _ hm))
       refine⟨fun m hm=>?_,fun m hm=>?_,fun m hm=>?_,?_⟩
       ·rcases List.mem_cons.1 hm with rfl | hm
        ·exact⟨cs,hT⟩
        ·exact i1 m hm
       ·rcases List.mem_cons.1 hm with rfl | hm
        ·exact⟨b,hb⟩
        ·exact i2 m hm
       ·rcases List.mem_append.1 hm with hm | hm
        ·exact j1 m hm
        ·exact i4 m hm
       ·simp only [List.map_cons,fQ,cq,fx,hb,Option.getD_some]
        exact⟨is1.map g.blk,is'.map g.blk,by simp,⟨.inr ⟨n,hn2 n (by simp),hlive,hb⟩,hv,cells,t,k2,j2⟩,i3⟩
      ·cases h
     ·cases h
    ·cases h
   ·split at h
    ·rename_i d hd
     simp only [Option.some.injEq,Prod.mk.injEq] at h
     obtain⟨rfl,rfl,rfl,rfl⟩:=h
     obtain⟨i1,i2,i4,i3⟩:=sX hM hρ hr (fun m hm=>hn m (List.mem_append_right _ hm)) hn2
     have h0:=Qv hM (names:=names) (hρ x) hd fun m hm=>hn m (List.mem_append_left _ hm)
     refine⟨i1,i2,i4,?_⟩
     simp only [List.map_cons,fQ,HA h0]
     exact⟨h0,i3⟩
    ·cases h
theorem Cw:∀ {ns:List Nat},(∀ n ∈ ns,∃ b,g.blk n=some b)->fx g ns=ns.filterMap g.blk
 | [],_=>rfl
 | n::r,h=>by
  obtain⟨b,hb⟩:=h n (by simp)
  simp only [fx,List.filterMap_cons,hb,Option.getD_some]
  rw [Cw fun m hm=>h m (List.mem_cons_of_mem _ hm)]
theorem Gw {ns is:List Nat}(h:∀ n ∈ ns,∃ b,g.blk n=some b):g6 (fx g ns) (is.map g.blk)=(ns++is).filterMap g.blk:=by
 unfold g6
 rw [Cw h,List.filterMap_append,List.filterMap_map]
 rfl
theorem Jw (hM:Mem w0 N0 g T w):∀ {ns:List Nat},ns.Nodup->(∀ n ∈ ns,live T n)->(ns.filterMap g.blk).Nodup
 | [],_,_=>List.nodup_nil
 | n::r,hd,hl=>by
  have ih:=Jw hM (List.nodup_cons.1 hd).2 fun m hm=>hl m (List.mem_cons_of_mem _ hm)
  simp only [List.filterMap_cons]
  split
  ·exact ih
  ·rename_i b hb
   refine List.nodup_cons.2 ⟨fun hx=>?_,ih⟩
   obtain⟨m,hm,he⟩:=List.mem_filterMap.1 hx
   have:=hM.inj n m b (hl n (by simp)) (hl m (List.mem_cons_of_mem _ hm)) hb he
   subst this
   exact (List.nodup_cons.1 hd).1 hm
theorem Ai (hM:Mem w0 N0 g T w){ns is:List Nat}(hd:(ns++is).Nodup)(hb:∀ n ∈ ns,∃ cs,aj T n=some (.box cs))(hk:∀ n ∈ ns,∃ b,g.blk n=some b)(hi:∀ n ∈ is,∃ sz rows,aj T n=some (.own sz rows)) :
  (g6 (fx g ns) (is.map g.blk)).Nodup:=by
 rw [Gw hk]
 refine Jw hM hd fun n hn=>?_
 rcases List.mem_append.1 hn with hn | hn
 ·obtain⟨cs,hc⟩:=hb n hn
  unfold live;rw [hc];trivial
 ·obtain⟨sz,rows,hc⟩:=hi n hn
  unfold live;rw [hc];trivial
theorem Of (hM:Mem w0 N0 g T w){ns is:List Nat}(hb:∀ n ∈ ns,∃ cs,aj T n=some (.box cs))(hk:∀ n ∈ ns,∃ b,g.blk n=some b)(hi:∀ n ∈ is,∃ sz rows,aj T n=some (.own sz rows)){b:Nat}(hg:gbP P b) :
  b ∉ g6 (fx g ns) (is.map g.blk):=by
 rw [Gw hk]
 intro h
 obtain⟨n,hn,e⟩:=List.mem_filterMap.1 h
 refine hM.gblk (n:=n) ?_ e hg
 rcases List.mem_append.1 hn with hn | hn
 ·obtain⟨cs,hc⟩:=hb n hn
  unfold live;rw [hc];trivial
 ·obtain⟨sz,rows,hc⟩:=hi n hn
  unfold live;rw [hc];trivial
end Go.AM

namespace Go.AM
open Go.RowKit
variable {P:Program}{E:Env}{w0:fB P}{w w':World}{N0:Nat->Prop}{g g':Gh}{T T':Tab}{r:Option Nat}{n:Nat}{o:Oper}{a:Act}{ρ:Operand->AV}{dst:Nat}
 {y:AV} {es:List (Nat × aC)}
theorem cA:∀ (names:List Nat) {T:Tab},Mem w0 N0 g T w->Mem w0 N0 g (aputs T (aQ T names)) w/\aU N0 g T w g (aputs T (aQ T names)) w /\
  ∀ b,ap N0 g (aputs T (aQ T names)) b->dl N0 g T names b
 | [],T,hM=>⟨hM,aU.refl,fun b h=>by
   rcases h with h | ⟨m,h1,h2⟩
   ·exact .inl h
   ·exact .inr ⟨m,by simp,h1,h2⟩⟩
 | n::rest,T,hM=>by
  have step:∀ {e:aC},(match e with | .box _ | .own _ _=>False | _=>True)->∀ b,dl N0 g (aput T n e) rest b->dl N0 g T (n::rest) b:=by
   intro e he b hb
   rcases hb with h | ⟨m,h1,h2,h3⟩
   ·exact .inl h
   ·rw [dA] at h2
    by_cases hm:m=n
    ·subst hm
     simp only [if_true] at h2
     cases e <;> simp_all
    ·simp only [hm,if_false] at h2
     exact .inr ⟨m,by simp [hm,h1],h2,h3⟩
  simp only [aQ]
  split
  ·rename_i s rows hm
   obtain⟨h1,h2⟩:=hM.freeze hm
   obtain⟨k1,k2,k3⟩:=cA rest h1
   exact⟨k1,h2.trans k2,fun b hb=>step (e:=.imm rows) trivial b (k3 b hb)⟩
  ·rename_i cs hm
   obtain⟨h1,h2⟩:=hM.retire (n:=n) (e:=.dead) (eV hm) trivial (fun _=>trivial)
   obtain⟨k1,k2,k3⟩:=cA rest h1
   exact⟨k1,h2.trans k2,fun b hb=>step (e:=.dead) trivial b (k3 b hb)⟩
  ·rename_i hx hy
   obtain⟨k1,k2,k3⟩:=cA rest hM
   refine⟨k1,k2,fun b hb=>?_⟩
   rcases k3 b hb with h | ⟨m,h1,h2,h3⟩
   ·exact .inl h
   ·refine .inr ⟨m,?_,h2,h3⟩
    simp only [List.mem_cons,not_or]
    refine⟨fun e=>?_,h1⟩
    subst e
    unfold live at h2
    cases hq:aj T m with
    | none=>rw [hq] at h2;exact h2
    | some q=>
     rw [hq] at h2
     cases q with
     | box cs=>exact hy cs hq
     | own s rows=>exact hx s rows hq
     | imm rows=>exact h2
     | dead=>exact h2
structure Imp where
 i:Nat
 j:Nat
 c:RC
 x:Value
def RC.ent:RC->aC
 | .d _=>.dead
 | .own sz rows=>.own sz rows
 | .obj cs _=>.box (cs.map .d)
def RC.cell (n:Nat):RC->C
 | .d x=>.d x
 | .own _ _=>.ref n
 | .obj _ off=>.ptr n off
def RC.wid:RC->Nat
 | .own sz _=>sz
 | _=>0
def RC.new:RC->Bool
 | .d _=>false
 | _=>true
def Imp.name (dst:Nat)(q:Imp):Nat:=dst+640000*q.i+10000*q.j
def Imp.entry (dst:Nat)(q:Imp):Nat × aC:=(q.name dst,q.c.ent)
theorem jF.erel {N:Nat->Prop}{ob:Option Nat}{c:RC}{x:Value}{m:Nat}(hn:c.new=true)(h:jF w N ob c x)(h1:g.blk m=ob)(h2:g.sv m=x)(h3:g.st m=c.wid):qr w N g T m c.ent:=by
 cases c with
 | d y=>cases hn
 | own sz rows=>exact⟨by rw [h1,h2];exact h,h3⟩
 | obj cs off=>
  obtain⟨b,cells,t,e1,e2,e3,e4,e5⟩:=h
  refine⟨b,cells,t,by rw [h1,e1],e3,by simpa using e4,fun i c x hc hx=>?_,fun i c hc=>?_⟩
  ·rw [List.getElem?_map] at hc
   cases hq:cs[i]? with
   | none=>rw [hq] at hc;cases hc
   | some d=>
    rw [hq] at hc
    simp only [Option.map_some,Option.some.injEq] at hc
    subst hc
    exact e5 i d x hq hx
  ·rw [List.getElem?_map] at hc
   cases hq:cs[i]? with
   | none=>rw [hq] at hc;cases hc
   | some d=>
    rw [hq] at hc
    simp only [Option.map_some,Option.some.injEq] at hc
    subst hc
    rfl
theorem jF.crel {N:Nat->Prop}{ob:Option Nat}{c:RC}{x:Value}{m:Nat}(hn:c.new=true)(h:jF w N ob c x)(h1:g.blk m=ob)(h2:g.sv m=x)(h3:(aj T m).isSome):cF w N g T (c.cell m) x/\okC (c.cell m)=true:=by
 cases c with
 | d y=>cases hn
 | own sz rows=>
  refine⟨⟨h3,h2.symm,?_⟩,rfl⟩
  rcases h with ⟨e,_,_⟩ | ⟨b,off,cap,cells,t,fz,_,e,_⟩
  ·exact⟨_,_,_,e⟩
  ·exact⟨_,_,_,e⟩
 | obj cs off=>
  obtain⟨b,cells,t,e1,e2,_⟩:=h
  exact⟨⟨h3,b,by rw [h1,e1],e2⟩,rfl⟩
theorem Vi (i:Nat):∀ (cs:List RC) (j:Nat) (xs:List Value),cs.length=xs.length ->
  ∃ L:List Imp,(bp (dst+640000*i) j cs).2=L.map (Imp.entry dst)/\(bp (dst+640000*i) j cs).1.length=cs.length /\
   ∀ (N:Nat->Prop) (ob:Nat->Nat->Option Nat),(∀ (k:Nat) (c:RC) (x:Value),cs[k]?=some c->xs[k]?=some x->jF w N (ob i (j+k)) c x) ->
   (∀ q ∈ L,q.c.new=true/\jF w N (ob q.i q.j) q.c q.x) /\
   ∀ (k:Nat) (c:C) (x:Value),(bp (dst+640000*i) j cs).1[k]?=some c->xs[k]?=some x->(∃ d,c=.d d/\aL w N d x)\/∃ q ∈ L,c=q.c.cell (q.name dst)/\q.x=x
 | [],j,xs,hl=>⟨[],rfl,rfl,fun N ob h=>⟨by simp,by simp [bp]⟩⟩
 | c::rest,j,[],hl=>by simp at hl
 | c::rest,j,x::xs,hl=>by
  obtain⟨L,h1,h3,h⟩:=Vi i rest (j+1) xs (by simpa using hl)
  cases c with
  | d y=>
   refine⟨L,by simpa [bp] using h1,by simp [bp,h3],fun N ob hr=>?_⟩
   obtain⟨h2,h4⟩:=h N ob (fun k c' x' hc hx=>by have:=hr (k+1) c' x' (by simpa using hc) (by simpa using hx);rwa [show j+(k+1)=j+1+k by omega] at this)
   refine⟨h2,fun k c' x' hc hx=>?_⟩
   cases k with
   | zero=>
    have h0:=hr 0 (.d y) x rfl rfl
    simp [bp] at hc hx
    subst hc;subst hx
    exact .inl ⟨y,rfl,h0⟩
   | succ k=>exact h4 k c' x' (by simpa [bp] using hc) (by simpa using hx)
  | own sz rows=>
   refine⟨⟨i,j,.own sz rows,x⟩::L,by simp [bp,Imp.entry,Imp.name,RC.ent,h1],by simp [bp,h3],fun N ob hr=>?_⟩
   obtain⟨h2,h4⟩:=h N ob (fun k c' x' hc hx=>by have:=hr (k+1) c' x' (by simpa using hc) (by simpa using hx);rwa [show j+(k+1)=j+1+k by omega] at this)
   refine⟨fun q hq=>?_,fun k c' x' hc hx=>?_⟩
   ·rcases List.mem_cons.1 hq with rfl | hq
    ·exact⟨rfl,hr 0 (.own sz rows) x rfl rfl⟩
    ·exact h2 q hq
   ·cases k with
    | zero=>
     simp [bp] at hc hx
     subst hc;subst hx
     exact .inr ⟨_,List.mem_cons_self,rfl,rfl⟩
    | succ k=>
     rcases h4 k c' x' (by simpa [bp] using hc) (by simpa using hx) with h | ⟨q,hq,e⟩
     ·exact .inl h
     ·exact .inr ⟨q,List.mem_cons_of_mem _ hq,e⟩
  | obj cs off=>
   refine⟨⟨i,j,.obj cs off,x⟩::L,by simp [bp,Imp.entry,Imp.name,RC.ent,h1],by simp [bp,h3],fun N ob hr=>?_⟩
   obtain⟨h2,h4⟩:=h N ob (fun k c' x' hc hx=>by have:=hr (k+1) c' x' (by simpa using hc) (by simpa using hx);rwa [show j+(k+1)=j+1+k by omega] at this)
   refine⟨fun q hq=>?_,fun k c' x' hc hx=>?_⟩
   ·rcases List.mem_cons.1 hq with rfl | hq
    ·exact⟨rfl,hr 0 (.obj cs off) x rfl rfl⟩
    ·exact h2 q hq
   ·cases k with
    | zero=>
     simp [bp] at hc hx
     subst hc;subst hx
     exact .inr ⟨_,List.mem_cons_self,rfl,rfl⟩
    | succ k=>
     rcases h4 k c' x' (by simpa [bp] using hc) (by simpa using hx) with h | ⟨q,hq,e⟩
     ·exact .inl h
     ·exact .inr ⟨q,List.mem_cons_of_mem _ hq,e⟩
def G1 (w:World)(N:Nat->Prop)(dst:Nat)(L:List Imp)(p:Bool × List C)(v:Value):Prop:=
 ∃ xs:List Value,(if p.1 then v=.agg xs.toArray else xs=[v])/\p.2.length=xs.length /\
  ∀ (k:Nat) (c:C) (x:Value),p.2[k]?=some c->xs[k]?=some x->(∃ d,c=.d d/\aL w N d x)\/∃ q ∈ L,c=q.c.cell (q.name dst)/\q.x=x
theorem G1.more {N:Nat->Prop}{L L':List Imp}{p:Bool × List C}{v:Value}(h:G1 w N dst L p v)(hL:∀ q ∈ L,q ∈ L'):G1 w N dst L' p v:=by
 obtain⟨xs,h1,h2,h4⟩:=h
 refine⟨xs,h1,h2,fun k c x hc hx=>?_⟩
 rcases h4 k c x hc hx with h | ⟨q,hq,e⟩
 ·exact .inl h
 ·exact .inr ⟨q,hL q hq,e⟩
theorem JR {N1:Nat->Prop}{ob1:Nat->Nat->Option Nat}:∀ (res:List RV) (i:Nat) (vs:List Value),res.length=vs.length ->
  (∀ (k:Nat) (x:RV) (u:Value),res[k]?=some x->vs[k]?=some u->qy w N1 (ob1 (i+k)) x u) ->
  ∃ L:List Imp,(aW dst i res).2=L.map (Imp.entry dst)/\(aW dst i res).1.length=res.length /\
   ∀ (N:Nat->Prop) (ob:Nat->Nat->Option Nat),(∀ (k:Nat) (x:RV) (u:Value),res[k]?=some x->vs[k]?=some u->qy w N (ob (i+k)) x u) ->
   (∀ q ∈ L,q.c.new=true/\jF w N (ob q.i q.j) q.c q.x) /\
   ∀ (k:Nat) (p:Bool × List C) (u:Value),(aW dst i res).1[k]?=some p->vs[k]?=some u->G1 w N dst L p u
 | [],i,vs,hl,_=>⟨[],rfl,rfl,fun N ob h=>⟨by simp,by simp [aW]⟩⟩
 | x::rest,i,[],hl,_=>by simp at hl
 | (b,cs)::rest,i,u::vs,hl,hsh=>by
  obtain⟨L,h1,h3,h⟩:=JR (ob1:=ob1) rest (i+1) vs (by simpa using hl) (fun k c' x' hc hx=>by have:=hsh (k+1) c' x' (by simpa using hc) (by simpa using hx);rwa [show i+(k+1)=i+1+k by omega] at this)
  have hx:∃ xs:List Value,(if b then u=.agg xs.toArray else xs=[u])/\cs.length=xs.length /\
    ∀ (N:Nat->Prop) (ob:Nat->Option Nat),qy w N ob (b,cs) u->∀ (k:Nat) (c:RC) (x:Value),cs[k]?=some c->xs[k]?=some x->jF w N (ob (0+k)) c x:=by
   have h0:=hsh 0 (b,cs) u rfl rfl
   cases b with
   | true=>
    obtain⟨xs,rfl,e2,_⟩:=h0
    refine⟨xs.toList,by simp,by simpa using e2,fun N ob hr k c x hc hx=>?_⟩
    obtain⟨xs',e1,_,e3⟩:=hr
    simp only [Value.agg.injEq] at e1
    subst e1
    rw [Nat.zero_add]
    exact e3 k c x hc (by simpa using hx)
   | false=>
    obtain⟨c,rfl,_⟩:=h0
    refine⟨[u],by simp,rfl,fun N ob hr k c' x hc hx=>?_⟩
    obtain⟨c'',e1,e2⟩:=hr
    simp only [List.cons.injEq,and_true] at e1
    subst e1
    cases k with
    | zero=>simp at hc hx;subst hc;subst hx;exact e2
    | succ k=>simp at hc
  obtain⟨xs,e1,e2,e3⟩:=hx
  obtain⟨L',k1,k3,k⟩:=Vi (w:=w) (dst:=dst) i cs 0 xs e2
  refine⟨L'++L,by simp [aW,k1,h1],by simp [aW,h3],fun N ob hr=>?_⟩
  obtain⟨m1,m2⟩:=h N ob (fun k c' x' hc hx=>by have:=hr (k+1) c' x' (by simpa using hc) (by simpa using hx);rwa [show i+(k+1)=i+1+k by omega] at this)
  obtain⟨n1,n2⟩:=k N ob (e3 N (ob i) (hr 0 (b,cs) u rfl rfl))
  refine⟨fun q hq=>?_,fun k' p u' hp hu=>?_⟩
  ·rcases List.mem_append.1 hq with hq | hq
   ·exact n1 q hq
   ·exact m1 q hq
  ·cases k' with
   | zero=>
    simp [aW] at hp hu
    subst hp;subst hu
    exact (G1.more ⟨xs,e1,by rw [k3,e2],n2⟩ (fun q hq=>List.mem_append_left _ hq))
   | succ k'=>exact (m2 k' p u' (by simpa [aW] using hp) (by simpa using hu)).more (fun q hq=>List.mem_append_right _ hq)
theorem qW {n:Nat}:∀ {es:List (Nat × aC)},nk n es=true->aj es n=none
 | [],_=>rfl
 | p::r,h=>by
  simp only [nk] at h
  split at h
  ·cases h
  ·rename_i hp
   simp only [aj,hp,if_false]
   exact qW h
theorem qZ:∀ {es:List (Nat × aC)} {T:Tab},bL T es=true->∀ m,aj (aputs T es) m=(match aj es m with | some e=>some e | none=>aj T m)/\((aj es m).isSome->aj T m=none)
 | [],T,_,m=>⟨rfl,by simp [aj]⟩
 | (k,e)::r,T,h,m=>by
  simp only [bL,Bool.and_eq_true] at h
  obtain⟨⟨h1,h2⟩,h3⟩:=h
  have hk:=bX h1
  have hfr:bL (aput T k e) r=true:=by
   have:∀ {r:List (Nat × aC)},nk k r=true->bL T r=true->bL (aput T k e) r=true:=by
    intro r
    induction r with
    | nil=>intro _ _;rfl
    | cons p r ih=>
     intro a b
     simp only [nk] at a
     split at a
     ·cases a
     ·rename_i hp
      simp only [bL,Bool.and_eq_true] at b ⊢
      exact⟨⟨by rw [br _ _ hp];exact b.1.1,b.1.2⟩,ih a b.2⟩
   exact this h2 h3
  obtain⟨i1,i2⟩:=qZ hfr m
  simp only [aputs,aj]
  by_cases hm:k=m
  ·subst hm
   simp only [if_true]
   rw [i1,qW h2]
   exact⟨bf _ _ _,fun _=>hk⟩
  ·simp only [hm,if_false]
   rw [i1,br _ _ (Ne.symm hm)]
   refine⟨rfl,fun hs=>?_⟩
   have:=i2 hs
   rwa [br _ _ (Ne.symm hm)] at this
theorem gJ {L:List Imp}(q:Imp)(hq:q ∈ L):(aj (L.map (Imp.entry dst)) (q.name dst)).isSome:=by
 induction L with
 | nil=>simp at hq
 | cons p r ih=>
  simp only [List.map_cons,Imp.entry,aj]
  split
  ·rfl
  ·rcases List.mem_cons.1 hq with rfl | hq
   ·simp_all
   ·exact ih hq
def dU (dst:Nat)(m:Nat):List Imp->Option Imp
 | []=>none
 | q::r=>if q.name dst=m then some q else dU dst m r
theorem ow {m:Nat}:∀ {L:List Imp},aj (L.map (Imp.entry dst)) m=(dU dst m L).map fun q=>q.c.ent
 | []=>rfl
 | q::r=>by
  simp only [List.map_cons,Imp.entry,aj,dU]
  split
  ·rfl
  ·exact ow
theorem ik {m:Nat}{q:Imp}:∀ {L:List Imp},dU dst m L=some q->q ∈ L/\q.name dst=m
 | [],h=>by simp [dU] at h
 | p::r,h=>by
  simp only [dU] at h
  split at h
  ·simp only [Option.some.injEq] at h;subst h;exact⟨List.mem_cons_self,by assumption⟩
  ·have:=ik h;exact⟨List.mem_cons_of_mem _ this.1,this.2⟩
theorem jH {q:Imp}:∀ {L:List Imp} {T:Tab},bL T (L.map (Imp.entry dst))=true->q ∈ L->dU dst (q.name dst) L=some q
 | [],_,_,h=>by simp at h
 | p::r,T,hf,h=>by
  simp only [List.map_cons,bL,Bool.and_eq_true] at hf
  simp only [dU]
  rcases List.mem_cons.1 h with rfl | h
  ·simp
  ·have hne:p.name dst ≠ q.name dst:=fun e=>by
    have h1:=qW hf.1.2
    have h2:=gJ (dst:=dst) q h
    simp only [Imp.entry] at h1
    rw [e] at h1
    rw [h1] at h2
    cases h2
   rw [if_neg hne]
   exact jH hf.2 h
end Go.AM

namespace Go.AM
set_option linter.unusedVariables false
set_option linter.unusedSimpArgs false
open Go.RowKit
variable {P:Program}{E:Env}{w0:fB P}{w w':World}{N0:Nat->Prop}{g g':Gh}{T T':Tab}{r:Option Nat}{n:Nat}{o:Oper}{a:Act}{ρ:Operand->AV}{dst:Nat}
 {y:AV} {es:List (Nat × aC)}
theorem aL.flat {N N':Nat->Prop}{d:DC}{v:Value}(h:aL w N d v)(hf:gE d=false):aL w N' d v:=by
 cases h with
 | v h=>exact .v h
 | nan h=>exact .nan h
 | cx h1 h2=>exact .cx h1 h2
 | pt=>exact .pt
 | fn hl hd=>
  rename_i f caps cs
  cases caps with
  | nil=>exact .fn hl (by simp)
  | cons=>simp [gE] at hf
 | nil=>simp [gE] at hf
 | sl=>simp [gE] at hf
 | csl=>simp [gE] at hf
 | cref=>simp [gE] at hf
 | ifc=>simp [gE] at hf
theorem cj.less {N N':Nat->Prop}{sz:Nat}{rows:List (List DC)}{v:Value}{ob:Option Nat}(hd:∀ d v,(∃ r ∈ rows,d ∈ r)->aL w N d v->aL w N' d v)(h:cj w N sz rows v ob):cj w N' sz rows v ob:=by
 rcases h with h | ⟨b,off,cap,cells,t,fz,h1,h2,h3,h4,h5,h6,h7,h8,h9,h10⟩
 ·exact .inl h
 ·exact .inr ⟨b,off,cap,cells,t,fz,h1,h2,h3,h4,h5,h6,h7,h8,h9,fun i j r d hr hdd=>by
   obtain⟨c,hc,hx⟩:=h10 i j r d hr hdd
   exact⟨c,hc,hd d c ⟨r,List.mem_of_getElem? hr,List.mem_of_getElem? hdd⟩ hx⟩⟩
theorem UB {rows:List (List DC)}(h:gN rows=true){d:DC}(hd:∃ r ∈ rows,d ∈ r):gE d=false:=by
 obtain⟨r,hr,hd⟩:=hd
 have:=List.all_eq_true.1 (List.all_eq_true.1 h r hr) d hd
 simpa using this
theorem jF.less {N N':Nat->Prop}{ob:Option Nat}{c:RC}{v:Value}(hn:(∀ b,N' b->N b)\/dk c=false)(h:jF w N ob c v):jF w N' ob c v:=by
 cases c with
 | obj cs off=>
  obtain⟨b,cells,t,e1,e2,e3,e4,e5⟩:=h
  refine⟨b,cells,t,e1,e2,e3,e4,fun j d x hd hx=>?_⟩
  rcases hn with hn | hn
  ·exact (e5 j d x hd hx).less hn
  ·exact (e5 j d x hd hx).flat (by simpa using List.any_eq_false.1 hn d (List.mem_of_getElem? hd))
 | d x=>
  rcases hn with hn | hn
  ·exact aL.less hn h
  ·exact aL.flat h hn
 | own sz rows=>
  refine cj.less (fun d v hd hx=>?_) h
  rcases hn with hn | hn
  ·exact hx.less hn
  ·simp only [dk,Bool.not_eq_eq_eq_not,Bool.not_false] at hn
   exact hx.flat (UB hn hd)
theorem qy.less {N N':Nat->Prop}{ob:Nat->Option Nat}{x:RV}{v:Value}(hn:(∀ b,N' b->N b)\/x.2.any dk=false)(h:qy w N ob x v):qy w N' ob x v:=by
 obtain⟨b,cs⟩:=x
 have hc:∀ c ∈ cs,(∀ b,N' b->N b)\/dk c=false:=fun c hc=>by
  rcases hn with hn | hn
  ·exact .inl hn
  ·exact .inr (by simpa using List.any_eq_false.1 hn c hc)
 cases b with
 | true=>
  obtain⟨xs,h1,h2,h3⟩:=h
  exact⟨xs,h1,h2,fun j c x hcj hx=>(h3 j c x hcj hx).less (hc c (List.mem_of_getElem? hcj))⟩
 | false=>
  obtain⟨c,h1,h2⟩:=h
  subst h1
  exact⟨c,rfl,h2.less (hc c (by simp))⟩
theorem JA {N:Nat->Prop}{l:List (Bool × List C)}{vs:Array Value}(hl:l.length=vs.size)(h:∀ (i:Nat) (p:Bool × List C) (x:Value),l[i]?=some p->vs[i]?=some x->gh w N g T p.1 p.2 x) :
  aH w N g T (xE l) (if h:vs.size=1 then vs[0] else .tuple vs):=by
 unfold xE
 split
 ·rename_i b cs
  have h1:vs.size=1:=by simpa using hl.symm
  rw [dif_pos h1]
  exact h 0 (b,cs) _ rfl (by simp [h1])
 ·rename_i hne
  have h1:¬ vs.size=1:=fun h1=>by
   cases l with
   | nil=>simp at hl;omega
   | cons p rest=>
    cases rest with
    | nil=>exact hne p.1 p.2 rfl
    | cons=>simp at hl;omega
  rw [dif_neg h1]
  exact⟨vs,rfl,hl,h⟩
theorem K7 (hM:Mem w0 N0 g T w){names:List Nat}{res:List RV}{v:Value}(hext:Below w.heap.size w w')(hres:XH w (dl N0 g T names) res v w')
  (hc:cH dst T names res=some (y,es)):Res w0 N0 g T w y es v w':=by
 obtain⟨vs,ob,hv,hlen,hrel,hrng,hinj⟩:=hres
 have hfz:∃ frz,(cH dst T names res=if bL (aputs T frz) (aW dst 0 res).2 then some (xE (aW dst 0 res).1,frz++(aW dst 0 res).2) else none)/\Mem w0 N0 g (aputs T frz) w/\aU N0 g T w g (aputs T frz) w /\
   ((∀ b,ap N0 g (aputs T frz) b->dl N0 g T names b)\/res.any (fun r=>r.2.any dk)=false):=by
  cases hne:names.isEmpty with
  | true=>
   have:names=[]:=List.isEmpty_iff.1 hne
   subst this
   obtain⟨k1,k2,k3⟩:=cA [] hM
   exact⟨[],by simp [cH],hM,aU.refl,.inl k3⟩
  | false=>
   cases hvw:res.any (fun r=>r.2.any dk) with
   | true=>
    obtain⟨k1,k2,k3⟩:=cA names hM
    exact⟨aQ T names,by simp [cH,hne,hvw],k1,k2,.inl k3⟩
   | false=>exact⟨[],by simp [cH,hne,hvw],hM,aU.refl,.inr rfl⟩
 obtain⟨frz,heq,hM1,hK1,hav⟩:=hfz
 rw [heq] at hc
 split at hc
 ·rename_i hfr
  simp only [Option.some.injEq,Prod.mk.injEq] at hc
  obtain⟨rfl,rfl⟩:=hc
  refine Res.trans hK1 ?_
  obtain⟨L,h1,h3,h4⟩:=JR (dst:=dst) (ob1:=ob) res 0 vs.toList (by simpa using hlen) (fun k x u hx hu=>by rw [Nat.zero_add];exact hrel k x u hx (by simpa using hu))
  rw [h1] at hfr
  rw [h1]
  have hget:=qZ hfr
  have hview:∀ (x:RV),x ∈ res->res.any (fun r=>r.2.any dk)=false->x.2.any dk=false:=fun x hx h=>by simpa using List.any_eq_false.1 h x hx
  let g':Gh:={
           blk:=fun m=>if (aj (aputs T frz) m).isSome then g.blk m else (dU dst m L).bind fun q=>ob q.i q.j
           sv:=fun m=>if (aj (aputs T frz) m).isSome then g.sv m else ((dU dst m L).map Imp.x).getD undef
           st:=fun m=>if (aj (aputs T frz) m).isSome then g.st m else ((dU dst m L).map fun q=>q.c.wid).getD 0 }
  have hnewq:∀ q ∈ L,aj (aputs T frz) (q.name dst)=none:=fun q hq=>(hget (q.name dst)).2 (gJ q hq)
  have hblk:∀ q ∈ L,g'.blk (q.name dst)=ob q.i q.j/\g'.sv (q.name dst)=q.x/\g'.st (q.name dst)=q.c.wid:=fun q hq=>by
   simp [g',hnewq q hq,jH hfr hq]
  have hfind:∀ m,aj (aputs T frz) m=none->(aj (aputs (aputs T frz) (L.map (Imp.entry dst))) m).isSome->∃ q ∈ L,q.name dst=m/\aj (aputs (aputs T frz) (L.map (Imp.entry dst))) m=some q.c.ent:=fun m hm hs=>by
   have:=(hget m).1
   rw [ow] at this
   cases hq:dU dst m L with
   | none=>rw [hq] at this;simp only [Option.map_none] at this;rw [this,hm] at hs;cases hs
   | some q=>rw [hq] at this;simp only [Option.map_some] at this;exact⟨q,(ik hq).1,(ik hq).2,this⟩
  -- what is avoided behind the call
  have hav2:∀ b,ap N0 g' (aputs (aputs T frz) (L.map (Imp.entry dst))) b->ap N0 g (aputs T frz) b\/∃ i j,ob i j=some b:=by
   rintro b (hb | ⟨m,hl,hbm⟩)
   ·exact .inl (.inl hb)
   ·cases hm:aj (aputs T frz) m with
    | none=>
     obtain⟨q,hq,rfl,_⟩:=hfind m hm (bV hl)
     rw [(hblk q hq).1] at hbm
     exact .inr ⟨_,_,hbm⟩
    | some e=>
     refine .inl (.inr ⟨m,?_,?_⟩)
     ·unfold live at hl ⊢
      rw [(hget m).1] at hl
      cases hq:aj (L.map (Imp.entry dst)) m with
      | none=>rw [hq] at hl;exact hl
      | some e'=>have:=(hget m).2 (by rw [hq];rfl);rw [hm] at this;cases this
     ·simpa [g',hm] using hbm
  have hrel2:∀ (k:Nat) (x:RV) (u:Value),res[k]?=some x->vs[k]?=some u->qy w' (ap N0 g' (aputs (aputs T frz) (L.map (Imp.entry dst)))) (ob k) x u:=fun k x u hx hu=>by
   refine (hrel k x u hx hu).less ?_
   rcases hav with hav | hav
   ·refine .inl fun b hb=>?_
    rcases hav2 b hb with h | h
    ·exact .inl (hav b h)
    ·exact .inr h
   ·exact .inr (hview x (List.mem_of_getElem? hx) hav)
  obtain⟨hSO,hIV⟩:=h4 _ ob (fun k x u hx hu=>by rw [Nat.zero_add];exact hrel2 k x u hx (by simpa using hu))
  obtain⟨q1,q2⟩:=hM1.creates (g':=g') (T':=aputs (aputs T frz) (L.map (Imp.entry dst))) hext (fun m hm=>by
    rw [(hget m).1]
    cases hq:aj (L.map (Imp.entry dst)) m with
    | none=>rfl
    | some e=>have:=(hget m).2 (by rw [hq];rfl);rw [this] at hm;cases hm)
   (fun m hm=>by simp [g',hm])
   (fun m b hm hl hb=>by
    obtain⟨q,hq,rfl,_⟩:=hfind m hm (bV hl)
    rw [(hblk q hq).1] at hb
    exact hrng _ _ b hb)
   (fun m k b hm hk hlm hlk hbm hbk=>by
    obtain⟨q,hq,rfl,_⟩:=hfind m hm (bV hlm)
    obtain⟨p,hp,rfl,_⟩:=hfind k hk (bV hlk)
    rw [(hblk q hq).1] at hbm
    rw [(hblk p hp).1] at hbk
    obtain⟨e1,e2⟩:=hinj _ _ _ _ b hbm hbk
    simp [Imp.name,e1,e2])
   (fun hK m e hm he=>by
    obtain⟨q,hq,rfl,hq'⟩:=hfind m hm (eV he)
    rw [he] at hq'
    simp only [Option.some.injEq] at hq'
    subst hq'
    obtain⟨b1,b2,b3⟩:=hblk q hq
    exact (hSO q hq).2.erel (hSO q hq).1 b1 b2 b3)
  refine⟨g',q1,q2,?_⟩
  rw [hv]
  refine JA (by rw [h3,hlen]) (fun i p x hp hx=>?_)
  obtain⟨xs,e1,e2,e3⟩:=hIV i p x hp (by simpa using hx)
  have hcell:∀ (k:Nat) (c:C) (u:Value),p.2[k]?=some c->xs[k]?=some u->cF w' (ap N0 g' (aputs (aputs T frz) (L.map (Imp.entry dst)))) g' (aputs (aputs T frz) (L.map (Imp.entry dst))) c u:=fun k c u hc hu=>by
   rcases e3 k c u hc hu with ⟨d,rfl,hd⟩ | ⟨q,hq,rfl,hqx⟩
   ·exact hd
   ·obtain⟨b1,b2,b3⟩:=hblk q hq
    subst hqx
    refine ((hSO q hq).2.crel (hSO q hq).1 b1 b2 ?_).1
    rw [(hget _).1]
    have:=gJ (dst:=dst) q hq
    cases hz:aj (L.map (Imp.entry dst)) (q.name dst) with
    | none=>rw [hz] at this;cases this
    | some e=>rfl
  obtain⟨b,cs⟩:=p
  cases b with
  | true=>
   simp only [if_true] at e1
   exact⟨xs.toArray,e1,by simpa using e2,fun k c u hc hu=>hcell k c u hc (by simpa using hu)⟩
  | false=>
   simp only [Bool.false_eq_true,if_false] at e1
   subst e1
   obtain⟨c,rfl⟩:∃ c,cs=[c]:=by
    cases cs with
    | nil=>simp at e2
    | cons c rest=>simp at e2;subst e2;exact⟨c,rfl⟩
   exact⟨c,rfl,hcell 0 c x rfl rfl⟩
 ·cases hc
theorem Mem.createsM (hM:Mem w0 N0 g T w){ns is:List Nat}(hext:vn ((ns++is).filterMap g.blk) w w')(hns:∀ n ∈ ns,live T n)(hnb:∀ n ∈ ns,∃ b,g.blk n=some b)(his:∀ n ∈ is,live T n)
  (hT:∀ m,(aj T m).isSome->m ∉ ns->m ∉ is->aj T' m=aj T m) (hT2:∀ n ∈ ns,live T' n) (hT3:∀ n ∈ is,aj T' n=some .dead)
  (hg:∀ m,(aj T m).isSome->g'.blk m=g.blk m/\g'.sv m=g.sv m/\g'.st m=g.st m)
  (hnew:∀ m b,aj T m=none->live T' m->g'.blk m=some b->(w.heap.size<=b\/∃ n ∈ is,g.blk n=some b)/\b < w'.heap.size)
  (hinj:∀ m k b,aj T m=none->aj T k=none->live T' m->live T' k->g'.blk m=some b->g'.blk k=some b->m=k)
  (hE:aU N0 g T w g' T' w'->∀ m e,(aj T m=none\/m ∈ ns)->aj T' m=some e->qr w' (ap N0 g' T') g' T' m e) :
  Mem w0 N0 g' T' w'/\aU N0 g T w g' T' w':=by
 have hdead:∀ n ∈ is,¬ live T' n:=fun n hn hl=>by unfold live at hl;rw [hT3 n hn] at hl;exact hl
 have hold:∀ m,(aj T m).isSome->live T' m->live T m:=fun m hm hl=>by
  by_cases hin:m ∈ ns
  ·exact hns m hin
  ·by_cases hii:m ∈ is
   ·exact his m hii
   ·unfold live at hl ⊢;rw [hT m hm hin hii] at hl;exact hl
 have hcase:∀ m,aj T m=none\/(aj T m).isSome:=fun m=>by cases aj T m <;> simp
 have hlv:∀ n ∈ ns++is,live T n:=fun n hn=>(List.mem_append.1 hn).elim (hns n) (his n)
 have hbl:∀ b,b ∈ (ns++is).filterMap g.blk->∃ n ∈ ns++is,g.blk n=some b:=fun b hb=>by
  obtain⟨n,h1,h2⟩:=List.mem_filterMap.1 hb
  exact⟨n,h1,h2⟩
 have hnot:∀ m b,m ∉ ns->m ∉ is->live T m->g.blk m=some b->b ∉ (ns++is).filterMap g.blk:=fun m b hm hi hl hb hx=>by
  obtain⟨n,h1,h2⟩:=hbl b hx
  have:=hM.inj n m b (hlv n h1) hl h2 hb
  subst this
  exact (List.mem_append.1 h1).elim hm hi
 have hK:aU N0 g T w g' T' w':=by
  refine aU.of hext.size (fun b hb ha=>hext.block b hb fun hx=>?_) (fun b hb ha=>?_) (fun m hm=>?_) hg
  ·obtain⟨n,h1,h2⟩:=hbl b hx
   exact ha (.inr ⟨n,hlv n h1,h2⟩)
  ·rcases ha with ha | ⟨m,hl,hbm⟩
   ·exact .inl ha
   ·rcases hcase m with hm | hm
    ·rcases (hnew m b hm hl hbm).1 with h | ⟨n,h1,h2⟩
     ·omega
     ·exact .inr ⟨n,his n h1,h2⟩
    ·exact .inr ⟨m,hold m hm hl,by rw [<- (hg m hm).1];exact hbm⟩
  ·by_cases hin:m ∈ ns
   ·exact bV (hT2 m hin)
   ·by_cases hii:m ∈ is
    ·rw [hT3 m hii];rfl
    ·rw [hT m hm hin hii];exact hm
 have hover:rx w0 w w':=⟨hext.os,hext.tape,hext.output,hext.size,fun k hk ho=>hext.block k (Nat.lt_of_lt_of_le hk hM.below.size) fun hx=>by
  obtain⟨n,h1,h2⟩:=hbl k hx
  exact (hM.rng n k (hlv n h1) h2).1.elim (fun h=>by omega) ho⟩
 have hmix:∀ m k b,aj T m=none->(aj T k).isSome->live T' m->live T' k->g'.blk m=some b->g'.blk k=some b->False:=fun m k b h1 h2 hm hk bm bk=>by
  have hk':=hold k h2 hk
  rw [(hg k h2).1] at bk
  have hr:=(hM.rng k b hk' bk).2
  rcases (hnew m b h1 hm bm).1 with h | ⟨n,n1,n2⟩
  ·omega
  ·have:=hM.inj n k b (his n n1) hk' n2 bk
   subst this
   exact hdead n n1 hk
 refine⟨hM.upd hover hK (fun m e' he'=>?_) (fun m k b hm hk bm bk=>?_) (fun m b hm bm=>?_),hK⟩
 ·rcases hcase m with h | h
  ·exact .inr (hE hK m e' (.inl h) he')
  ·by_cases hin:m ∈ ns
   ·exact .inr (hE hK m e' (.inr hin) he')
   ·by_cases hii:m ∈ is
    ·rw [hT3 m hii] at he'
     simp only [Option.some.injEq] at he'
     subst he'
     exact .inr trivial
    ·rw [hT m h hin hii] at he'
     exact .inl ⟨he',fun b hl hb=>hext.block b (hM.rng m b hl hb).2 (hnot m b hin hii hl hb)⟩
 ·rcases hcase m with h1 | h1 <;> rcases hcase k with h2 | h2
  ·exact hinj m k b h1 h2 hm hk bm bk
  ·exact (hmix m k b h1 h2 hm hk bm bk).elim
  ·exact (hmix k m b h2 h1 hk hm bk bm).elim
  ·rw [(hg m h1).1] at bm
   rw [(hg k h2).1] at bk
   exact hM.inj m k b (hold m h1 hm) (hold k h2 hk) bm bk
 ·rcases hcase m with h1 | h1
  ·have h:=hnew m b h1 hm bm
   refine⟨?_,h.2⟩
   rcases h.1 with h' | ⟨n,n1,n2⟩
   ·exact .inl (Nat.le_trans hM.below.size h')
   ·exact (hM.rng n b (his n n1) n2).1
  ·rw [(hg m h1).1] at bm
   have:=hM.rng m b (hold m h1 hm) bm
   exact⟨this.1,Nat.lt_of_lt_of_le this.2 hext.size⟩
theorem wt:∀ {is:List Nat} {T:Tab} {m:Nat},(m ∈ is->aj (aputs T (EV is)) m=some .dead)/\(m ∉ is->aj (aputs T (EV is)) m=aj T m)
 | [],T,m=>⟨fun h=>by simp at h,fun _=>rfl⟩
 | n::r,T,m=>by
  obtain⟨h1,h2⟩:=wt (is:=r) (T:=aput T n .dead) (m:=m)
  refine⟨fun h=>?_,fun h=>?_⟩
  ·show aj (aputs (aput T n .dead) (EV r)) m=_
   by_cases hr:m ∈ r
   ·exact h1 hr
   ·rw [h2 hr]
    obtain rfl:=(List.mem_cons.1 h).resolve_right hr
    exact bf _ _ _
  ·simp only [List.mem_cons,not_or] at h
   show aj (aputs (aput T n .dead) (EV r)) m=_
   rw [h2 h.2,br _ _ h.1]
theorem fc:∀ (names:List Nat) {T:Tab} {n:Nat},n ∉ names->aj (aputs T (aQ T names)) n=aj T n
 | [],_,_,_=>rfl
 | m::r,T,n,h=>by
  have h1:n ≠ m:=fun e=>h (by simp [e])
  have h2:n ∉ r:=fun e=>h (by simp [e])
  simp only [aQ]
  split
  ·simp only [aputs];rw [fc r h2,br _ _ h1]
  ·simp only [aputs];rw [fc r h2,br _ _ h1]
  ·exact fc r h2
theorem AX:∀ {ns:List Nat} {l:List (Bool × List C)} {bs:List (Nat × aC)},wF ns l=some bs ->
  l.length=ns.length/\(ns.Nodup->∀ {T:Tab},(∀ m,m ∉ ns->aj (aputs T bs) m=aj T m)/\∀ (k n:Nat),ns[k]?=some n->∃ cs,l[k]?=some (true,cs)/\aj (aputs T bs) n=some (.box cs))
 | [],[],bs,h=>by
  simp only [wF,Option.some.injEq] at h
  subst h
  exact⟨rfl,fun _ T=>⟨fun _ _=>rfl,fun k n h=>by simp at h⟩⟩
 | [],_::_,bs,h=>by simp [wF] at h
 | n::ns,[],bs,h=>by simp [wF] at h
 | n::ns,(false,cs)::r,bs,h=>by simp [wF] at h
 | n::ns,(true,cs)::r,bs,h=>by
  simp only [wF] at h
  split at h
  ·rename_i es he
   simp only [Option.some.injEq] at h
   subst h
   obtain⟨h1,h2⟩:=AX he
   refine⟨by simp [h1],fun hnd T=>?_⟩
   obtain⟨h3,h4⟩:=h2 (List.nodup_cons.1 hnd).2 (T:=aput T n (.box cs))
   refine⟨fun m hm=>?_,fun k m hk=>?_⟩
   ·simp only [List.mem_cons,not_or] at hm
    simp only [aputs]
    rw [h3 m hm.2,br _ _ hm.1]
   ·cases k with
    | zero=>
     simp only [List.getElem?_cons_zero,Option.some.injEq] at hk
     subst hk
     refine⟨cs,rfl,?_⟩
     simp only [aputs]
     rw [h3 n (List.nodup_cons.1 hnd).1,bf]
    | succ k=>
     obtain⟨cs',e1,e2⟩:=h4 k m (by simpa using hk)
     exact⟨cs',by simpa using e1,e2⟩
  ·cases h
theorem HI:∀ {bs:List Nat} {us:List Value} {w:World},j7 w bs us->us.length=bs.length/\∀ (k b:Nat) (u:Value),bs[k]?=some b->us[k]?=some u->∃ cells t,w.heap[b]?=some (.cells cells t (0,0))/\u=.agg cells
 | [],us,w,h=>by obtain rfl:us=[]:=h;exact⟨rfl,fun k b u hb=>by simp at hb⟩
 | b::bs,[],w,h=>h.elim
 | b::bs,u::us,w,h=>by
  obtain⟨h1,h2⟩:=HI h.2
  refine⟨by simp [h1],fun k b' u' hb hu=>?_⟩
  cases k with
  | zero=>simp at hb hu;subst hb;subst hu;exact h.1
  | succ k=>exact h2 k b' u' (by simpa using hb) (by simpa using hu)
theorem Bb:∀ {ns:List Nat},(fx g ns).length=ns.length/\∀ (k n b:Nat),ns[k]?=some n->g.blk n=some b->(fx g ns)[k]?=some b
 | []=>⟨rfl,fun k n b h=>by simp at h⟩
 | n::ns=>by
  obtain⟨h1,h2⟩:=Bb (ns:=ns)
  refine⟨by simp [fx,h1],fun k m b hk hb=>?_⟩
  cases k with
  | zero=>simp at hk;subst hk;simp [fx,hb]
  | succ k=>simp only [fx,List.getElem?_cons_succ];exact h2 k m b (by simpa using hk) hb
theorem xl (hM:Mem w0 N0 g T w){names ns is:List Nat}{res:List RV}{v:Value}{us:List Value}(hext:vn (g6 (fx g ns) (is.map g.blk)) w w')(houts:j7 w' (fx g ns) us)(hres:yS w (dl N0 g T names) (is.map g.blk) res us v w')
  (hbox:∀ n ∈ ns,∃ cs,aj T n=some (.box cs)) (hblkn:∀ n ∈ ns,∃ b,g.blk n=some b) (hown:∀ n ∈ is,∃ sz rows,aj T n=some (.own sz rows)) (hdis:∀ n ∈ ns++is,n ∉ names) (hnd':(ns++is).Nodup)
  (hc:dG dst T names ns is res=some (y,es)):Res w0 N0 g T w y es v w':=by
 obtain⟨vs,ob,hv,hlen,hrel,hrng,hinj⟩:=hres
 have hnd:ns.Nodup:=(List.nodup_append.1 hnd').1
 have hni:∀ n ∈ ns,n ∉ is:=fun n h1 h2=>(List.nodup_append.1 hnd').2.2 n h1 n h2 rfl
 have hfz:∃ frz,dG dst T names ns is res=SU T frz (aW dst 0 res).2 (aW dst 0 res).1 ns is/\Mem w0 N0 g (aputs T frz) w/\aU N0 g T w g (aputs T frz) w /\
   ((∀ b,ap N0 g (aputs T frz) b->dl N0 g T names b)\/res.any (fun r=>r.2.any dk)=false)/\∀ n ∈ ns++is,aj (aputs T frz) n=aj T n:=by
  cases hne:names.isEmpty with
  | true=>
   have:names=[]:=List.isEmpty_iff.1 hne
   subst this
   obtain⟨k1,k2,k3⟩:=cA [] hM
   exact⟨[],by simp [dG],hM,aU.refl,.inl k3,fun _ _=>rfl⟩
  | false=>
   cases hvw:res.any (fun r=>r.2.any dk) with
   | true=>
    obtain⟨k1,k2,k3⟩:=cA names hM
    exact⟨aQ T names,by simp [dG,hne,hvw],k1,k2,.inl k3,fun n hn=>fc names (hdis n hn)⟩
   | false=>exact⟨[],by simp [dG,hne,hvw],hM,aU.refl,.inr rfl,fun _ _=>rfl⟩
 obtain⟨frz,heq,hM1,hK1,hav,hfn⟩:=hfz
 rw [heq] at hc
 unfold SU at hc
 split at hc
 ·rename_i bs hbs
  split at hc
  ·rename_i hfr
   simp only [Option.some.injEq,Prod.mk.injEq] at hc
   obtain⟨rfl,rfl⟩:=hc
   refine Res.trans hK1 ?_
   rw [Gw hblkn] at hext
   have hus:=HI houts
   have hbl:=Bb (g:=g) (ns:=ns)
   have hun:us.length=ns.length:=by rw [hus.1,hbl.1]
   obtain⟨L,h1,h3,h4⟩:=JR (dst:=dst) (ob1:=ob) res 0 (vs.toList++us) hlen (fun k x u hx hu=>by rw [Nat.zero_add];exact hrel k x u hx hu)
   rw [h1] at hfr
   rw [h1]
   have hll:(aW dst 0 res).1.length - ns.length=vs.size:=by rw [h3,hlen,List.length_append,hun];simp
   rw [hll] at hbs
   rw [hll]
   obtain⟨hbl1,hbl2⟩:=AX hbs
   obtain⟨hbo',hbi⟩:=hbl2 hnd (T:=aputs (aputs (aputs T frz) (L.map (Imp.entry dst))) (EV is))
   have hbo:∀ m,m ∉ ns->m ∉ is->aj (aputs (aputs (aputs (aputs T frz) (L.map (Imp.entry dst))) (EV is)) bs) m=aj (aputs (aputs T frz) (L.map (Imp.entry dst))) m:=fun m h1 h2=>by rw [hbo' m h1,wt.2 h2]
   have hbd:∀ m,m ∈ is->aj (aputs (aputs (aputs (aputs T frz) (L.map (Imp.entry dst))) (EV is)) bs) m=some .dead:=fun m h=>by rw [hbo' m fun h1=>hni m h1 h,wt.1 h]
   have hget:=qZ hfr
   have hview:∀ (x:RV),x ∈ res->res.any (fun r=>r.2.any dk)=false->x.2.any dk=false:=fun x hx h=>by simpa using List.any_eq_false.1 h x hx
   unfold Res
   rw [df,df]
   generalize hT3:aputs (aputs (aputs (aputs T frz) (L.map (Imp.entry dst))) (EV is)) bs=T3 at hbo hbi hbd
   have hidx:∀ n ∈ ns,∃ k,ns[k]?=some n:=fun n hn=>List.mem_iff_getElem?.1 hn
   have hboxed:∀ n ∈ ns,∃ cs,aj T3 n=some (.box cs):=fun n hn=>by
    obtain⟨k,hk⟩:=hidx n hn
    obtain⟨cs,_,h⟩:=hbi k n hk
    exact⟨cs,h⟩
   have hsomeT:∀ n ∈ ns,(aj (aputs T frz) n).isSome:=fun n hn=>by
    obtain⟨cs,h⟩:=hbox n hn
    rw [hfn n (List.mem_append_left _ hn),h];rfl
   have hsomeI:∀ n ∈ is,(aj (aputs T frz) n).isSome:=fun n hn=>by
    obtain⟨sz,rows,h⟩:=hown n hn
    rw [hfn n (List.mem_append_right _ hn),h];rfl
   let g':Gh:={
            blk:=fun m=>if (aj (aputs T frz) m).isSome then g.blk m else (dU dst m L).bind fun q=>ob q.i q.j
            sv:=fun m=>if (aj (aputs T frz) m).isSome then g.sv m else ((dU dst m L).map Imp.x).getD undef
            st:=fun m=>if (aj (aputs T frz) m).isSome then g.st m else ((dU dst m L).map fun q=>q.c.wid).getD 0 }
   have hnewq:∀ q ∈ L,aj (aputs T frz) (q.name dst)=none:=fun q hq=>(hget (q.name dst)).2 (gJ q hq)
   have hblk:∀ q ∈ L,g'.blk (q.name dst)=ob q.i q.j/\g'.sv (q.name dst)=q.x/\g'.st (q.name dst)=q.c.wid:=fun q hq=>by
    simp [g',hnewq q hq,jH hfr hq]
   have hnewns:∀ m,aj (aputs T frz) m=none->m ∉ ns:=fun m hm hn=>by
    have:=hsomeT m hn;rw [hm] at this;cases this
   have hnewis:∀ m,aj (aputs T frz) m=none->m ∉ is:=fun m hm hn=>by
    have:=hsomeI m hn;rw [hm] at this;cases this
   have hfind:∀ m,aj (aputs T frz) m=none->(aj T3 m).isSome->∃ q ∈ L,q.name dst=m/\aj T3 m=some q.c.ent:=fun m hm hs=>by
    have:=(hget m).1
    rw [ow] at this
    rw [hbo m (hnewns m hm) (hnewis m hm)] at hs ⊢
    cases hq:dU dst m L with
    | none=>rw [hq] at this;simp only [Option.map_none] at this;rw [this,hm] at hs;cases hs
    | some q=>rw [hq] at this;simp only [Option.map_some] at this;exact⟨q,(ik hq).1,(ik hq).2,this⟩
   have hsame:∀ m,(aj (aputs T frz) m).isSome->m ∉ ns->m ∉ is->aj T3 m=aj (aputs T frz) m:=fun m hm hn hi=>by
    rw [hbo m hn hi,(hget m).1]
    cases hq:aj (L.map (Imp.entry dst)) m with
    | none=>rfl
    | some e=>have:=(hget m).2 (by rw [hq];rfl);rw [this] at hm;cases hm
   have hlivens:∀ n ∈ ns,live (aputs T frz) n:=fun n hn=>by
    obtain⟨cs,h⟩:=hbox n hn
    unfold live;rw [hfn n (List.mem_append_left _ hn),h];trivial
   have hliveis:∀ n ∈ is,live (aputs T frz) n:=fun n hn=>by
    obtain⟨sz,rows,h⟩:=hown n hn
    unfold live;rw [hfn n (List.mem_append_right _ hn),h];trivial
   have hnois:∀ m b,m ∉ is->live (aputs T frz) m->g.blk m=some b->some b ∉ is.map g.blk:=fun m b hm hl hb hx=>by
    obtain⟨n,hn,he⟩:=List.mem_map.1 hx
    have:=hM1.inj m n b hl (hliveis n hn) hb he
    subst this
    exact hm hn
   have hlive3:∀ n ∈ ns,live T3 n:=fun n hn=>by
    obtain⟨cs,h⟩:=hboxed n hn
    unfold live;rw [h];trivial
   have hav2:∀ b,ap N0 g' T3 b->(ap N0 g (aputs T frz) b/\some b ∉ is.map g.blk)\/∃ i j,ob i j=some b:=by
    rintro b (hb | ⟨m,hl,hbm⟩)
    ·refine .inl ⟨.inl hb,fun hx=>?_⟩
     obtain⟨n,hn,he⟩:=List.mem_map.1 hx
     have h1:=hM1.n0 b hb
     exact (hM1.rng n b (hliveis n hn) he).1.elim (fun h=>by omega) h1.2.1
    ·cases hm:aj (aputs T frz) m with
     | none=>
      obtain⟨q,hq,rfl,_⟩:=hfind m hm (bV hl)
      rw [(hblk q hq).1] at hbm
      exact .inr ⟨_,_,hbm⟩
     | some e=>
      have hmi:m ∉ is:=fun hi=>by unfold live at hl;rw [hbd m hi] at hl;exact hl
      have hlm:live (aputs T frz) m:=by
       by_cases hn:m ∈ ns
       ·exact hlivens m hn
       ·unfold live at hl ⊢
        rw [hsame m (by rw [hm];rfl) hn hmi] at hl
        exact hl
      have hbg:g.blk m=some b:=by simpa [g',hm] using hbm
      exact .inl ⟨.inr ⟨m,hlm,hbg⟩,hnois m b hmi hlm hbg⟩
   have hrel2:∀ (k:Nat) (x:RV) (u:Value),res[k]?=some x->(vs.toList++us)[k]?=some u->qy w' (ap N0 g' T3) (ob k) x u:=fun k x u hx hu=>by
    refine (hrel k x u hx hu).less ?_
    rcases hav with hav | hav
    ·refine .inl fun b hb=>?_
     rcases hav2 b hb with h | h
     ·exact .inl ⟨hav b h.1,h.2⟩
     ·exact .inr h
    ·exact .inr (hview x (List.mem_of_getElem? hx) hav)
   obtain⟨hSO,hIV⟩:=h4 _ ob (fun k x u hx hu=>by rw [Nat.zero_add];exact hrel2 k x u hx hu)
   have hcellG:∀ (p:Bool × List C) (xs:List Value),(∀ (k:Nat) (c:C) (x:Value),p.2[k]?=some c->xs[k]?=some x->(∃ d,c=.d d/\aL w' (ap N0 g' T3) d x)\/∃ q ∈ L,c=q.c.cell (q.name dst)/\q.x=x) ->
     ∀ (k:Nat) (c:C) (u:Value),p.2[k]?=some c->xs[k]?=some u->cF w' (ap N0 g' T3) g' T3 c u/\okC c=true:=fun p xs e3 k c u hc hu=>by
    rcases e3 k c u hc hu with ⟨d,rfl,hd⟩ | ⟨q,hq,rfl,hqx⟩
    ·exact⟨hd,rfl⟩
    ·obtain⟨b1,b2,b3⟩:=hblk q hq
     subst hqx
     refine (hSO q hq).2.crel (hSO q hq).1 b1 b2 ?_
     rw [hbo _ (hnewns _ (hnewq q hq)) (hnewis _ (hnewq q hq)),(hget _).1]
     have:=gJ (dst:=dst) q hq
     cases hz:aj (L.map (Imp.entry dst)) (q.name dst) with
     | none=>rw [hz] at this;cases this
     | some e=>rfl
   obtain⟨q1,q2⟩:=hM1.createsM (ns:=ns) (is:=is) (g':=g') (T':=T3) hext hlivens hblkn hliveis hsame hlive3 hbd
    (fun m hm=>by simp [g',hm])
    (fun m b hm hl hb=>by
     obtain⟨q,hq,rfl,_⟩:=hfind m hm (bV hl)
     rw [(hblk q hq).1] at hb
     refine⟨(hrng _ _ b hb).1.imp id fun h=>?_,(hrng _ _ b hb).2⟩
     obtain⟨n,hn,he⟩:=List.mem_map.1 h
     exact⟨n,hn,he⟩)
    (fun m k b hm hk hlm hlk hbm hbk=>by
     obtain⟨q,hq,rfl,_⟩:=hfind m hm (bV hlm)
     obtain⟨p,hp,rfl,_⟩:=hfind k hk (bV hlk)
     rw [(hblk q hq).1] at hbm
     rw [(hblk p hp).1] at hbk
     obtain⟨e1,e2⟩:=hinj _ _ _ _ b hbm hbk
     simp [Imp.name,e1,e2])
    (fun hK m e hm he=>by
     rcases hm with hm | hn
     ·obtain⟨q,hq,rfl,hq'⟩:=hfind m hm (eV he)
      rw [he] at hq'
      simp only [Option.some.injEq] at hq'
      subst hq'
      obtain⟨b1,b2,b3⟩:=hblk q hq
      exact (hSO q hq).2.erel (hSO q hq).1 b1 b2 b3
     ·obtain⟨k,hk⟩:=hidx m hn
      obtain⟨cs,hcs,hbx⟩:=hbi k m hk
      rw [he] at hbx
      simp only [Option.some.injEq] at hbx
      subst hbx
      obtain⟨b,hb⟩:=hblkn m hn
      have hkl:k < ns.length:=(List.getElem?_eq_some_iff.1 hk).1
      have huk:us[k]?=some us[k]:=by simp
      obtain⟨cells,t,hh,hu⟩:=hus.2 k b us[k] (hbl.2 k m b hk hb) huk
      have hcs':(aW dst 0 res).1[vs.size+k]?=some (true,cs):=by rw [<- hcs,List.getElem?_drop]
      obtain⟨xs,e1,e2,e3⟩:=hIV (vs.size+k) (true,cs) us[k] hcs' (by rw [List.getElem?_append_right (by simp)];simp)
      simp only [if_true,hu,Value.agg.injEq] at e1
      subst e1
      have hcg:=hcellG (true,cs) xs e3
      refine⟨b,xs.toArray,t,by simp only [g',hsomeT m hn,if_true];exact hb,hh,by simpa using e2.symm,fun i c x hc hx=>(hcg i c x hc (by simpa using hx)).1,fun i c hc=>?_⟩
      have hi:i < xs.length:=by rw [<- e2];exact (List.getElem?_eq_some_iff.1 hc).1
      exact (hcg i c xs[i] hc (by simp [hi])).2)
   refine⟨g',q1,q2,?_⟩
   rw [hv]
   have htl:((aW dst 0 res).1.take vs.size).length=vs.size:=by rw [List.length_take,h3,hlen];simp
   refine JA htl (fun i p x hp hx=>?_)
   rw [List.getElem?_take] at hp
   split at hp
   ·rename_i hi
    obtain⟨xs,e1,e2,e3⟩:=hIV i p x hp (by rw [List.getElem?_append_left (by simpa using hi)];simpa using hx)
    have hcell:=hcellG p xs e3
    obtain⟨b,cs⟩:=p
    cases b with
    | true=>
     simp only [if_true] at e1
     exact⟨xs.toArray,e1,by simpa using e2,fun k c u hc hu=>(hcell k c u hc (by simpa using hu)).1⟩
    | false=>
     simp only [Bool.false_eq_true,if_false] at e1
     subst e1
     obtain⟨c,rfl⟩:∃ c,cs=[c]:=by
      cases cs with
      | nil=>simp at e2
      | cons c rest=>simp at e2;subst e2;exact⟨c,rfl⟩
     exact⟨c,rfl,(hcell 0 c x rfl rfl).1⟩
   ·cases hp
  ·cases hc
 ·cases hc
end Go.AM

namespace Go.AM
open Go.RowKit
variable {P:Program}{E:Env}{w0:fB P}{w w':World}{N0:Nat->Prop}{g g':Gh}{T T':Tab}{r:Option Nat}{n:Nat}{o:Oper}{a:Act}{ρ:Operand->AV}{dst:Nat}
 {y:AV} {es:List (Nat × aC)}
def eZ (P : Program) (f : FuncId) : Prop := ∃ fn, P.funcs[f]? = some fn ∧ fn.body.isSome = true ∧ (fn.name == "runtime.NumGoroutine") = false
theorem wM {N:Nat->Prop}:∀ {rows:List (List DC)} {ns:List Int},uU rows=some ns->cC 1 rows=true/\rows.length=ns.length/\∀ (i:Nat) (r:List DC),rows[i]?=some r->∃ z,ns[i]?=some z/\r=[.v (.int .u8 z)]
 | [],ns,h=>by simp only [uU,Option.some.injEq] at h;subst h;exact⟨rfl,rfl,by simp⟩
 | r::rs,ns,h=>by
  unfold uU at h
  split at h
  ·rename_i he;cases he
  ·rename_i z r' he
   obtain⟨rfl,rfl⟩:=List.cons.inj he
   obtain⟨ns',h1,rfl⟩:=Option.map_eq_some_iff.1 h
   obtain⟨k1,k2,k3⟩:=wM (N:=N) h1
   refine⟨by simpa [cC] using k1,by simp [k2],fun i r hr=>?_⟩
   cases i with
   | zero=>simp only [List.getElem?_cons_zero,Option.some.injEq] at hr;subst hr;exact⟨z,rfl,rfl⟩
   | succ i=>simpa using k3 i r (by simpa using hr)
  ·cases h
theorem aju (hM:Mem w0 N0 g T w)(hρ:∀ x,aH w (ap N0 g T) g T (ρ x) (a.eval x)){src d e:TypeId}{x:Operand}(ho:o.op=.convert src d x)(hs:P.underlying src=some (.slice e))
  (hd:P.underlying d=some .string) (he':P.underlying e=some (.int .u8)) (he:eff P E T ρ dst (.str x)=some (y,es)):aR r n P o a w (Res w0 N0 g T w y es):=by
 simp only [eff] at he
 split at he
 ·rename_i rows hrows
  split at he
  ·rename_i ns hns
   simp only [Option.some.injEq,Prod.mk.injEq] at he
   obtain⟨rfl,rfl⟩:=he
   obtain⟨k1,k2,k3⟩:=wM (N:=fun _=>False) hns
   obtain⟨ad,cap,A,hv,hA,hR⟩:=gl (P:=P) hM (by decide) (hρ x) hrows k1
   have hAl:A.toList=ns.map (Value.int .u8):=by
    obtain⟨q1,q2,q3⟩:=hR
    have hln:A.toList.length=ns.length:=by rw [q1,k2,Nat.mul_one]
    apply List.ext_getElem?
    intro i
    rw [List.getElem?_map]
    by_cases hi:i < rows.length
    ·obtain⟨z,hz,hr⟩:=k3 i rows[i] (List.getElem?_eq_getElem hi)
     obtain⟨c,hc,hdc⟩:=q3 i 0 rows[i] (.v (.int .u8 z)) (List.getElem?_eq_getElem hi) (by rw [hr];rfl)
     rw [Nat.mul_one,Nat.add_zero] at hc
     rw [hc,hz]
     cases hdc
     rfl
    ·rw [List.getElem?_eq_none (by omega),List.getElem?_eq_none (by omega)];rfl
   have hrun:(convert src d (a.eval x)).run P w=.ok (.string (ZI ns)) w:=by
    rw [hv,run_convert_bytes_string w src d e ad _ _ hs he' hd]
    cases ad with
    | none=>
     rw [hv] at hA
     have hA0:A=#[]:=by
      have:(Builtin.firstCells 1 rows.length (.slice none rows.length cap)).run P w=.ok #[] w:=rfl
      rw [this] at hA
      simpa using hA.symm
     have hn0:ns=[]:=by
      rw [hA0] at hAl
      simpa using hAl.symm
     subst hn0
     rfl
    | some ad=>
     rw [hv] at hA
     refine run_bytesToString w ad _ _ ns ?_
     rw [<- hAl]
     simpa [Builtin.firstCells] using hA
   exact aR.value (fun c h=>by rw [ho] at h;cases h) (v:=.string (ZI ns)) (w':=w) (by simp [execOp,ho,hrun]) (Res.same hM ⟨_,rfl,.v rfl⟩)
  ·cases he
 ·cases he
theorem Wy (hM:Mem w0 N0 g T w)(hρ:∀ x,aH w (ap N0 g T) g T (ρ x) (a.eval x)){src d e:TypeId}{x:Operand}(ho:o.op=.convert src d x)(hs:P.underlying src=some .string)
  (hd:P.underlying d=some (.slice e)) (he':P.underlying e=some (.int .u8)) (he:eff P E T ρ dst (.bytes x)=some (y,es)):aR r n P o a w (Res w0 N0 g T w y es):=by
 simp only [eff] at he
 split at he
 ·rename_i s hx
  split at he
  ·rename_i hc
   simp only [Option.some.injEq,Prod.mk.injEq] at he
   obtain⟨rfl,rfl⟩:=he
   have hv:=gX (hρ x) hx
   have hn:aj T dst=none:=by simpa using hc.2
   have hcap:=grownCap_ge w s.size 0 e
   have hmax:=grownCap_le_maxLen w s.size 0 e (by unfold maxLen;exact hc.1)
   have hnew:=Lib.bytesWorld_at_new w e s
   have hsz:(Lib.bytesCells w e s).size=grownCap w s.size 0 e:=by
    simp only [Lib.bytesCells,Array.size_append,Array.size_map,Array.size_replicate]
    change s.size+_=_
    omega
   have hext:Below w.heap.size w (Lib.bytesWorld w e s):=⟨rfl,rfl,rfl,by rw [Lib.bytesWorld_size];omega,fun k hk=>Lib.bytesWorld_at_old w e s k hk⟩
   have hrun:=Lib.run_convert_string_bytes (P:=P) w src d e s hs hd he'
   refine aR.value (fun c h=>by rw [ho] at h;cases h) (v:=.slice (some ⟨w.heap.size,0,none⟩) s.size (grownCap w s.size 0 e)) (w':=Lib.bytesWorld w e s) (by simp [execOp,ho,hv,hrun]) ?_
   have hlen:(s.data.toList.map fun b=>[DC.v (.int .u8 b.toNat)]).length=s.size:=by simp
   obtain⟨h1,h2⟩:=hM.create (w':=Lib.bytesWorld w e s) (e:=.own 1 (s.data.toList.map fun b=>[.v (.int .u8 b.toNat)])) (ob:=some w.heap.size) (sv:=.slice (some ⟨w.heap.size,0,none⟩) s.size (grownCap w s.size 0 e)) (s:=1) hn hext
    (fun b hb=>by simp at hb;subst hb;rw [Lib.bytesWorld_size];omega) (fun hK=>⟨.inr ⟨w.heap.size,0,grownCap w s.size 0 e,Lib.bytesCells w e s,e,_,by simp [Gh.set],by rw [hlen];simp [Gh.set],hnew,by rw [hlen];exact hcap,hmax,by omega,
     fun j _ hj=>by simp;omega,fun r hr=>by
      obtain⟨b,_,rfl⟩:=List.mem_map.1 hr
      rfl,by omega,fun i j r d hr hdd=>by
      rw [List.getElem?_map] at hr
      cases hq:s.data.toList[i]? with
      | none=>rw [hq] at hr;cases hr
      | some b=>
       rw [hq] at hr
       simp only [Option.map_some,Option.some.injEq] at hr
       subst hr
       cases j with
       | succ j=>simp at hdd
       | zero=>
        simp only [List.getElem?_cons_zero,Option.some.injEq] at hdd
        subst hdd
        refine⟨.int .u8 b.toNat,?_,.v rfl⟩
        have hi:i < s.data.size:=by simpa using (List.getElem?_eq_some_iff.1 hq).1
        have hb:s.data[i]?=some b:=by simpa using hq
        simp only [Lib.bytesCells,Nat.zero_add,Nat.mul_one,Nat.add_zero]
        rw [Array.getElem?_append_left (by simpa using hi),Array.getElem?_map,hb]
        rfl⟩,by simp [Gh.set]⟩)
   exact⟨_,h1,h2,_,rfl,by rw [show aputs T [(dst,_)]=aput T dst _ from rfl,bf];rfl,by simp [Gh.set],_,_,_,rfl⟩
  ·cases he
 ·cases he
def FA (B:Nat)(N:Nat->Prop)(w w':World):Prop:=w.heap.size<=w'.heap.size/\∀ b,b < B->¬ N b->w'.heap[b]?=w.heap[b]?
def vE:Value->Bool
 | .agg cs=>cs.toList.all plain
 | v=>plain v
structure gx (ob:Option Nat)(w w':World):Prop where
 os:w'.os=w.os
 tape:w'.tape=w.tape
 output:w'.output=w.output
 size:w.heap.size<=w'.heap.size
 block:∀ k,k < w.heap.size->ob ≠ some k->w'.heap[k]?=w.heap[k]?
theorem gx.of {ob:Option Nat}{w w':World}(h:Below w.heap.size w w'):gx ob w w':=⟨h.os,h.tape,h.output,h.size,fun k hk _=>h.block k hk⟩
theorem gx.below {w w':World}(h:gx none w w'):Below w.heap.size w w':=⟨h.os,h.tape,h.output,h.size,fun k hk=>h.block k hk nofun⟩
theorem gx.trans {ob:Option Nat}{a b c:World}(h:gx ob a b)(k:gx ob b c):gx ob a c:=
 ⟨k.os.trans h.os,k.tape.trans h.tape,k.output.trans h.output,Nat.le_trans h.size k.size,fun i hi hb=>(k.block i (Nat.lt_of_lt_of_le hi h.size) hb).trans (h.block i hi hb)⟩
def sL (P:Program)(f:FuncId)(lb:Array Value)(ob:Option Nat)(xs:List (List Value))(w:World)(N:Nat->Prop):Prop:=
 ∀ (l:Nat) (J:Nat->World->Prop) (Jx:World->Prop) (n:Nat),
  (∀ i W W',J i W->gx ob W W'->J i W')->(∀ W W',Jx W->gx ob W W'->Jx W') ->
  (∀ i x W1,xs[i]?=some x->J i W1->YieldAt (Fw none) n P l x.toArray W1 fun e W'=>FA w.heap.size N W1 W'/\((e=.returned (.bool true)/\J (i+1) W')\/(e=.returned (.bool false)/\Jx W'))) ->
  J 0 w->Calls P f (#[.func (.yield l) #[] #[]]++lb) w fun e W'=>(∃ v,e=.returned v)/\(J xs.length W'\/Jx W')
def Pn (P:Program)(f:FuncId)(caps:List DC)(xs:List (List Value)):Prop:=
 (∀ x ∈ xs,∀ v ∈ x,vE v=true) /\
 ∀ (w:World) (N:Nat->Prop) (lb:Array Value),(∀ b,N b->b < w.heap.size)->fq P w->(∀ b,gbP P b->¬ N b)->caps.length=lb.size ->
  (∀ (i:Nat) (d:DC) (v:Value),caps[i]?=some d->lb[i]?=some v->aL w N d v)->sL P f lb none xs w N
def ab2 (P:Program)(f:FuncId)(vs:List Value)(xs:List (List Value)):Prop:=
 (∀ x ∈ xs,∀ v ∈ x,vE v=true) /\
 ∀ (w:World) (N:Nat->Prop) (b:Nat) (t:TypeId),(∀ b,N b->b < w.heap.size)->fq P w->(∀ b,gbP P b->¬ N b)->¬ N b->¬ gbP P b->w.heap[b]?=some (.cells vs.toArray t (0,0)) ->
  sL P f #[.pointer (some ⟨b,0,none⟩)] (some b) xs w N
def kH (P:Program)(f:FuncId)(caps:List DC)(xs:List (List Value)):Prop:=
 (∀ vs:List Value,caps=[.mref (vs.map .v) 0]->ab2 P f vs xs)/\((∀ cs o,caps ≠ [.mref cs o])->Pn P f caps xs)
theorem kH.data {P:Program}{f:FuncId}{caps:List DC}{xs:List (List Value)}(hc:∀ cs o,caps ≠ [.mref cs o])(h:Pn P f caps xs):kH P f caps xs:=⟨fun _ e=>(hc _ _ e).elim,fun _=>h⟩
def asJ (P:Program)(f g:FuncId):Prop:=
 ∀ (s:ByteArray) (w:World),Calls P f #[.string s] w fun e w'=>∃ t:TypeId,e=.returned (.func (.func g) #[] #[.pointer (some ⟨w.heap.size,0,none⟩)])/\Below w.heap.size w w' /\
  w'.heap[w.heap.size]?=some (.cells #[.string s] t (0,0))
def M0 (P:Program)(f:FuncId)(offs:List Nat):Prop:=
 ∀ (b off:Nat) (w:World) (N:Nat->Prop),(∀ b,N b->b < w.heap.size)->fq P w->(∀ b,gbP P b->¬ N b)->Calls P f #[.pointer (some ⟨b,off,none⟩)] w fun e w'=>
  ∃ v,e=.returned v/\Below w.heap.size w w'/\aL w' N (.sl (offs.map fun k=>[.pt b (off+k)])) v/\yN offs.length v
def AZ (P:Program)(f:FuncId)(lb:Array Value)(ob:Option Nat)(X:Nat->World->List Value->Prop)(m:Nat)(w:World)(N:Nat->Prop):Prop:=
 ∀ (l:Nat) (J:Nat->World->Prop) (Jx:World->Prop) (n:Nat),
  (∀ i W W',J i W->gx ob W W'->J i W')->(∀ W W',Jx W->gx ob W W'->Jx W')->(∀ i W1,i < m->J i W1->∃ x,X i W1 x) ->
  (∀ i x W1,i < m->X i W1 x->J i W1->YieldAt (Fw none) n P l x.toArray W1 fun e W'=>FA w.heap.size N W1 W'/\((e=.returned (.bool true)/\J (i+1) W')\/(e=.returned (.bool false)/\Jx W'))) ->
  J 0 w->Calls P f (#[.func (.yield l) #[] #[]]++lb) w fun e W'=>(∃ v,e=.returned v)/\(J m W'\/Jx W')
theorem sL.gen {P:Program}{f:FuncId}{lb:Array Value}{ob:Option Nat}{xs:List (List Value)}{w:World}{N:Nat->Prop}(h:sL P f lb ob xs w N) :
  AZ P f lb ob (fun i _ x=>xs[i]?=some x) xs.length w N:=fun l J Jx n a b _ d e=>
 h l J Jx n a b (fun i x W1 hx hJ=>d i x W1 (List.getElem?_eq_some_iff.1 hx).1 hx hJ) e
def ahG (a:Option Addr)(L sz:Nat)(i:Nat)(W:World)(x:List Value):Prop:=
 ∃ b o cells t fz,a=some ⟨b,o,none⟩/\W.heap[b]?=some (.cells cells t fz)/\o+(L / 2+1+i)*sz+sz<=cells.size /\
  x=[.int .i64 ((L / 2+1+i:Nat):Int),.agg (cells.extract (o+(L / 2+1+i)*sz) (o+(L / 2+1+i)*sz+sz))]
def aj1 (P:Program)(f:FuncId)(sz:Nat):Prop:=
 ∀ (a:Option Addr) (L cap b:Nat) (t:TypeId) (w:World) (N:Nat->Prop),(∀ b,N b->b < w.heap.size)->L<=maxLen->¬ N b->w.heap[b]?=some (.cells #[.slice a L cap] t (0,0)) ->
  AZ P f #[.pointer (some ⟨b,0,none⟩)] (some b) (ahG a L sz) (L - (L / 2+1)) w N
def arR (P:Program)(f g:FuncId):Prop:=
 ∀ (a:Option Addr) (l c:Nat) (w:World),Calls P f #[.slice a l c] w fun e w'=>∃ t:TypeId,e=.returned (.func (.func g) #[] #[.pointer (some ⟨w.heap.size,0,none⟩)])/\Below w.heap.size w w' /\
  w'.heap[w.heap.size]?=some (.cells #[.slice a l c] t (0,0))
def ah1 (P:Program)(f g:FuncId):Prop:=
 ∀ (a b c d:Int) (cs:Array Value) (w:World) (Q:Ending->World->Prop),(∀ e W,Q e W->∃ v,e=.returned v) ->
  (∀ w',Below w.heap.size w w'->Calls P g (#[.agg #[.int .i64 a,.int .i64 b,.int .i64 c,.int .i64 d]]++cs) w' Q) ->
  Calls P f #[.agg #[.int .i64 a,.int .i64 b,.int .i64 c,.int .i64 d],.int .i64 0,.func (.func g) #[] cs] w Q
def mQ (P:Program)(f:FuncId)(offs:List Nat):Prop:=match Tg offs with
 | some g=>ah1 P f g
 | none=>match aaC offs with
 | some g=>asJ P f g
 | none=>match ZW offs with
  | some g=>if g < 2000000 then arR P f (g - 1000000) else aj1 P f (offs.getD 1 0)/\eZ P f
  | none=>M0 P f offs
theorem mQ.of {P:Program}{f:FuncId}{offs:List Nat}(hi:aaC offs=none)(hl:ZW offs=none)(h:M0 P f offs)(hf:Tg offs=none:=by rfl):mQ P f offs:=by unfold mQ;rw [hf,hi,hl];exact h
structure dp (P:Program)(E:Env):Prop where
 call:∀ f ds res,E f ds=some res->eN P f ds res/\eZ P f
 seq:∀ f caps xs,E.seq f caps=some xs->kH P f caps xs/\eZ P f
 ptrs:∀ f offs,E.ptrs f=some offs->mQ P f offs
theorem wG {b m off:Nat}:∀ (offs:List Nat),bq (offs.map fun k=>(m,off+k)) (List.replicate offs.length b)=offs.map fun k=>[.pt b (off+k)]
 | []=>rfl
 | k::r=>by simp only [List.map_cons,List.length_cons,List.replicate_succ,bq,wG r]
theorem U5 (hM:Mem w0 N0 g T w){offs:List Nat}{m b off:Nat}{v:Value}(hs:(aj T m).isSome)(hb:g.blk m=some b)(hbl:Below w.heap.size w w')(hd:aL w' (ap N0 g T) (.sl (offs.map fun k=>[.pt b (off+k)])) v)(hf:yN offs.length v) :
  Res w0 N0 g T w (.val false [.psl (offs.map fun k=>(m,off+k))]) [] v w':=by
 obtain⟨hM1,hK1⟩:=hM.grow0 hbl
 have hl:(List.replicate offs.length b).length=(offs.map fun k=>(m,off+k)).length:=by simp
 refine⟨g,hM1,hK1,_,rfl,List.replicate offs.length b,⟨hl,by simpa using hf⟩,fun i p c hp hc=>?_,by rw [wG];exact hd⟩
 rw [List.getElem?_map] at hp
 cases hq:offs[i]? with
 | none=>rw [hq] at hp;cases hp
 | some k=>
  rw [hq] at hp
  simp only [Option.map_some,Option.some.injEq] at hp
  subst hp
  have:=List.eq_of_mem_replicate (List.mem_of_getElem? hc)
  subst this
  exact⟨hs,hb⟩
theorem ajz (hM:Mem w0 N0 g T w)(hf:(aj T dst).isNone=true){s:ByteArray}{gf t:Nat}(hbl:Below w.heap.size w w')(hnew:w'.heap[w.heap.size]?=some (.cells #[.string s] t (0,0))) :
  Res w0 N0 g T w (.val false [.fn gf [.ptr dst]]) [(dst,.box [.d (.v (.string s))])] (.func (.func gf) #[] #[.pointer (some ⟨w.heap.size,0,none⟩)]) w':=by
 have hn:=bX hf
 have hlt:=(Array.getElem?_eq_some_iff.1 hnew).1
 obtain⟨h1,h2⟩:=hM.create (w':=w') (e:=.box [.d (.v (.string s))]) (ob:=some w.heap.size) (sv:=undef) (s:=0) hn hbl
  (fun b hb=>by simp at hb;subst hb;exact⟨Nat.le_refl _,hlt⟩) (fun hK=>⟨w.heap.size,#[.string s],t,by simp [Gh.set],hnew,rfl,fun i c x hci hxi=>by
   match i with
   | 0=>
    simp at hci hxi;subst hci;subst hxi
    exact aL.v rfl
   | i+1=>simp at hci,fun i c hc=>by
   match i with
   | 0=>simp at hc;subst hc;rfl
   | i+1=>simp at hc⟩)
 refine⟨_,h1,h2,_,rfl,#[.pointer (some ⟨w.heap.size,0,none⟩)],rfl,rfl,fun i c x hc hx=>?_⟩
 match i with
 | 0=>
  simp at hc hx;subst hc;subst hx
  exact⟨by rw [show aputs T [(dst,aC.box [.d (.v (.string s))])]=aput T dst (.box [.d (.v (.string s))]) from rfl,bf];rfl,w.heap.size,by simp [Gh.set],rfl⟩
 | i+1=>simp at hc
theorem aiR (hM:Mem w0 N0 g T w)(hf:(aj T dst).isNone=true){sa:Option Addr}{sl sc m gf t:Nat}(hs:(aj T m).isSome)(hv:.slice sa sl sc=g.sv m)(hbl:Below w.heap.size w w')(hnew:w'.heap[w.heap.size]?=some (.cells #[.slice sa sl sc] t (0,0))) :
  Res w0 N0 g T w (.val false [.fn gf [.ptr dst]]) [(dst,.box [.ref m])] (.func (.func gf) #[] #[.pointer (some ⟨w.heap.size,0,none⟩)]) w':=by
 have hn:=bX hf
 have hmd:m ≠ dst:=fun e=>by rw [e,hn] at hs;cases hs
 have hlt:=(Array.getElem?_eq_some_iff.1 hnew).1
 obtain⟨h1,h2⟩:=hM.create (w':=w') (e:=.box [.ref m]) (ob:=some w.heap.size) (sv:=undef) (s:=0) hn hbl
  (fun b hb=>by simp at hb;subst hb;exact⟨Nat.le_refl _,hlt⟩) (fun hK=>⟨w.heap.size,#[.slice sa sl sc],t,by simp [Gh.set],hnew,rfl,fun i c x hci hxi=>by
   match i with
   | 0=>
    simp at hci hxi;subst hci;subst hxi
    exact⟨by rw [br _ _ hmd];exact hs,by simp [Gh.set,hmd,hv],_,_,_,rfl⟩
   | i+1=>simp at hci,fun i c hc=>by
   match i with
   | 0=>simp at hc;subst hc;rfl
   | i+1=>simp at hc⟩)
 refine⟨_,h1,h2,_,rfl,#[.pointer (some ⟨w.heap.size,0,none⟩)],rfl,rfl,fun i c x hc hx=>?_⟩
 match i with
 | 0=>
  simp at hc hx;subst hc;subst hx
  exact⟨by rw [show aputs T [(dst,aC.box [.ref m])]=aput T dst (.box [.ref m]) from rfl,bf];rfl,w.heap.size,by simp [Gh.set],rfl⟩
 | i+1=>simp at hc
theorem HR (hM:Mem w0 N0 g T w)(hd:∀ c,o.op ≠ .defer c){f:FuncId}{vs:Array Value}{ds:List DV}{res:List RV}{names:List Nat}(hrun:(execOp a.eval o).run P w=.ok (.enter f vs) w)
  (hC:eN P f ds res) (hargs:iW w (dl N0 g T names) ds vs) (hout:cH dst T names res=some (y,es)):aR r n P o a w (Res w0 N0 g T w y es):=
 aR.enter hd hrun ((hC.plain (fun _ hb=>lA hM (cB hb)) hargs hM.laid fun _ hb h=>hM.gav hb (cB h)).mono fun _ _ ⟨v,he,hext,hres⟩=>⟨v,he,K7 hM hext hres hout⟩)
theorem l8 {f : FuncId} {fn : Func} (hf : P.funcs[f]? = some fn) (hb : fn.body.isSome = true) (hn : (fn.name == "runtime.NumGoroutine") = false) (args : Array Value) (w : World) :
  (callFunc f args).run P w=.ok (.enter f args) w:=by
 have h1 : ¬ fn.name = "runtime.NumGoroutine" := by simpa using hn
 have h2:¬ fn.body=none:=by cases hq:fn.body <;> simp_all
 simp [callFunc,hf,h1,h2]
theorem KM {N:Nat->Prop}{x:AV}{v:Value}(h:aH w N g T x v)(hp:K0 x=true):∃ a b c d:Int,v=.agg #[.int .i64 a,.int .i64 b,.int .i64 c,.int .i64 d]:=by
 unfold K0 at hp
 split at hp
 ·rename_i a b c d
  obtain⟨xs,rfl,hl,hx⟩:=h
  match xs,hl,hx with
  | ⟨[x0,x1,x2,x3]⟩,_,hx=>
   have h0:=hx 0 _ x0 rfl rfl
   have h1:=hx 1 _ x1 rfl rfl
   have h2:=hx 2 _ x2 rfl rfl
   have h3:=hx 3 _ x3 rfl rfl
   cases h0;cases h1;cases h2;cases h3
   exact⟨a,b,c,d,rfl⟩
 ·cases hp
theorem aks (hE:dp P E)(hM:Mem w0 N0 g T w)(hρ:∀ x,aH w (ap N0 g T) g T (ρ x) (a.eval x))(hd:∀ c,o.op ≠ .defer c){f gf:FuncId}{args:Array Operand}{vs:Array Value}
  (hrun:(execOp a.eval o).run P w=.ok (.enter f vs) w) (hvs:vs=args.map a.eval) (hF:ah1 P f gf) (he:Aj E T ρ dst gf args.toList=some (y,es)):aR r n P o a w (Res w0 N0 g T w y es):=by
 unfold Aj at he
 split at he
 ·rename_i x nn c hargs
  have ha':args=#[x,nn,c]:=by rw [<- Array.toArray_toList (xs:=args),hargs]
  split at he
  ·rename_i caps hc
   unfold fwC at hc
   split at hc
   ·rename_i g' caps' hn hcl
    split at hc
    ·rename_i hg
     obtain⟨rfl,hp⟩:=hg
     simp only [Option.some.injEq] at hc
     subst hc
     have h1:=gX (hρ nn) hn
     obtain⟨cs,h2,h3,h4⟩:=aJ (hρ c) hcl
     obtain⟨u1,u2,u3,u4,hx⟩:=KM (hρ x) hp
     refine aR.enter hd hrun ?_
     rw [hvs,ha',List.map_toArray,List.map_cons,List.map_cons,List.map_cons,List.map_nil,h1,h2,hx]
     refine hF u1 u2 u3 u4 cs w _ (fun _ _ ⟨v,h,_⟩=>⟨v,h⟩) fun w' hbl=>?_
     obtain⟨hM1,hK1⟩:=hM.grow0 hbl
     have hρ':∀ y,aH w' (ap N0 g T) g T (Jc (ρ x) caps' y) ((⟨#[.agg #[.int .i64 u1,.int .i64 u2,.int .i64 u3,.int .i64 u4]]++cs,[]⟩:Act).eval y):=fun y=>by
      have hunk:∀ v,aH w' (ap N0 g T) g T (.val false [.unk]) v:=fun v=>⟨.unk,rfl,trivial⟩
      cases y with
      | tmp t=>
       match t with
       | 0=>
        have e:(⟨#[.agg #[.int .i64 u1,.int .i64 u2,.int .i64 u3,.int .i64 u4]]++cs,[]⟩:Act).eval (.tmp 0)=a.eval x:=by
         rw [hx];simp only [Act.eval]
         rw [Array.getD_eq_getD_getElem?,Array.getElem?_append_left (by simp)];rfl
        rw [e];exact hK1.a (hρ x)
       | t+1=>
        simp only [Jc,List.getElem?_cons_succ,List.getElem?_map]
        cases hq:caps'[t]? with
        | none=>exact hunk _
        | some k=>
         have ht:t < cs.size:=h3 ▸ (List.getElem?_eq_some_iff.1 hq).1
         have e:(⟨#[.agg #[.int .i64 u1,.int .i64 u2,.int .i64 u3,.int .i64 u4]]++cs,[]⟩:Act).eval (.tmp (t+1))=cs[t]:=by
          simp only [Act.eval]
          rw [Array.getD_eq_getD_getElem?,Array.getElem?_append_right (by simp)]
          simp [ht]
         rw [e]
         have hk:=h4 t k cs[t] hq (by simp [ht])
         cases k with
         | ptr m=>
          obtain⟨k1,b,k2,k3⟩:=hk
          exact hK1.a ⟨_,rfl,k1,b,k2,k3⟩
         | d d=>exact hK1.a (x:=.val false [.d d]) ⟨_,rfl,hk⟩
      | const v=>exact hunk _
      | global v=>exact hunk _
      | func v=>exact hunk _
     unfold Oe at he
     split at he
     ·rename_i ds ns is ms hds
      split at he
      ·rename_i hns
       split at he
       ·rename_i res hres
        obtain⟨n1,n2⟩:=vJ hns
        obtain⟨i1,i2,i4,i3⟩:=sX hM1 hρ' (names:=ms) hds (fun m hm=>hm) n2
        have hv:(K8 caps'.length).map (⟨#[.agg #[.int .i64 u1,.int .i64 u2,.int .i64 u3,.int .i64 u4]]++cs,[]⟩:Act).eval=(#[(.agg #[.int .i64 u1,.int .i64 u2,.int .i64 u3,.int .i64 u4]:Value)]++cs).toList:=by
         apply List.ext_getElem?
         intro i
         simp only [K8,List.map_map,List.getElem?_map]
         by_cases hi:i < caps'.length+1
         ·rw [List.getElem?_range hi]
          have:i < (#[(.agg #[.int .i64 u1,.int .i64 u2,.int .i64 u3,.int .i64 u4]:Value)]++cs).size:=by simp;omega
          simp only [Option.map_some,Function.comp,Act.eval,Array.getElem?_toList]
          rw [Array.getElem?_eq_getElem this,Array.getD_eq_getD_getElem?,Array.getElem?_eq_getElem this];rfl
         ·rw [List.getElem?_eq_none (by simp;omega),Option.map_none,List.getElem?_eq_none (by simp;omega)]
        rw [hv] at i3
        refine ((hE.call _ ds res hres).1 w' _ (dl N0 g T ms) (fx g ns) (is.map g.blk) (fun _ hb=>lA hM1 (cB hb)) (Ai hM1 n1 i1 i2 i4) (by simpa using i3) hM1.laid fun b hb=>⟨fun h=>hM1.gav hb (cB h),Of hM1 i1 i2 i4 hb⟩).mono ?_
        rintro e w'' ⟨v,us,hv,hbm,hou,hrm⟩
        obtain⟨g2,q1,q2,q3⟩:=xl hM1 hbm hou hrm i1 i2 i4 n2 n1 he
        exact⟨v,hv,g2,q1,hK1.trans q2,q3⟩
       ·cases he
      ·cases he
     ·cases he
    ·cases hc
   ·cases hc
  ·cases he
 ·cases he
theorem adP (hE:dp P E)(hM:Mem w0 N0 g T w)(hρ:∀ x,aH w (ap N0 g T) g T (ρ x) (a.eval x)){c:Call}{f:FuncId}{fn:Func}(ho:o.op=.call c)(hc:c.callee=.value (.func f))(hf:P.funcs[f]?=some fn)
  (hb : fn.body.isSome = true) (hn : (fn.name == "runtime.NumGoroutine") = false) (he : eff P E T ρ dst (.call f c.args.toList) = some (y, es)) : aR r n P o a w (Res w0 N0 g T w y es) := by
 have hd:∀ c,o.op ≠ .defer c:=fun c h=>by rw [ho] at h;cases h
 have hrun:(execOp a.eval o).run P w=.ok (.enter f (c.args.map a.eval)) w:=by
  have hev:a.eval (.func f)=.func (.func f) #[] #[]:=rfl
  simp only [execOp,ho,resolve,hc,hev]
  simp [Deferred.ofValue,invoke,l8 hf hb hn]
 simp only [eff] at he
 split at he
 ·rename_i offs hofs
  have hpo:=hE.ptrs f offs hofs
  unfold mQ at hpo
  split at he
  ·rename_i gf hfw
   rw [hfw] at hpo
   exact aks hE hM hρ hd hrun rfl hpo he
  rename_i hfw
  rw [hfw] at hpo
  have hpt:=he
  unfold zS at hpt
  split at hpt
  ·rename_i x hargs
   have ha':c.args=#[x]:=by rw [<- Array.toArray_toList (xs:=c.args),hargs]
   split at hpt
   rotate_left
   ·rename_i gf hit
    rw [hit] at hpo
    split at hpt
    ·rename_i s hx
     split at hpt
     ·rename_i hf
      simp only [Option.some.injEq,Prod.mk.injEq] at hpt
      obtain⟨rfl,rfl⟩:=hpt
      refine aR.enter hd hrun ?_
      rw [ha',List.map_toArray,List.map_cons,List.map_nil,gX (hρ x) hx]
      refine (hpo s w).mono ?_
      rintro e w' ⟨t,rfl,hbl,hnew⟩
      exact⟨_,rfl,ajz hM hf hbl hnew⟩
     ·cases hpt
    ·cases hpt
   rename_i hit
   rw [hit] at hpo
   split at hpt
   rotate_left
   ·rename_i gf hlv
    rw [hlv] at hpo
    split at hpt
    ·rename_i m hx
     split at hpt
     ·rename_i hlt
      simp only [hlt.1,if_true] at hpo
      simp only [Option.some.injEq,Prod.mk.injEq] at hpt
      obtain⟨rfl,rfl⟩:=hpt
      obtain⟨hs,hv,sa,sl,sc,hsv⟩:=aJ (hρ x) hx
      refine aR.enter hd hrun ?_
      rw [ha',List.map_toArray,List.map_cons,List.map_nil,hsv]
      refine (hpo sa sl sc w).mono ?_
      rintro e w' ⟨t,rfl,hbl,hnew⟩
      exact⟨_,rfl,aiR hM hlt.2 hs (hsv.symm.trans hv) hbl hnew⟩
     ·cases hpt
    ·cases hpt
   rename_i hlv
   rw [hlv] at hpo
   split at hpt
   ·rename_i m off hx
    simp only [Option.some.injEq,Prod.mk.injEq] at hpt
    obtain⟨rfl,rfl⟩:=hpt
    obtain⟨hs,b,hb,hv⟩:=aJ (hρ x) hx
    have hcall:=hpo b off w (ap N0 g T) (fun _ hb=>lA hM hb) hM.laid fun b hb h=>hM.gav hb h
    refine aR.enter hd hrun ?_
    rw [ha',List.map_toArray,List.map_cons,List.map_nil,hv]
    refine hcall.mono ?_
    rintro e w' ⟨v,rfl,h1,h2,h3⟩
    exact⟨_,rfl,U5 hM hs hb h1 h2 h3⟩
   ·cases hpt
  ·cases hpt
 split at he
 ·split at he
  ·rename_i ds hds
   split at he
   ·rename_i res hres
    obtain⟨h1,h2⟩:=Ao hM hρ (names:=c.args.toList.flatMap fun x=>bi T (ρ x)) hds (fun m hm=>hm)
    exact HR hM hd (f:=f) (vs:=c.args.map a.eval) hrun (hE.call f ds res hres).1 ⟨by simp [h1],fun i d v hdi hv=>h2 i d v hdi (by rw [<- Array.getElem?_toList] at hv;simpa using hv)⟩ he
   ·cases he
  ·cases he
 ·split at he
  ·rename_i ds ns is ms hds
   split at he
   ·rename_i hns
    split at he
    ·rename_i res hres
     obtain⟨n1,n2⟩:=vJ hns
     obtain⟨i1,i2,i4,i3⟩:=sX hM hρ (names:=ms) hds (fun m hm=>hm) n2
     refine aR.enter hd hrun (((hE.call f ds res hres).1 w (c.args.map a.eval) (dl N0 g T ms) (fx g ns) (is.map g.blk) (fun _ hb=>lA hM (cB hb)) (Ai hM n1 i1 i2 i4) (by simpa using i3) hM.laid fun b hb=>⟨fun h=>hM.gav hb (cB h),Of hM i1 i2 i4 hb⟩).mono ?_)
     rintro e w' ⟨v,us,hv,hbm,hou,hrm⟩
     exact⟨v,hv,xl hM hbm hou hrm i1 i2 i4 n2 n1 he⟩
    ·cases he
   ·cases he
  ·cases he
theorem Vv (hE:dp P E)(hM:Mem w0 N0 g T w)(hρ:∀ x,aH w (ap N0 g T) g T (ρ x) (a.eval x)){c:Call}{x:Operand}(ho:o.op=.call c)(hc:c.callee=.value x)
  (he:eff P E T ρ dst (.calld x c.args.toList)=some (y,es)):aR r n P o a w (Res w0 N0 g T w y es):=by
 have hd:∀ c,o.op ≠ .defer c:=fun c h=>by rw [ho] at h;cases h
 simp only [eff] at he
 split at he
 ·rename_i k ds hk hds
  split at he
  ·rename_i f caps hcd
   split at he
   ·rename_i res hres
    obtain⟨h1,h2⟩:=Ao hM hρ (names:=aT T 4 k++c.args.toList.flatMap fun x=>bi T (ρ x)) hds (fun m hm=>List.mem_append_right _ hm)
    have h3:=t6 hM (names:=aT T 4 k++c.args.toList.flatMap fun x=>bi T (ρ x)) 4 (aJ (hρ x) hk) hcd (fun m hm=>List.mem_append_left _ hm)
    generalize hv:a.eval x=v at h3
    cases h3 with
    | @fn _ _ cs hl hdd=>
     obtain⟨hC,fn,hf,hb,hn⟩:=hE.call f _ _ hres
     refine HR hM hd (f:=f) (vs:=c.args.map a.eval++cs) ?_ hC ⟨by simp [h1,hl],fun i d v hdi hvi=>?_⟩ he
     ·simp only [execOp,ho,resolve,hc,hv]
      simp [Deferred.ofValue,invoke,l8 hf hb hn]
     ·rw [<- Array.getElem?_toList,Array.toList_append,Array.toList_map] at hvi
      rw [List.getElem?_append] at hdi hvi
      simp only [List.length_map] at hvi
      rw [<- h1] at hvi
      split at hdi
      ·rename_i hi
       rw [if_pos hi] at hvi
       exact h2 i d v hdi hvi
      ·rename_i hi
       rw [if_neg hi] at hvi
       rw [List.getElem?_map] at hdi
       cases hq:caps[i - ds.length]? with
       | none=>rw [hq] at hdi;cases hdi
       | some d'=>
        rw [hq] at hdi
        simp only [Option.map_some,Option.some.injEq] at hdi
        subst hdi
        exact⟨d',rfl,hdd _ d' v hq (by simpa using hvi)⟩
   ·cases he
  ·cases he
 ·cases he
theorem akT (hM:Mem w0 N0 g T w)(hρ:∀ x,aH w (ap N0 g T) g T (ρ x) (a.eval x)){t:TypeId}{x:Operand}(ho:o.op=.makeInterface t x){d:TypeDesc}(hu:P.underlying t=some d)(hi:∀ ms,d ≠ .interface ms)
  (he:eff P E T ρ dst (.ifc t x)=some (y,es)):aR r n P o a w (Res w0 N0 g T w y es):=by
 have hd:∀ c,o.op ≠ .defer c:=fun c h=>by rw [ho] at h;cases h
 have hx:=hρ x
 simp only [eff] at he
 split at he
 ·rename_i b cs hv
  rw [hv] at hx
  split at he
  ·rename_i ds es' hf
   simp only [Option.some.injEq,Prod.mk.injEq] at he
   obtain⟨rfl,rfl⟩:=he
   obtain⟨xs,hxs,hcr⟩:∃ xs,ah6 b xs (a.eval x)/\dD w (ap N0 g T) g T cs xs:=by
    cases b with
    | true=>
     obtain⟨xs,h1,h2,h3⟩:=hx
     exact⟨xs.toList,by rw [h1];rfl,by simpa using h2.symm,fun i c u hc hu=>h3 i c u hc (by simpa using hu)⟩
    | false=>
     obtain⟨c,h1,h2⟩:=hx
     subst h1
     exact⟨[a.eval x],rfl,rfl,fun i c' u hc hu=>by
      cases i with
      | zero=>simp at hc hu;subst hc;subst hu;exact h2
      | succ i=>simp at hc⟩
   obtain⟨m1,m2,m3,m4⟩:=ip hM hcr hf
   have hrun:(execOp a.eval o).run P w=.ok (.value (.iface t (a.eval x))) w:=by
    simp only [execOp,ho,Instr.makeInterface,Sem.run_bind,run_underlying hu,Result.andThen_ok]
    cases d <;> first | rfl | exact absurd rfl (hi _)
   exact aR.value hd hrun ⟨g,m1,m2,_,rfl,.ifc xs hxs (m3.trans hcr.1.symm) m4⟩
  ·cases he
 ·cases he
theorem xr {ao:AOp}(h:bU P o=some ao):(∀ c,o.op ≠ .defer c)/\∀ cs b,o.op ≠ .select cs b:=by
 unfold bU at h
 constructor
 ·intro c hc;rw [hc] at h;cases h
 ·intro cs b hc;rw [hc] at h;cases h
theorem Am (hE:dp P E)(hM:Mem w0 N0 g T w)(hρ:∀ x,aH w (ap N0 g T) g T (ρ x) (a.eval x)){c:Call}{ao:AOp}(ho:o.op=.call c)(hc:gk P o c=some ao)
  (he:eff P E T ρ dst ao=some (y,es)):aR r n P o a w (Res w0 N0 g T w y es):=by
 have hpure:eff P E T ρ dst (.pure o)=some (y,es)->aR r n P o a w (Res w0 N0 g T w y es):=fun he=>
  tX hM hρ (fun cs b h=>by rw [ho] at h;cases h) (fun c h=>by rw [ho] at h;cases h) he
 unfold gk at hc
 split at hc
 ·rename_i f hcal
  split at hc
  ·rename_i fn hf
   split at hc
   ·rename_i hcond
    simp only [Option.some.injEq] at hc
    subst hc
    exact adP hE hM hρ ho hcal hf hcond.1 hcond.2 he
   ·simp only [Option.some.injEq] at hc
    subst hc
    exact hpure he
  ·cases hc
 ·rename_i x _ hcal
  simp only [Option.some.injEq] at hc
  subst hc
  exact Vv hE hM hρ ho hcal he
 ·rename_i hcal
  split at hc
  ·rename_i x t ha ht
   split at hc
   ·rename_i e hu
    simp only [Option.some.injEq] at hc
    subst hc
    exact al2 hM hρ ho hcal ha ht hu he
   ·simp only [Option.some.injEq] at hc
    subst hc
    exact hpure he
   ·simp only [Option.some.injEq] at hc
    subst hc
    exact hpure he
   ·cases hc
  ·cases hc
 ·rename_i hcal
  split at hc
  ·rename_i p q t u ha hat
   split at hc
   ·rename_i e ht
    split at hc
    ·rename_i i hi
     split at hc
     ·rename_i h0
      simp only [Option.some.injEq] at hc
      subst hc
      exact agG hM hρ ho hcal ha hat ht hi h0 he
     ·cases hc
    ·cases hc
   ·cases hc
  ·cases hc
 ·rename_i hcal
  split at hc
  ·rename_i p q t u ha hat
   split at hc
   ·rename_i e e' ht hu
    split at hc
    ·rename_i i z hi hz
     split at hc
     ·rename_i hcond
      obtain⟨rfl,hzs,h0⟩:=hcond
      simp only [Option.some.injEq] at hc
      subst hc
      exact RJ hM hρ ho hcal ha hat ht hu hi hz hzs h0 he
     ·cases hc
    ·cases hc
   ·cases hc
  ·cases hc
 all_goals first
  | (simp only [Option.some.injEq] at hc;subst hc;exact hpure he)
  | cases hc
theorem XW (hE:dp P E)(hM:Mem w0 N0 g T w)(hρ:∀ x,aH w (ap N0 g T) g T (ρ x) (a.eval x)){ao:AOp}(hc:bU P o=some ao)
  (he:eff P E T ρ dst ao=some (y,es)):aR r n P o a w (Res w0 N0 g T w y es):=by
 have hpl:=xr hc
 unfold bU at hc
 split at hc
 ·rename_i x ho;simp only [Option.some.injEq] at hc;subst hc;exact aif hM hρ (.inl ho) he
 ·rename_i x ho;simp only [Option.some.injEq] at hc;subst hc;exact aif hM hρ (.inr ho) he
 ·rename_i c p q ho;simp only [Option.some.injEq] at hc;subst hc;exact acC hM hρ ho he
 ·rename_i e ho
  cases hz:qB P e with
  | none=>rw [hz] at hc;cases hc
  | some cs=>rw [hz] at hc;simp only [Option.map_some,Option.some.injEq] at hc;subst hc;exact Ux hM ho hz he
 ·rename_i t x ho;simp only [Option.some.injEq] at hc;subst hc;exact ai6 hM hρ ho he
 ·rename_i t parts ho
  split at hc
  ·rename_i fs z hu hz
   cases hp:iX P fs.toList with
   | none=>rw [hp] at hc;cases hc
   | some places=>
    rw [hp] at hc
    simp only [Option.bind_some] at hc
    cases hps:(parts.toList.mapM fun p=>(places[p.1]?).map fun q=>(q.1,q.2,p.2)) with
    | none=>rw [hps] at hc;cases hc
    | some ps=>rw [hps] at hc;simp only [Option.map_some,Option.some.injEq] at hc;subst hc;exact xv hM hρ ho hu hz hp hps he
  ·rename_i len e z hu hz
   cases hs:bE P e with
   | none=>rw [hs] at hc;cases hc
   | some s=>rw [hs] at hc;simp only [Option.map_some,Option.some.injEq] at hc;subst hc;exact A2 hM hρ ho hu hz hs he
  ·cases hc
 ·rename_i t len parts ho
  split at hc
  ·rename_i e hu
   split at hc
   ·rename_i s z hs hz
    split at hc
    ·rename_i hcond
     obtain⟨h1,h2,h3⟩:=hcond
     simp only [Option.some.injEq] at hc;subst hc
     exact Sx hM hρ ho hu hs hz h1 h2 h3 he
    ·cases hc
   ·cases hc
  ·cases hc
 ·rename_i t x ho
  split at hc
  ·rename_i d s hu hs
   split at hc
   ·rename_i hd
    simp only [Option.some.injEq] at hc;subst hc
    exact Rk hM hρ ho hu hs (k:=s) (by simp [hd]) (by rw [hd];exact he)
   ·rename_i hd
    simp only [Option.some.injEq] at hc;subst hc
    have hd':bZ d=false:=by simpa using hd
    exact Rk hM hρ ho hu hs (k:=1) (by simp [hd']) (by rw [hd'];exact he)
  ·cases hc
 ·rename_i t x z ho
  cases hs:bE P t with
  | none=>rw [hs] at hc;cases hc
  | some s=>rw [hs] at hc;simp only [Option.map_some,Option.some.injEq] at hc;subst hc;exact XK hM hρ ho hs he
 ·rename_i x ho;simp only [Option.some.injEq] at hc;subst hc;exact SV hM hρ ho he
 ·rename_i t x f ho
  split at hc
  ·rename_i fs hu
   split at hc
   ·rename_i fd hf
    split at hc
    ·rename_i s hs
     split at hc
     ·rename_i h0
      simp only [Option.some.injEq] at hc;subst hc
      exact Wh hM hρ ho hu hf hs h0 he
     ·cases hc
    ·cases hc
   ·cases hc
  ·cases hc
 ·rename_i t x i ho
  split at hc
  ·rename_i e hu
   cases hs:bE P e with
   | none=>rw [hs] at hc;cases hc
   | some s=>rw [hs] at hc;simp only [Option.map_some,Option.some.injEq] at hc;subst hc;exact yZ hM hρ ho hu hs he
  ·rename_i len e hu
   cases hs:bE P e with
   | none=>rw [hs] at hc;cases hc
   | some s=>rw [hs] at hc;simp only [Option.map_some,Option.some.injEq] at hc;subst hc;exact BP hM hρ ho hu hs he
  ·cases hc
 ·rename_i t x f ho
  split at hc
  ·rename_i fs hu
   split at hc
   ·rename_i fd hf
    split at hc
    ·rename_i d s hd hs
     split at hc
     ·rename_i hdd
      simp only [Option.some.injEq] at hc;subst hc
      exact HP hM hρ ho hu hf hd hs (q:=s) (by simp [hdd]) (by rw [hdd];exact he)
     ·rename_i hdd
      simp only [Option.some.injEq] at hc;subst hc
      have hd':bZ d=false:=by simpa using hdd
      exact HP hM hρ ho hu hf hd hs (q:=1) (by simp [hd']) (by rw [hd'];exact he)
    ·cases hc
   ·cases hc
  ·cases hc
 ·rename_i t x i ho
  split at hc
  ·rename_i len e hu
   split at hc
   ·rename_i d s hd hs
    split at hc
    ·rename_i hdd
     simp only [Option.some.injEq] at hc;subst hc
     exact GR hM hρ ho hu hd hs (q:=s) (by simp [hdd]) rfl (by rw [hdd];exact he)
    ·rename_i hdd
     split at hc
     ·rename_i hs1
      simp only [Option.some.injEq] at hc;subst hc
      have hd':bZ d=false:=by simpa using hdd
      exact GR hM hρ ho hu hd hs (q:=1) (by simp [hd']) hs1.symm (by rw [hd'];exact he)
     ·cases hc
   ·cases hc
  ·simp only [Option.some.injEq] at hc;subst hc;exact tX hM hρ hpl.2 hpl.1 he
  ·cases hc
 ·rename_i t x lo hi ho
  split at hc
  ·rename_i e hu
   cases hs:bE P e with
   | none=>rw [hs] at hc;cases hc
   | some s=>rw [hs] at hc;simp only [Option.map_some,Option.some.injEq] at hc;subst hc;exact Im hM hρ ho hu hs he
  ·simp only [Option.some.injEq] at hc;subst hc;exact tX hM hρ hpl.2 hpl.1 he
  ·rename_i n e hu
   split at hc
   ·cases hs:bE P e with
    | none=>rw [hs] at hc;cases hc
    | some s=>rw [hs] at hc;simp only [Option.map_some,Option.some.injEq] at hc;subst hc;exact RI hM hρ ho hu hs he
   ·cases hc
  ·cases hc
 ·rename_i x i ho;simp only [Option.some.injEq] at hc;subst hc;exact KI hM hρ ho he
 ·rename_i t x ho
  split at hc
  ·cases hc
  ·rename_i d hu hni
   simp only [Option.some.injEq] at hc;subst hc
   exact akT hM hρ ho hni (fun ms h=>hu ms h) he
  ·cases hc
 ·rename_i f first caps ho
  split at hc
  ·rename_i h0
   simp only [Option.some.injEq] at hc;subst hc
   exact afs hM hρ ho h0 he
  ·cases hc
 ·rename_i t l c ho
  split at hc
  ·rename_i e hu
   split at hc
   ·rename_i i z hi hz
    split at hc
    ·rename_i hcond
     simp only [Option.some.injEq] at hc;subst hc
     exact Ku hM hρ ho hu hi hz hcond.1 hcond.2 he
    ·cases hc
   ·cases hc
  ·cases hc
 ·rename_i op t x z u ho
  split at hc
  ·split at hc
   ·simp only [Option.some.injEq] at hc;subst hc;exact aao hM hρ ho he
   ·cases hc
  ·cases hc
  ·cases hc
  ·simp only [Option.some.injEq] at hc;subst hc;exact aao hM hρ ho he
 ·simp only [Option.some.injEq] at hc;subst hc;exact tX hM hρ hpl.2 hpl.1 he
 ·rename_i src d x ho
  split at hc
  ·rename_i e h1 h2
   split at hc
   ·rename_i h3
    simp only [Option.some.injEq] at hc;subst hc
    exact Wy hM hρ ho h1 h2 (DX h3) he
   ·cases hc
  ·rename_i e h1 h2
   split at hc
   ·rename_i h3
    simp only [Option.some.injEq] at hc;subst hc
    exact aju hM hρ ho h1 h2 (DX h3) he
   ·cases hc
  ·simp only [Option.some.injEq] at hc;subst hc;exact tX hM hρ hpl.2 hpl.1 he
 ·rename_i c ho;exact Am hE hM hρ ho hc he
 ·cases hc
end Go.AM

namespace Go.AM
variable {P:Program}{E:Env}{T T':Tab}{ρ ρ':Operand->AV}{dst:Nat}
def ge:AOp->List Operand
 | .mv x | .box x | .load _ _ x | .faddr _ x | .field _ _ _ x | .extract _ x | .len x | .nilchk x | .bytes x | .str x | .aslice _ _ x | .ifc _ x=>[x]
 | .pick c a b=>[c,a,b]
 | .alloc _ | .bad=>[]
 | .build _ ps=>ps.map fun p=>p.2.2
 | .bslice _ _ _ ps=>ps.map fun p=>p.2
 | .store _ x y | .append _ _ x y | .copy _ x y | .bin _ _ x y | .eqagg _ x y | .mkslice _ _ _ x y=>[x,y]
 | .iaddr _ _ x i | .index _ _ _ x i=>[x,i]
 | .slice _ _ x lo hi | .view _ x lo hi=>x::(lo.toList++hi.toList)
 | .mkfn _ cs=>cs
 | .call _ as=>as
 | .calld x as=>x::as
 | .inv _ x as=>x::as
 | .pure o=>o.op.operands.toList
theorem qG:∀ (ps:List (Nat × Nat × Operand)) (cs:List C),(∀ x ∈ ps.map (fun p=>p.2.2),ρ x=ρ' x)->ib ρ cs ps=ib ρ' cs ps
 | [],cs,_=>rfl
 | (off,sz,x)::r,cs,h=>by
  simp only [ib,h x (by simp)]
  split
  ·split
   ·exact qG r _ fun y hy=>h y (by simp only [List.map_cons,List.mem_cons];exact .inr hy)
   ·rfl
  ·rfl
theorem oq {sz:Nat}:∀ (ps:List (Nat × Operand)) (T:Tab) (rows:List (List DC)) (es:List (Nat × aC)),(∀ x ∈ ps.map (·.2),ρ x=ρ' x)->ew ρ sz T rows es ps=ew ρ' sz T rows es ps
 | [],_,_,_,_=>rfl
 | (i,x)::r,T,rows,es,h=>by
  simp only [ew,h x (by simp)]
  split
  ·split
   ·split
    ·exact oq r _ _ _ fun y hy=>h y (by simp only [List.map_cons,List.mem_cons];exact .inr hy)
    ·rfl
   ·rfl
  ·rfl
theorem wQ:∀ (ps:List (Nat × Operand)) (k:Nat),(∀ x ∈ ps.map (·.2),ρ x=ρ' x)->xd ρ k ps=xd ρ' k ps
 | [],_,_=>rfl
 | (i,x)::r,k,h=>by
  simp only [xd,h x (by simp)]
  rw [wQ r (k+1) fun y hy=>h y (by simp only [List.map_cons,List.mem_cons];exact .inr hy)]
theorem K9 {g:Nat}(as:List Operand)(h:∀ x ∈ as,ρ x=ρ' x):Aj E T ρ dst g as=Aj E T ρ' dst g as:=by
 unfold Aj
 split
 ·rename_i x n c
  have h1:=h x (by simp)
  simp only [fwC,h x (by simp),h n (by simp),h c (by simp)]
 ·rfl
theorem Ju {offs:List Nat}(as:List Operand)(h:∀ x ∈ as,ρ x=ρ' x):zS offs T ρ dst as=zS offs T ρ' dst as:=by
 unfold zS
 split
 ·rw [h _ (by simp)]
 ·rfl
theorem xn:∀ (cs:List Operand),(∀ x ∈ cs,ρ x=ρ' x)->rZ ρ cs=rZ ρ' cs
 | [],_=>rfl
 | x::r,h=>by simp only [rZ,h x (by simp),xn r fun y hy=>h y (List.mem_cons_of_mem _ hy)]
theorem kh:∀ (cs:List Operand),(∀ x ∈ cs,ρ x=ρ' x)->fD T ρ cs=fD T ρ' cs
 | [],_=>rfl
 | x::r,h=>by simp only [fD,h x (by simp),kh r fun y hy=>h y (List.mem_cons_of_mem _ hy)]
theorem wC:∀ (cs:List Operand) (io:List Nat) (k:Nat),(∀ x ∈ cs,ρ x=ρ' x)->iv T ρ io k cs=iv T ρ' io k cs
 | [],_,_,_=>rfl
 | x::r,io,k,h=>by simp only [iv,h x (by simp),wC r io (k+1) fun y hy=>h y (List.mem_cons_of_mem _ hy)]
theorem bY {α β:Type}{f f':α->List β}:∀ (l:List α),(∀ x ∈ l,f x=f' x)->l.flatMap f=l.flatMap f'
 | [],_=>rfl
 | x::r,h=>by simp only [List.flatMap_cons,h x (by simp),bY r fun y hy=>h y (List.mem_cons_of_mem _ hy)]
theorem zW {α:Type}{f f':α->Bool}:∀ (l:List α),(∀ x ∈ l,f x=f' x)->l.all f=l.all f'
 | [],_=>rfl
 | x::r,h=>by simp only [List.all_cons,h x (by simp),zW r fun y hy=>h y (List.mem_cons_of_mem _ hy)]
theorem iQ {d:Int}(x:Option Operand)(h:∀ y ∈ x.toList,ρ y=ρ' y):bu ρ d x=bu ρ' d x:=by
 cases x with
 | none=>rfl
 | some y=>simp only [bu,h y (by simp)]
def aih:AOp->Prop
 | .pure o=>∀ cs b,o.op ≠ .select cs b
 | _=>True
theorem B8 {op:Op}(h:∀ x ∈ op.operands,ρ x=ρ' x):cG P op ρ=cG P op ρ':=by
 cases op
 case convert s d x=>simp only [cG,h x (by simp [Op.operands])]
 case call c=>
  simp only [cG]
  split
  ·rename_i f x hc ha
   have hx:ρ x=ρ' x:=h x (by
    have:x ∈ c.args.toList:=by rw [ha];simp
    simp only [Op.operands,Call.operands,hc]
    simp [Array.mem_toList_iff.1 this])
   rw [hx]
  ·rfl
 all_goals rfl
theorem Ib {op:Op}(h:∀ x ∈ op.operands,ρ x=ρ' x):gj P op ρ=gj P op ρ':=by
 cases op
 case convert s d x=>simp only [gj,h x (by simp [Op.operands])]
 case call c=>
  simp only [gj]
  split
  all_goals first | rfl | skip
  all_goals
   rename_i x hc ha
   have hx:ρ x=ρ' x:=h x (by
    have:x ∈ c.args.toList:=by rw [ha];simp
    simp only [Op.operands,Call.operands,hc]
    simp [Array.mem_toList_iff.1 this])
   rw [hx]
 all_goals rfl
theorem RA (ao:AOp)(hn:aih ao)(h:∀ x ∈ ge ao,ρ x=ρ' x):eff P E T ρ dst ao=eff P E T ρ' dst ao:=by
 cases ao
 case alloc z=>rfl
 case bad=>rfl
 case build z ps=>simp only [eff,qG ps z h]
 case bslice s n z ps=>simp only [eff,oq ps _ _ _ h,wQ ps _ h]
 case mkfn f cs=>simp only [eff,xn cs h]
 case call f as=>simp only [eff,K9 as h,Ju as h,kh as h,wC as _ _ h,bY (f:=fun x=>bi T (ρ x)) (f':=fun x=>bi T (ρ' x)) as fun x hx=>by rw [h x hx]]
 case calld x as=>
  have h':∀ y ∈ as,ρ y=ρ' y:=fun y hy=>h y (List.mem_cons_of_mem _ hy)
  simp only [eff,h x (by simp [ge]),kh as h',bY (f:=fun x=>bi T (ρ x)) (f':=fun x=>bi T (ρ' x)) as fun y hy=>by rw [h' y hy]]
 case inv m x as=>
  have h':∀ y ∈ as,ρ y=ρ' y:=fun y hy=>h y (List.mem_cons_of_mem _ hy)
  simp only [eff,h x (by simp [ge]),kh as h',bY (f:=fun x=>bi T (ρ x)) (f':=fun x=>bi T (ρ' x)) as fun y hy=>by rw [h' y hy]]
 case pure o=>
  have e0:∀ x,ρ x=ρ' x->dj ρ x=dj ρ' x:=fun x hx=>by cases x <;> simp [dj,hx]
  have e1:=zW (f:=fun x=>(dj ρ x).isSome) (f':=fun x=>(dj ρ' x).isSome) o.op.operands.toList fun x hx=>by rw [e0 x (h x hx)]
  have e2:=execOp_congr (ρ:=fun x=>(dj ρ x).getD undef) (ρ':=fun x=>(dj ρ' x).getD undef) o hn fun x hx=>by simp only [e0 x (h x (by simpa [ge] using hx))]
  have e3:=B8 (P:=P) (op:=o.op) (ρ:=ρ) (ρ':=ρ') fun x hx=>h x (by simpa [ge] using hx)
  have e4:=Ib (P:=P) (op:=o.op) (ρ:=ρ) (ρ':=ρ') fun x hx=>h x (by simpa [ge] using hx)
  simp only [eff,e1,e2,e3,e4]
 case slice s m x lo hi=>
  have hl:∀ d,bu ρ d lo=bu ρ' d lo:=fun d=>iQ lo fun y hy=>h y (by simp [ge];exact .inr (.inl (by simpa using hy)))
  have hh:∀ d,bu ρ d hi=bu ρ' d hi:=fun d=>iQ hi fun y hy=>h y (by simp [ge];exact .inr (.inr (by simpa using hy)))
  simp only [eff,h x (by simp [ge]),hl,hh]
 case view s x lo hi=>
  have hl:∀ d,bu ρ d lo=bu ρ' d lo:=fun d=>iQ lo fun y hy=>h y (by simp [ge];exact .inr (.inl (by simpa using hy)))
  have hh:∀ d,bu ρ d hi=bu ρ' d hi:=fun d=>iQ hi fun y hy=>h y (by simp [ge];exact .inr (.inr (by simpa using hy)))
  simp only [eff,h x (by simp [ge]),hl,hh]
 case iaddr s arr x i=>cases arr <;> simp only [eff,h x (by simp [ge]),h i (by simp [ge])]
 case pick c a b=>simp only [eff,h c (by simp [ge]),h a (by simp [ge]),h b (by simp [ge])]
 all_goals simp_all [eff,ge]
def cw (l:List Nat)(T T':Tab):Prop:=∀ n ∈ l,aj T' n=aj T n
theorem cw.sub {l l':List Nat}(h:cw l T T')(hs:∀ n ∈ l',n ∈ l):cw l' T T':=fun n hn=>h n (hs n hn)
theorem cw.aput {l:List Nat}(h:cw l T T')(n:Nat)(e:aC):cw l (aput T n e) (aput T' n e):=by
 intro m hm
 rw [cE,cE]
 split
 ·rfl
 ·exact h m hm
theorem cw.aputs {l:List Nat}:∀ (es:List (Nat × aC)) {T T':Tab},cw l T T'->cw l (aputs T es) (aputs T' es)
 | [],_,_,h=>h
 | (n,e)::r,_,_,h=>cw.aputs r (h.aput n e)
def fP:C->List Nat
 | .ref n | .eptr n _ _ | .ptr n _ | .sub n _ _=>[n]
 | _=>[]
def jW:AV->List Nat
 | .val _ cs=>cs.flatMap fP
 | .tup _=>[]
theorem SN {x:AV}{c:C}(h:bO x=some c):jW x=fP c:=by
 unfold bO at h
 split at h
 ·simp only [Option.some.injEq] at h;subst h;simp [jW]
 ·cases h
theorem wX {x:AV}{cs:List C}(h:gL x=some cs):jW x=cs.flatMap fP:=by
 cases x with
 | val b l=>simp only [gL,Option.some.injEq] at h;subst h;rfl
 | tup l=>cases h
theorem ii {α β:Type}{f f':α->Option β}:∀ (l:List α),(∀ x ∈ l,f x=f' x)->l.mapM f=l.mapM f'
 | [],_=>rfl
 | x::r,h=>by simp only [List.mapM_cons,h x (by simp),ii r fun y hy=>h y (List.mem_cons_of_mem _ hy)]
theorem Sd (T:Tab)(k:Nat)(b:Bool)(n off:Nat):aT T (k+1) (mC b n off)=n::(match aj T n with | some (.box cs)=>cs.flatMap (aT T k) | _=>[]):=by
 cases b
 ·rfl
 ·simp only [aT,mC,List.flatMap_cons,List.flatMap_nil,List.append_nil]
  rfl
theorem jn:∀ (k:Nat) (c:C),cw (aT T k c) T T'->cP T' k c=cP T k c/\aT T' k c=aT T k c
 | 0,_,_=>⟨rfl,rfl⟩
 | k+1,c,h=>by
  cases c with
  | d x=>exact⟨rfl,rfl⟩
  | nils=>exact⟨rfl,rfl⟩
  | und=>exact⟨rfl,rfl⟩
  | unk=>exact⟨rfl,rfl⟩
  | yld l=>exact⟨rfl,rfl⟩
  | sub n lo hi=>exact⟨rfl,rfl⟩
  | pptr n off=>exact⟨rfl,rfl⟩
  | psl l=>
   refine⟨rfl,?_⟩
   simp only [aT]
   refine bY l fun p hp=>?_
   have hsub:∀ m ∈ p.1::(match aj T p.1 with | some (.box cs)=>cs.flatMap (aT T k) | _=>[]),m ∈ aT T (k+1) (.psl l):=fun m hm=>by
    simp only [aT];exact List.mem_flatMap.2 ⟨p,hp,hm⟩
   have h1:=h p.1 (hsub p.1 (by simp))
   rw [h1]
   cases he:aj T p.1 with
   | none=>rfl
   | some e=>
    cases e with
    | box cs=>
     have ih:∀ c ∈ cs,aT T' k c=aT T k c:=fun c hc=>
      (jn k c (h.sub fun m hm=>hsub m (by simp only [he];exact List.mem_cons_of_mem _ (List.mem_flatMap.2 ⟨c,hc,hm⟩)))).2
     simp only [bY cs fun c hc=>ih c hc]
    | _=>rfl
  | ref n=>exact⟨by simp only [cP,h n (by simp [aT])],rfl⟩
  | eptr n i off=>exact⟨by simp only [cP,h n (by simp [aT])],rfl⟩
  | ptr n off=>
   have h1:=h n (by simp [aT])
   simp only [cP,aT,h1]
   cases he:aj T n with
   | none=>exact⟨rfl,rfl⟩
   | some e=>
    cases e with
    | box cs=>
     have ih:∀ c ∈ cs,cP T' k c=cP T k c/\aT T' k c=aT T k c:=fun c hc=>
      jn k c (h.sub fun m hm=>by simp only [aT,he];exact List.mem_cons_of_mem _ (List.mem_flatMap.2 ⟨c,hc,hm⟩))
     exact⟨by simp only [ii cs fun c hc=>(ih c hc).1],by simp only [bY cs fun c hc=>(ih c hc).2]⟩
    | _=>exact⟨rfl,rfl⟩
  | fn f caps=>
   have ih:∀ c ∈ caps,zn (cP T' k) T' c=zn (cP T k) T c /\
     (match c with | .ptr n=>n::(match aj T' n with | some (.box cs)=>cs.flatMap (aT T' k) | _=>[]) | .d _=>[])=
     (match c with | .ptr n=>n::(match aj T n with | some (.box cs)=>cs.flatMap (aT T k) | _=>[]) | .d _=>[]):=by
    intro c hc
    cases c with
    | d x=>exact⟨rfl,rfl⟩
    | ptr n=>
     have hsub:∀ m ∈ n::(match aj T n with | some (.box cs)=>cs.flatMap (aT T k) | _=>[]),m ∈ aT T (k+1) (.fn f caps):=fun m hm=>by
      simp only [aT];exact List.mem_flatMap.2 ⟨.ptr n,hc,hm⟩
     have h1:=h n (hsub n (by simp))
     simp only [zn,h1]
     cases he:aj T n with
     | none=>exact⟨rfl,rfl⟩
     | some e=>
      cases e with
      | box cs=>
       have ih:∀ c ∈ cs,cP T' k c=cP T k c/\aT T' k c=aT T k c:=fun c hc=>
        jn k c (h.sub fun m hm=>hsub m (by simp only [he];exact List.mem_cons_of_mem _ (List.mem_flatMap.2 ⟨c,hc,hm⟩)))
       exact⟨by simp only [ii cs fun c hc=>(ih c hc).1],by simp only [bY cs fun c hc=>(ih c hc).2]⟩
      | _=>exact⟨rfl,rfl⟩
   refine⟨by simp only [cP,ii caps fun c hc=>(ih c hc).1],?_⟩
   simp only [aT]
   exact bY caps fun c hc=>(ih c hc).2
theorem Be {x:AV}(h:cw (bi T x) T T'):wA T' x=wA T x/\bi T' x=bi T x:=by
 cases x with
 | tup l=>exact⟨rfl,rfl⟩
 | val b cs=>
  have ih:∀ c ∈ cs,cP T' 4 c=cP T 4 c/\aT T' 4 c=aT T 4 c:=fun c hc=>jn 4 c (h.sub fun m hm=>List.mem_flatMap.2 ⟨c,hc,hm⟩)
  exact⟨by simp only [wA,ii cs fun c hc=>(ih c hc).1],by simp only [bi,bY cs fun c hc=>(ih c hc).2]⟩
theorem ko:∀ (cs:List Operand),cw (cs.flatMap fun x=>bi T (ρ x)) T T' ->
  fD T' ρ cs=fD T ρ cs/\(cs.flatMap fun x=>bi T' (ρ x))=cs.flatMap fun x=>bi T (ρ x)
 | [],_=>⟨rfl,rfl⟩
 | x::r,h=>by
  obtain⟨h1,h2⟩:=Be (x:=ρ x) (h.sub fun m hm=>by simp only [List.flatMap_cons];exact List.mem_append_left _ hm)
  obtain⟨h3,h4⟩:=ko r (h.sub fun m hm=>by simp only [List.flatMap_cons];exact List.mem_append_right _ hm)
  exact⟨by simp only [fD,h1,h3],by simp only [List.flatMap_cons,h2,h4]⟩
theorem KG {c:C}(h:cw (aT T 3 c) T T'):YE T' c=YE T c:=by
 cases c with
 | ref n=>simp only [YE,h n (by simp [aT])]
 | _=>rfl
theorem xa:∀ (cs:List C),cw (cs.flatMap (aT T 3)) T T'->wW T' cs=wW T cs
 | [],_=>rfl
 | c::r,h=>by
  simp only [wW,KG (h.sub fun m hm=>by simp only [List.flatMap_cons];exact List.mem_append_left _ hm),xa r (h.sub fun m hm=>by simp only [List.flatMap_cons];exact List.mem_append_right _ hm)]
theorem md:∀ (cs:List Operand) (io:List Nat) (k:Nat),cw (cs.flatMap fun x=>bi T (ρ x)) T T'->iv T' ρ io k cs=iv T ρ io k cs
 | [],_,_,_=>rfl
 | x::r,io,k,h=>by
  have hx:cw (bi T (ρ x)) T T':=h.sub fun m hm=>by simp only [List.flatMap_cons];exact List.mem_append_left _ hm
  obtain⟨h1,h2⟩:=Be (x:=ρ x) hx
  have h3:=md r io (k+1) (h.sub fun m hm=>by simp only [List.flatMap_cons];exact List.mem_append_right _ hm)
  have hv:∀ c,bO (ρ x)=some c->ρ x=.val false [c]:=fun c ho=>by
   unfold bO at ho
   split at ho
   ·rename_i c hc
    simp only [Option.some.injEq] at ho
    subst ho
    exact hc
   ·cases ho
  have hn:∀ b n off,bO (ρ x)=some (mC b n off)->∀ m ∈ n::(match aj T n with | some (.box cs)=>cs.flatMap (aT T 3) | _=>[]),m ∈ bi T (ρ x):=fun b n off ho m hm=>by
   rw [hv _ ho]
   have e:=Sd T 3 b n off
   refine List.mem_flatMap.2 ⟨mC b n off,by simp,?_⟩
   exact e ▸ hm
  simp only [iv,h1,h2,h3]
  split
  ·rfl
  ·split
   ·split
    ·rename_i b n off ho
     obtain⟨c0,ho,hc0⟩:=Option.bind_eq_some_iff.1 ho
     obtain rfl:c0=mC b n off:=vB hc0
     rw [hx n (hn b n off ho n (by simp))]
     split
     ·rename_i cs hT
      rw [xa cs (hx.sub fun m hm=>hn b n off ho m (by rw [hT];exact List.mem_cons_of_mem _ hm))]
     ·rfl
    ·rfl
   ·rfl
theorem ov:∀ (cs:List Operand) (io:List Nat) (k:Nat) {ds:List DV} {ns is ms:List Nat},iv T ρ io k cs=some (ds,ns,is,ms)->∀ m ∈ ms,m ∈ cs.flatMap fun x=>bi T (ρ x)
 | [],_,_,ds,ns,is,ms,h=>by simp only [iv,Option.some.injEq,Prod.mk.injEq] at h;obtain⟨_,_,_,rfl⟩:=h;simp
 | x::r,io,k,ds,ns,is,ms,h=>by
  simp only [iv] at h
  split at h
  ·cases h
  ·rename_i ds' ns' is' ms' hr
   have ih:=ov r io (k+1) hr
   split at h
   ·split at h
    ·split at h
     ·split at h
      ·simp only [Option.some.injEq,Prod.mk.injEq] at h
       obtain⟨_,_,_,rfl⟩:=h
       exact fun m hm=>by simp only [List.flatMap_cons];exact List.mem_append_right _ (ih m hm)
      ·cases h
     ·cases h
    ·cases h
   ·split at h
    ·simp only [Option.some.injEq,Prod.mk.injEq] at h
     obtain⟨_,_,_,rfl⟩:=h
     intro m hm
     simp only [List.flatMap_cons]
     rcases List.mem_append.1 hm with hm | hm
     ·exact List.mem_append_left _ hm
     ·exact List.mem_append_right _ (ih m hm)
    ·cases h
theorem B9 {c:C}(h:cw (fP c) T T'):ia T' c=ia T c:=by
 cases c with
 | ref n=>simp only [ia,h n (by simp [fP])]
 | fn f caps=>cases caps <;> rfl
 | _=>rfl
theorem gQ:∀ (cs:List C) {T T':Tab},cw (cs.flatMap fP) T T'->cJ T' cs=cJ T cs
 | [],_,_,_=>rfl
 | c::r,T,T',h=>by
  simp only [cJ,B9 (h.sub fun m hm=>by simp only [List.flatMap_cons];exact List.mem_append_left _ hm)]
  cases ia T c with
  | none=>rfl
  | some p=>
   simp only []
   rw [gQ r ((h.sub fun m hm=>by simp only [List.flatMap_cons];exact List.mem_append_right _ hm).aputs p.2)]
theorem qL {sz:Nat}:∀ (ps:List (Nat × Operand)) {T T':Tab} (rows:List (List DC)) (es:List (Nat × aC)),cw (ps.flatMap fun p=>jW (ρ p.2)) T T' ->
  ew ρ sz T' rows es ps=ew ρ sz T rows es ps
 | [],_,_,_,_,_=>rfl
 | (i,x)::r,T,T',rows,es,h=>by
  simp only [ew]
  cases hx:gL (ρ x) with
  | none=>rfl
  | some xs=>
   simp only []
   rw [gQ xs (h.sub fun m hm=>by simp only [List.flatMap_cons,wX hx];exact List.mem_append_left _ hm)]
   cases cJ T xs with
   | none=>rfl
   | some p=>
    simp only []
    split
    ·exact qL r _ _ ((h.sub fun m hm=>by simp only [List.flatMap_cons];exact List.mem_append_right _ hm).aputs p.2)
    ·rfl
theorem j9 {x:AV}(h:cw (jW x) T T'):iD T' x=iD T x:=by
 unfold iD
 split
 ·rfl
 ·rfl
 ·rename_i n;rw [h n (by simp [jW,fP])]
 ·rename_i n lo hi;rw [h n (by simp [jW,fP])]
 ·rfl
theorem dH:∀ (l:List Nat) {T T':Tab},cw l T T'->aQ T' l=aQ T l
 | [],_,_,_=>rfl
 | n::r,T,T',h=>by
  have h':cw r T T':=h.sub fun m hm=>List.mem_cons_of_mem _ hm
  simp only [aQ,h n (by simp)]
  split
  ·rw [dH r (h'.aput n _)]
  ·rw [dH r (h'.aput n _)]
  ·exact dH r h'
theorem jr:∀ (es:List (Nat × aC)) {T T':Tab},cw (es.map (·.1)) T T'->bL T' es=bL T es
 | [],_,_,_=>rfl
 | p::r,T,T',h=>by
  simp only [bL,h p.1 (by simp),jr r (h.sub fun m hm=>by simp only [List.map_cons];exact List.mem_cons_of_mem _ hm)]
theorem kV {base:Nat}{names:List Nat}{res:List RV}{y:AV}{es:List (Nat × aC)}(h:cw (names++es.map (·.1)) T T')(hc:cH base T names res=some (y,es)) :
  cH base T' names res=some (y,es):=by
 unfold cH at hc ⊢
 rw [dH names (h.sub fun m hm=>List.mem_append_left _ hm)]
 simp only [] at hc ⊢
 generalize hf:(if names.isEmpty=true then ([]:List (Nat × aC)) else if (res.any fun r=>r.2.any dk)=true then aQ T names else [])=frz at hc ⊢
 have hag:cw ((aW base 0 res).2.map (·.1)) (aputs T frz) (aputs T' frz):=by
  split at hc
  ·simp only [Option.some.injEq,Prod.mk.injEq] at hc
   refine (h.sub fun m hm=>List.mem_append_right _ ?_).aputs frz
   rw [<- hc.2,List.map_append]
   exact List.mem_append_right _ hm
  ·cases hc
 rw [jr _ hag]
 exact hc
theorem ot {base:Nat}{names ns is:List Nat}{res:List RV}{y:AV}{es:List (Nat × aC)}(h:cw (names++es.map (·.1)) T T')(hc:dG base T names ns is res=some (y,es)) :
  dG base T' names ns is res=some (y,es):=by
 unfold dG at hc ⊢
 rw [dH names (h.sub fun m hm=>List.mem_append_left _ hm)]
 simp only [] at hc ⊢
 generalize hf:(if names.isEmpty=true then ([]:List (Nat × aC)) else if (res.any fun r=>r.2.any dk)=true then aQ T names else [])=frz at hc ⊢
 unfold SU at hc ⊢
 split at hc
 ·rename_i bs hbs
  have hag:cw ((aW base 0 res).2.map (·.1)) (aputs T frz) (aputs T' frz):=by
   split at hc
   ·simp only [Option.some.injEq,Prod.mk.injEq] at hc
    refine (h.sub fun m hm=>List.mem_append_right _ ?_).aputs frz
    rw [<- hc.2,List.map_append,List.map_append]
    exact List.mem_append_right _ (List.mem_append_left _ hm)
   ·cases hc
  rw [jr _ hag]
  exact hc
 ·cases hc
def kL (T:Tab)(ρ:Operand->AV):AOp->List Nat
 | .load _ _ x | .len x | .str x | .iaddr _ none x _ | .slice _ _ x _ _ | .view _ x _ _=>jW (ρ x)
 | .store _ x y | .append _ _ x y | .copy _ x y=>jW (ρ x)++jW (ρ y)
 | .bslice _ _ _ ps=>ps.flatMap fun p=>jW (ρ p.2)
 | .ifc _ x=>jW (ρ x)
 | .inv _ _ as=>as.flatMap fun x=>bi T (ρ x)
 | .call _ as=>as.flatMap fun x=>bi T (ρ x)
 | .calld x as=>(match bO (ρ x) with | some c=>aT T 4 c | none=>[])++as.flatMap fun x=>bi T (ρ x)
 | _=>[]
theorem cw.none_new {l:List Nat}{es:List (Nat × aC)}(h:cw (l++es.map (·.1)) T T'){n:Nat}{e:aC}(hn:(n,e) ∈ es):aj T' n=aj T n:=
 h n (List.mem_append_right _ (List.mem_map.2 ⟨_,hn,rfl⟩))
theorem U0 {g:Nat}{x n c:Operand}{caps:List Cap}(h:fwC ρ g x n c=some caps):ρ c=.val false [.fn g caps]:=by
 unfold fwC at h
 split at h
 ·rename_i g' caps' hn hc
  split at h
  ·rename_i hg
   obtain⟨rfl,_⟩:=hg
   simp only [Option.some.injEq] at h
   subst h
   unfold bO at hc
   split at hc
   ·rename_i c0 hq
    simp only [Option.some.injEq] at hc
    subst hc
    rw [hq]
   ·cases hc
  ·cases h
 ·cases h
theorem Kt {x:AV}{g:Nat}{caps:List Cap}{m:Nat}(h:m ∈ (K8 caps.length).flatMap fun y=>bi T (Jc x caps y)):m ∈ bi T x++bi T (.val false [.fn g caps]):=by
 obtain⟨y,hy,hm⟩:=List.mem_flatMap.1 h
 obtain⟨t,ht,rfl⟩:=List.mem_map.1 hy
 match t with
 | 0=>exact List.mem_append_left _ hm
 | t+1=>
  refine List.mem_append_right _ ?_
  simp only [Jc,List.getElem?_cons_succ,List.getElem?_map] at hm
  cases hq:caps[t]? with
  | none=>rw [hq] at hm;simp [bi,aT] at hm
  | some k=>
   rw [hq] at hm
   have hk:k ∈ caps:=List.mem_of_getElem? hq
   cases k with
   | ptr n=>
    simp only [Option.map_some,akD,bi,List.flatMap_cons,List.flatMap_nil,List.append_nil] at hm ⊢
    exact List.mem_flatMap.2 ⟨.ptr n,hk,hm⟩
   | d d=>simp [akD,bi,aT] at hm
theorem JP {g:Nat}(as:List Operand){y:AV}{es:List (Nat × aC)}(hl:cw (as.flatMap fun x=>bi T (ρ x)) T T')(h:cw ((as.flatMap fun x=>bi T (ρ x))++es.map (·.1)) T T')
  (he:Aj E T ρ dst g as=some (y,es)):Aj E T' ρ dst g as=some (y,es):=by
 unfold Aj at he ⊢
 split at he
 ·rename_i x n c
  split at he
  ·rename_i caps hc
   have hcc:=U0 hc
   have hin:∀ m ∈ (K8 caps.length).flatMap fun y=>bi T (Jc (ρ x) caps y),m ∈ [x,n,c].flatMap fun x=>bi T (ρ x):=fun m hm=>by
    rcases List.mem_append.1 (Kt (g:=g) hm) with h1 | h1
    ·exact List.mem_flatMap.2 ⟨x,by simp,h1⟩
    ·exact List.mem_flatMap.2 ⟨c,by simp,by rw [hcc];exact h1⟩
   unfold Oe at he ⊢
   rw [md (K8 caps.length) _ _ (T:=T) (T':=T') (ρ:=Jc (ρ x) caps) (hl.sub hin)]
   split at he
   ·rename_i ds ns is ms hds
    split at he
    ·split at he
     ·refine ot (h.sub fun m hm=>?_) he
      rcases List.mem_append.1 hm with hm | hm
      ·exact List.mem_append_left _ (hin m (ov _ _ _ hds m hm))
      ·exact List.mem_append_right _ hm
     ·cases he
    ·cases he
   ·cases he
  ·cases he
 ·cases he
theorem Kf {ao:AOp}{y:AV}{es:List (Nat × aC)}(h:cw (kL T ρ ao++es.map (·.1)) T T')(he:eff P E T ρ dst ao=some (y,es)):eff P E T' ρ dst ao=some (y,es):=by
 have hl:cw (kL T ρ ao) T T':=h.sub fun m hm=>List.mem_append_left _ hm
 have hx:∀ {x:AV} {c:C},bO x=some c->(∀ m ∈ jW x,m ∈ kL T ρ ao)->cw (fP c) T T':=fun h1 h2=>hl.sub fun m hm=>h2 m (by rw [SN h1];exact hm)
 cases ao
 case alloc z=>
  simp only [eff] at he ⊢
  split at he
  ·rename_i hf
   simp only [Option.some.injEq,Prod.mk.injEq] at he
   have:=h.none_new (n:=dst) (e:=.box z) (by rw [<- he.2];simp)
   rw [this,if_pos hf]
   simp only [Option.some.injEq,Prod.mk.injEq];exact he
  ·cases he
 case box x=>
  simp only [eff] at he ⊢
  split at he
  ·rename_i cs hcs
   split at he
   ·rename_i hf
    simp only [Option.some.injEq,Prod.mk.injEq] at he
    have:=h.none_new (n:=dst) (e:=.box cs) (by rw [<- he.2];simp)
    rw [this,if_pos hf]
    simp only [Option.some.injEq,Prod.mk.injEq];exact he
   ·cases he
  ·cases he
 case bslice s n z ps=>
  simp only [eff] at he ⊢
  have hb:cw (ps.flatMap fun p=>jW (ρ p.2)) T T':=hl
  rw [qL ps _ _ hb]
  split at he
  ·rename_i rows es' hgo
   split at he
   ·rename_i hf
    simp only [Option.some.injEq,Prod.mk.injEq] at he
    have ha:cw [dst] T T':=h.sub fun m hm=>by
     simp only [List.mem_singleton] at hm
     refine List.mem_append_right _ ?_
     rw [<- he.2,hm];simp
    have:=(ha.aputs es') dst (by simp)
    rw [this,if_pos hf]
    simp only [Option.some.injEq,Prod.mk.injEq];exact he
   ·cases he
  ·exact he
 case load agg sz x=>
  simp only [eff] at he ⊢
  split at he <;> rename_i h1
  ·rw [(hx h1 fun m hm=>hm) _ (by simp [fP])];exact he
  ·rw [(hx h1 fun m hm=>hm) _ (by simp [fP])];exact he
  ·exact he
  ·exact he
  ·cases he
 case store sz x y=>
  simp only [eff] at he ⊢
  split at he
  ·rename_i h1 h2
   rw [(hx h2 fun m hm=>List.mem_append_left _ hm) _ (by simp [fP])];exact he
  ·rename_i ys n i off h1 h2
   have hys:cw (ys.flatMap fP) T T':=hl.sub fun m hm=>List.mem_append_right _ (by rw [wX h1];exact hm)
   rw [gQ ys hys]
   split at he
   ·rename_i ds es' hf
    have ha:cw [n] T T':=(hx h2 fun m hm=>List.mem_append_left _ hm).sub fun m hm=>by simpa [fP] using hm
    rw [(ha.aputs es') n (by simp)]
    exact he
   ·cases he
  ·cases he
 case iaddr sz arr x i=>
  cases arr with
  | none=>
   simp only [eff] at he ⊢
   split at he <;> rename_i h0 h1
   ·exact he
   ·rw [(hx h1 fun m hm=>hm) _ (by simp [fP])];exact he
   ·exact he
   ·cases he
  | some len=>exact he
 case slice sz mv x lo hi=>
  simp only [eff] at he ⊢
  split at he <;> rename_i h1
  ·exact he
  ·exact he
  ·rename_i n
   rw [(hx h1 fun m hm=>hm) _ (by simp [fP])]
   split at he
   ·rename_i s rows h2
    split at he
    ·rename_i l hh h3 h4
     split at he
     ·rename_i hc
      split at he
      ·rename_i hm
       split at he
       ·rename_i hf
        simp only [Option.some.injEq,Prod.mk.injEq] at he
        have:=h.none_new (n:=dst) (e:=.own s ((rows.take hh.toNat).drop l.toNat)) (by rw [<- he.2];simp)
        rw [this]
        rw [if_pos hc,if_pos hm,if_pos hf]
        simp only [Option.some.injEq,Prod.mk.injEq];exact he
       ·cases he
      ·rename_i hm
       rw [if_pos hc,if_neg hm]
       exact he
     ·cases he
    ·cases he
   ·exact he
   ·cases he
  ·cases he
 case mkslice sz bytes z l c=>
  simp only [eff] at he ⊢
  split at he
  ·split at he
   ·rename_i hc
    simp only [Option.some.injEq,Prod.mk.injEq] at he
    have:=h.none_new (n:=dst) (by rw [<- he.2];exact List.mem_singleton.2 rfl)
    rw [this,if_pos hc]
    simp only [Option.some.injEq,Prod.mk.injEq];exact he
   ·cases he
  ·cases he
 case str x=>
  simp only [eff] at he ⊢
  rw [j9 (x:=ρ x) (hl.sub fun m hm=>hm)];exact he
 case bytes x=>
  simp only [eff] at he ⊢
  split at he
  ·split at he
   ·rename_i hf
    simp only [Option.some.injEq,Prod.mk.injEq] at he
    have:=h.none_new (n:=dst) (by rw [<- he.2];exact List.mem_singleton.2 rfl)
    rw [this,if_pos hf]
    simp only [Option.some.injEq,Prod.mk.injEq];exact he
   ·cases he
  ·cases he
 case len x=>
  simp only [eff] at he ⊢
  split at he
  ·exact he
  ·rw [j9 (x:=ρ x) (hl.sub fun m hm=>hm)];exact he
 case append sz bytes x y=>
  simp only [eff] at he ⊢
  rw [j9 (x:=ρ y) (hl.sub fun m hm=>List.mem_append_right _ hm)]
  split at he
  ·exact he
  split at he
  ·split at he
   ·split at he
    ·rename_i hc
     simp only [Option.some.injEq,Prod.mk.injEq] at he
     have:=h.none_new (n:=dst) (by rw [<- he.2];exact List.mem_singleton.2 rfl)
     rw [this,if_pos hc]
     simp only [Option.some.injEq,Prod.mk.injEq];exact he
    ·cases he
   ·rename_i n h1
    rw [(hx h1 fun m hm=>List.mem_append_left _ hm) _ (by simp [fP])]
    split at he
    ·split at he
     ·rename_i hc
      simp only [Option.some.injEq,Prod.mk.injEq] at he
      have:=h.none_new (n:=dst) (by rw [<- he.2];exact List.mem_cons_of_mem _ (List.mem_singleton.2 rfl))
      rw [this,if_pos hc]
      simp only [Option.some.injEq,Prod.mk.injEq];exact he
     ·cases he
    ·cases he
   ·exact he
   ·split at he
    ·rename_i hc
     simp only [Option.some.injEq,Prod.mk.injEq] at he
     have:=h.none_new (n:=dst) (by rw [<- he.2];exact List.mem_singleton.2 rfl)
     rw [this,if_pos hc]
     simp only [Option.some.injEq,Prod.mk.injEq];exact he
    ·cases he
   ·cases he
  ·cases he
 case copy sz x y=>
  simp only [eff] at he ⊢
  rw [j9 (x:=ρ y) (hl.sub fun m hm=>List.mem_append_right _ hm)]
  cases hone:bO (ρ x) with
  | none=>rw [hone] at he;simp only [Option.bind_none] at he;split at he <;> simp_all
  | some c=>
   rw [hone] at he
   have hc:=hx hone fun m hm=>List.mem_append_left _ hm
   have hp:nT T' c=nT T c:=by
    cases c <;> try rfl
    case ref n=>simp only [nT,hc n (by simp [fP])]
   simp only [Option.bind_some,hp] at he ⊢
   split at he
   ·rename_i rows2 n lo hi h1 h2
    have hn:aj T' n=aj T n:=by
     refine hc n ?_
     cases c with
     | ref k=>
      simp only [nT] at h2
      split at h2
      ·simp only [Option.some.injEq,Prod.mk.injEq] at h2;obtain⟨rfl,_,_⟩:=h2;simp [fP]
      ·cases h2
     | sub k a b=>simp only [nT,Option.some.injEq,Prod.mk.injEq] at h2;obtain⟨rfl,_,_⟩:=h2;simp [fP]
     | _=>simp [nT] at h2
    rw [hn]
    exact he
   ·cases he
 case view sz x lo hi=>
  simp only [eff] at he ⊢
  split at he <;> rename_i h1
  ·rename_i n
   rw [(hx h1 fun m hm=>hm) _ (by simp [fP])]
   exact he
  ·cases he
 case call f as=>
  simp only [eff] at he ⊢
  obtain⟨h1,h2⟩:=ko as (T:=T) (T':=T') (ρ:=ρ) hl
  rw [h1,h2]
  split at he
  ·split at he
   ·exact JP as hl (h.sub fun m hm=>hm) he
   unfold zS at he ⊢
   split at he
   ·split at he
    ·split at he
     ·exact he
     ·split at he
      ·split at he
       ·rename_i hf
        simp only [Option.some.injEq,Prod.mk.injEq] at he
        have:=h.none_new (n:=dst) (by rw [<- he.2];exact List.mem_singleton.2 rfl)
        rw [this,if_pos hf]
        simp only [Option.some.injEq,Prod.mk.injEq];exact he
       ·cases he
      ·cases he
    ·split at he
     ·split at he
      ·rename_i hf
       simp only [Option.some.injEq,Prod.mk.injEq] at he
       have:=h.none_new (n:=dst) (by rw [<- he.2];exact List.mem_singleton.2 rfl)
       rw [this,if_pos hf]
       simp only [Option.some.injEq,Prod.mk.injEq];exact he
      ·cases he
     ·cases he
   ·cases he
  split at he
  ·split at he
   ·split at he
    ·exact kV h he
    ·cases he
   ·cases he
  ·rw [md as _ _ (T:=T) (T':=T') (ρ:=ρ) hl]
   split at he
   ·rename_i ds ns is ms hds
    split at he
    ·split at he
     ·refine ot (h.sub fun m hm=>?_) he
      rcases List.mem_append.1 hm with hm | hm
      ·exact List.mem_append_left _ (ov as _ _ hds m hm)
      ·exact List.mem_append_right _ hm
     ·cases he
    ·cases he
   ·cases he
 case calld x as=>
  simp only [eff] at he ⊢
  obtain⟨h1,h2⟩:=ko as (T:=T) (T':=T') (ρ:=ρ) (hl.sub fun m hm=>by simp only [kL];exact List.mem_append_right _ hm)
  rw [h1,h2]
  split at he
  ·rename_i c ds hc hds
   obtain⟨h3,h4⟩:=jn (T:=T) (T':=T') 4 c (hl.sub fun m hm=>by simp only [kL,hc];exact List.mem_append_left _ hm)
   rw [h3,h4]
   split at he
   ·split at he
    ·refine kV ?_ he
     simp only [kL,hc] at h
     exact h
    ·cases he
   ·cases he
  ·cases he
 case ifc t x=>
  simp only [eff] at he ⊢
  cases hv:ρ x with
  | tup l=>rw [hv] at he;cases he
  | val b xs=>
   rw [hv] at he
   simp only at he ⊢
   rw [gQ xs (hl.sub fun m hm=>by simp only [kL,hv];exact hm)]
   exact he
 case inv m x as=>
  simp only [eff] at he ⊢
  obtain⟨h1,h2⟩:=ko as (T:=T) (T':=T') (ρ:=ρ) hl
  rw [h1,h2]
  split at he
  ·split at he
   ·split at he
    ·exact kV h he
    ·cases he
   ·cases he
  ·cases he
 all_goals exact he
end Go.AM

namespace Go.AM
open Go.RowKit
def vU:AOp->Bool
 | .pure o=>match o.op with
  | .select _ _=>false
  | _=>true
 | _=>true
theorem abd {ao:AOp}(h:vU ao=true):aih ao:=by
 cases ao <;> try trivial
 case pure o=>
  intro cs b hc
  simp [vU,hc] at h
def tE (ops:Array Oper):Option (Nat × Bool)->Option (Option (Nat × Bool))
 | none=>some none
 | some (j,want)=>((ops[j]?).bind (·.dst)).map fun t=>some (t,want)
def Bz (nt:Nat):Option Nat->Bool
 | none=>true
 | some d=>decide (d < nt)
def aa3 (o : Oper) : Oper := { dst := none, op := o.op, type := o.type, pos := "", after := #[], guard := none }
theorem aaN {P:Program}{E:Env}{T:Tab}{ρ:Operand->AV}{dst:Nat}{o:Oper}:eff P E T ρ dst (.pure (aa3 o))=eff P E T ρ dst (.pure o):=rfl
def Qg (mvs:List Nat)(dst:Option Nat):AOp->AOp
 | .slice s b x lo hi=>match dst with
  | some d=>if mvs.any fun m=>m == d then .slice s true x lo hi else if mvs.any fun m=>m == d+100000 then .view s x lo hi else .slice s b x lo hi
  | none=>.slice s b x lo hi
 | .pure o=>.pure (aa3 o)
 | op=>op
def l6 (P:Program)(mvs:List Nat)(nt:Nat)(ops:Array Oper)(o:Oper):Option be:=
 match tE ops o.guard with
 | some gd=>
  let op:=Qg mvs o.dst ((bU P o).getD .bad)
  if Bz nt o.dst && vU op then some ⟨o.dst,op,gd⟩ else none
 | none=>none
def BU (P:Program)(o:Oper)(ao:AOp):Prop:=
 ao=.bad\/bU P o=some ao\/(∃ s b x lo hi,bU P o=some (.slice s b x lo hi)/\(ao=.slice s true x lo hi\/ao=.view s x lo hi))\/∃ o',bU P o=some (.pure o')/\ao=.pure (aa3 o')
def eD (tmps:List (Nat × AV)):Option (Nat × Bool)->Option Bool
 | none=>some true
 | some (t,b)=>match aj tmps t with
  | some (.val false [.d (.v (.bool x))])=>some (if b then x else !x)
  | some (.val false [.und])=>some false
  | _=>none
def vz (tmps:List (Nat × AV))(dst:Option Nat)(y:AV):List (Nat × AV):=
 match dst with
 | some d=>(d,y)::tmps
 | none=>tmps
def mf (P:Program)(E:Env)(ao:be)(σ:St):Option (AV × List (Nat × aC)):=
 match eD σ.tmps ao.guard with
 | some true=>eff P E σ.tab (evO σ.tmps) (ao.dst.getD 9999) ao.op
 | some false=>some (.val false [.und],[])
 | none=>none
def bK (σ:St)(dst:Option Nat)(y:AV)(es:List (Nat × aC)):St:=⟨vz σ.tmps dst y,aputs σ.tab es,σ.sv⟩
def tw (P:Program)(E:Env)(ao:be)(σ:St):Option St:=
 match mf P E ao σ with
 | some (y,es)=>some (bK σ ao.dst y es)
 | none=>none
def kp (g:Gh)(T:Tab):Nat->Prop:=fun b=>∃ n,live T n/\g.blk n=some b
section
variable {P:Program}{w0:fB P}{N0:Nat->Prop}{g g':Gh}{T T':Tab}{w w':World}
def Mem.base (hM:Mem w0 N0 g T w):fB P:=⟨w,kp g T,hM.laid,fun _ hb ⟨_,h1,h2⟩=>hM.gblk h1 h2 hb⟩
theorem Mem.rebase (hM:Mem w0 N0 g T w):Mem hM.base N0 g T w:=
 ⟨.refl,hM.ents,hM.inj,fun n b h1 h2=>⟨.inr ⟨n,h1,h2⟩,(hM.rng n b h1 h2).2⟩,fun b hb=>⟨Nat.lt_of_lt_of_le (hM.n0 b hb).1 hM.below.size,fun ⟨n,h1,h2⟩=>by
  have h3:=hM.n0 b hb
  exact (hM.rng n b h1 h2).1.elim (fun h=>by omega) h3.2.1,(hM.n0 b hb).2.2⟩⟩
theorem Mem.unbase (hM:Mem w0 N0 g T w)(h:Mem hM.base N0 g' T' w'):Mem w0 N0 g' T' w':=
 ⟨hM.below.trans ⟨h.below.os,h.below.tape,h.below.output,h.below.size,fun k hk ho=>h.below.block k (Nat.lt_of_lt_of_le hk hM.below.size) fun ⟨n,h1,h2⟩=>
   (hM.rng n k h1 h2).1.elim (fun h=>by omega) ho⟩,
  h.ents,h.inj,fun n b h1 h2=>⟨(h.rng n b h1 h2).1.elim (fun hh=>.inl (Nat.le_trans hM.below.size hh)) fun ⟨m,h3,h4⟩=>(hM.rng m b h3 h4).1,(h.rng n b h1 h2).2⟩,hM.n0⟩
theorem Mem.not_owned (hM:Mem w0 N0 g T w){b:Nat}{o:Obj}(hb:w.heap[b]?=some o)(ho:o.isCells=false):¬ kp g T b:=by
 rintro ⟨n,h1,h2⟩
 unfold live at h1
 cases he:aj T n with
 | none=>rw [he] at h1;exact h1
 | some e=>
  rw [he] at h1
  have h0:=hM.ents n e he
  cases e with
  | box cs=>
   obtain⟨b',cells,t,k1,k2,_⟩:=h0
   rw [h2] at k1
   simp only [Option.some.injEq] at k1
   subst k1
   rw [hb] at k2
   simp only [Option.some.injEq] at k2
   subst k2
   simp [Obj.isCells] at ho
  | own sz rows=>
   rcases h0.1 with ⟨_,_,k⟩ | ⟨b',off,cap,cells,t,fz,k1,_,k2,_⟩
   ·rw [h2] at k;cases k
   ·rw [h2] at k1
    simp only [Option.some.injEq] at k1
    subst k1
    rw [hb] at k2
    simp only [Option.some.injEq] at k2
    subst k2
    simp [Obj.isCells] at ho
  | imm rows=>exact h1
  | dead=>exact h1
theorem Mem.others (hM:Mem w0 N0 g T w)(h:Mem hM.base N0 g' T' w'){b:Nat}{o:Obj}(hb:w.heap[b]?=some o)(ho:o.isCells=false):w'.heap[b]?=some o:=by
 have hlt:b < w.heap.size:=(Array.getElem?_eq_some_iff.1 hb).1
 exact (h.below.block b hlt (hM.not_owned hb ho)).trans hb
theorem aL.cells {N N':Nat->Prop}(hs:w.heap.size<=w'.heap.size)(hh:∀ (b o:Nat) (c:Value),w.cell? ⟨b,o,none⟩=some c->w'.cell? ⟨b,o,none⟩=some c)
  (hn:∀ b,b < w.heap.size->N' b->N b) {d:DC} {v:Value} (h:aL w N d v):aL w' N' d v:=by
 induction h with
 | v h=>exact .v h
 | nan h=>exact .nan h
 | cx h1 h2=>exact .cx h1 h2
 | pt=>exact .pt
 | nil=>exact .nil
 | csl _ ih=>exact .csl ih
 | @sl rows b off cap sz f hne hN hb hsz hl hcap hc hd ih=>
  exact .sl f hne (fun h=>hN (hn _ hb h)) (Nat.lt_of_lt_of_le hb hs) hsz hl hcap (fun i j hi hj=>hh _ _ _ (hc i j hi hj)) ih
 | fn hl hd ih=>exact .fn hl ih
 | cref f hN hb hc hd ih=>exact .cref f (fun h=>hN (hn _ hb h)) (Nat.lt_of_lt_of_le hb hs) (fun j hj=>hh _ _ _ (hc j hj)) ih
 | ifc xs hx hl hd ih=>exact .ifc xs hx hl ih
theorem Mem.putObj (hM:Mem w0 N0 g T w){l:Nat}{o o':Obj}(hl:w.heap[l]?=some o)(ho:o.isCells=false)(hown:w0.w.heap.size<=l\/w0.own l):Mem w0 N0 g T (w.putObj l o')/\aU N0 g T w g T (w.putObj l o'):=by
 have hcell:∀ (b o:Nat) (c:Value),w.cell? ⟨b,o,none⟩=some c->(w.putObj l o').cell? ⟨b,o,none⟩=some c:=by
  intro b k c hc
  by_cases hb:b=l
  ·subst hb
   simp only [World.cell?,hl] at hc
   cases o <;> simp_all [Obj.isCells]
  ·simpa [World.cell?,World.putObj_heap_other hb] using hc
 have hK:aU N0 g T w g T (w.putObj l o'):=⟨fun d v h=>h.cells (by simp) hcell (fun _ _ h=>h),fun _ h=>h,fun _ _=>⟨rfl,rfl,rfl⟩⟩
 have hno:=hM.not_owned hl ho
 refine⟨hM.upd ⟨rfl,rfl,rfl,by simp,fun k hk hk'=>World.putObj_heap_other fun e=>?_⟩ hK (fun m e he=>.inl ⟨he,fun b hlv hb=>World.putObj_heap_other fun e=>hno ⟨m,hlv,e ▸ hb⟩⟩) hM.inj (fun n b h1 h2=>by simpa using hM.rng n b h1 h2),hK⟩
 subst e
 rcases hown with h | h
 ·omega
 ·exact hk' h
theorem Mem.grow (hM:Mem w0 N0 g T w)(h:Below w.heap.size w w'):Mem w0 N0 g T w'/\aU N0 g T w g T w':=by
 have hK:aU N0 g T w g T w':=aU.of h.size (fun b hb _=>h.block b hb) (fun _ _ h=>h) (fun _ h=>h) fun _ _=>⟨rfl,rfl,rfl⟩
 exact⟨hM.upd (.of h hM.below.size) hK (fun m e he=>.inl ⟨he,fun b hlv hb=>h.block b (hM.rng m b hlv hb).2⟩) hM.inj (fun n b h1 h2=>⟨(hM.rng n b h1 h2).1,Nat.lt_of_lt_of_le (hM.rng n b h1 h2).2 h.size⟩),hK⟩
end
def xj {P:Program}(w0:fB P)(svv:Array Value)(l:List Deferred)(w:World):Prop:=
 l.Nodup/\(0 < svv.size->l=[])/\∀ d ∈ l,∃ D,d={ target:=.collected D,args:=#[] }/\w0.w.heap.size<=D/\w.heap[D]?=some (.deferred (some []))
def Rel {P:Program}(w0:fB P)(N0:Nat->Prop)(nt:Nat)(svv:Array Value)(σ:St)(a:Act)(w:World):Prop:=
 ∃ g,Mem w0 N0 g σ.tab w/\cQ w (ap N0 g σ.tab) g σ.tab σ.tmps a.tmps/\a.tmps.size=nt/\xj w0 svv a.defers w/\cQ w (ap N0 g σ.tab) g σ.tab σ.sv svv
variable {P:Program}{E:Env}{w0:fB P}{w w':World}{N0:Nat->Prop}{g g':Gh}{T T':Tab}{r:Option Nat}{n nt:Nat}{mvs:List Nat}{svv:Array Value}{o:Oper}{a:Act}{σ σ':St}{ops:Array Oper}
 {ao:be} {y:AV} {es:List (Nat × aC)}
theorem xj.mono {l:List Deferred}(h:xj w0 svv l w)(hk:∀ (b:Nat) (o:Obj),w.heap[b]?=some o->o.isCells=false->w'.heap[b]?=some o):xj w0 svv l w':=
 ⟨h.1,h.2.1,fun d hd=>by obtain⟨D,h1,h2,h3⟩:=h.2.2 d hd;exact⟨D,h1,h2,hk _ _ h3 rfl⟩⟩
theorem cQ.put {tmps:List (Nat × AV)}{vals:Array Value}{N:Nat->Prop}(h:cQ w N g T tmps vals){d:Nat}{y:AV}{v:Value}(hd:d < vals.size)(hv:aH w N g T y v) :
  cQ w N g T ((d,y)::tmps) (vals.setIfInBounds d v):=by
 intro t x hx
 simp only [aj] at hx
 split at hx
 ·rename_i ht
  simp only [Option.some.injEq] at hx
  subst hx;subst ht
  simpa [Array.getD,hd] using hv
 ·rename_i ht
  have:=h t x hx
  rw [Array.getD_eq_getD_getElem?,Array.getElem?_setIfInBounds_ne ht,<- Array.getD_eq_getD_getElem?]
  exact this
theorem Rel.put (hM:Mem w0 N0 g T w)(hs:cQ w (ap N0 g T) g T σ.tmps a.tmps)(hsz:a.tmps.size=nt)(hds:xj w0 svv a.defers w){dst:Option Nat}(hd:Bz nt dst=true){y:AV}{v:Value}
  (hv:aH w (ap N0 g T) g T y v) (hs2:cQ w (ap N0 g T) g T σ.sv svv):Rel w0 N0 nt svv ⟨vz σ.tmps dst y,T,σ.sv⟩ (a.put dst v) w:=by
 cases dst with
 | none=>exact⟨g,hM,hs,hsz,hds,hs2⟩
 | some d=>
  simp only [Bz,decide_eq_true_eq] at hd
  exact⟨g,hM,hs.put (by omega) hv,by simpa [Act.put] using hsz,hds,hs2⟩
theorem zQ {mvs:List Nat}{dst:Option Nat}{o:Oper}:BU P o (Qg mvs dst ((bU P o).getD .bad)):=by
 cases hc:bU P o with
 | none=>exact .inl rfl
 | some op=>
  simp only [Option.getD_some]
  unfold Qg
  split
  ·split
   ·split
    ·exact .inr (.inr (.inl ⟨_,_,_,_,_,hc,.inl rfl⟩))
    ·split
     ·exact .inr (.inr (.inl ⟨_,_,_,_,_,hc,.inr rfl⟩))
     ·exact .inr (.inl hc)
   ·exact .inr (.inl hc)
  ·exact .inr (.inr (.inr ⟨_,hc,rfl⟩))
  ·exact .inr (.inl hc)
theorem kS (h:l6 P mvs nt ops o=some ao):BU P o ao.op/\tE ops o.guard=some ao.guard/\Bz nt o.dst=true/\ao.dst=o.dst/\vU ao.op=true:=by
 unfold l6 at h
 split at h
 ·rename_i gd h2
  simp only [] at h
  split at h
  ·rename_i h3
   simp only [Bool.and_eq_true] at h3
   simp only [Option.some.injEq] at h
   subst h
   exact⟨zQ,h2,h3.1,rfl,h3.2⟩
  ·cases h
 ·cases h
theorem qC {s:Nat}{b:Bool}{x:Operand}{lo hi:Option Operand}(h:bU P o=some (.slice s b x lo hi)) :
  ∃ t e,o.op=.slice t x lo hi none/\P.underlying t=some (.slice e)/\bE P e=some s:=by
 cases ho:o.op
 case slice t y l u mx=>
  cases mx with
  | some m=>simp [bU,ho] at h
  | none=>
   simp only [bU,ho] at h
   split at h
   ·rename_i e hu
    simp only [Option.map_eq_some_iff,AOp.slice.injEq] at h
    obtain⟨s',h1,rfl,_,rfl,rfl,rfl⟩:=h
    exact⟨t,e,rfl,hu,h1⟩
   ·simp at h
   ·split at h
    ·simp at h
    ·cases h
   ·cases h
 case call c=>
  exfalso
  simp only [bU,ho] at h
  unfold gk at h
  repeat' split at h
  all_goals simp at h
 all_goals (exfalso;simp only [bU,ho] at h)
 case makeFunc fn first caps=>cases fn <;> simp at h <;> split at h <;> simp at h
 case build t ps=>
  repeat' split at h
  all_goals (try (simp at h;done))
  all_goals (simp only [Option.map_eq_some_iff,Option.bind_eq_some_iff] at h;obtain⟨_,_,_,_,h⟩:=h;cases h)
 all_goals (repeat' split at h)
 all_goals (try (simp at h;done))
 all_goals (try (simp only [Option.map_eq_some_iff] at h;obtain⟨_,_,h⟩:=h;cases h))
theorem Lk {ρ:Operand->AV}{dst:Nat}(hE:dp P E)(hM:Mem w0 N0 g T w)(hρ:∀ x,aH w (ap N0 g T) g T (ρ x) (a.eval x)){aop:AOp}(hc:BU P o aop)
  (he:eff P E T ρ dst aop=some (y,es)):aR r n P o a w (Res w0 N0 g T w y es):=by
 rcases hc with rfl | hc | ⟨s,b,x,lo,hi,hc,rfl | rfl⟩ | ⟨o',hc,rfl⟩
 ·cases he
 ·exact XW hE hM hρ hc he
 ·obtain⟨t,e,h1,h2,h3⟩:=qC hc
  exact Im hM hρ h1 h2 h3 he
 ·obtain⟨t,e,h1,h2,h3⟩:=qC hc
  exact afU hM hρ h1 h2 h3 he
 ·exact XW hE hM hρ hc (by rw [<- aaN];exact he)
theorem oZ {tmps:List (Nat × AV)}(hs:cQ w (ap N0 g T) g T tmps a.tmps)(hsz:a.tmps.size=nt)(hnt:∀ d,((∃ j:Nat,((ops[j]?).bind (·.dst))=some d)->d < nt)){og:Option (Nat × Bool)}{gd:Option (Nat × Bool)}
  (hg:tE ops og=some gd) {b:Bool} (hw:eD tmps gd=some b) {o:Oper} (ho:o.guard=og):Region.wanted o (yielded ops a.tmps)=b:=by
 unfold Region.wanted
 rw [ho]
 cases og with
 | none=>
  simp only [tE,Option.some.injEq] at hg
  subst hg
  simp only [eD,Option.some.injEq] at hw
  exact hw
 | some p=>
  obtain⟨j,want⟩:=p
  simp only [tE,Option.map_eq_some_iff] at hg
  obtain⟨t,ht,rfl⟩:=hg
  have htn:=hnt t ⟨j,ht⟩
  have hget:a.tmps[t]?=some (a.tmps.getD t undef):=by simp [Array.getD,hsz,htn]
  simp only [yielded,ht,Option.bind_some,hget]
  simp only [eD] at hw
  split at hw
  ·rename_i x hx
   simp only [Option.some.injEq] at hw
   obtain⟨c,h1,h2⟩:=hs t _ hx
   simp only [List.cons.injEq,and_true] at h1
   subst h1
   rw [(FO h2).1,<- hw]
   cases x <;> cases want <;> simp
  ·rename_i hx
   simp only [Option.some.injEq] at hw
   obtain⟨c,h1,h2⟩:=hs t _ hx
   simp only [List.cons.injEq,and_true] at h1
   subst h1
   rw [show a.tmps.getD t undef=undef from h2,<- hw]
   simp [undef]
  ·cases hw
def my (nt:Nat)(ops:Array Oper):Bool:=ops.toList.all fun o=>Bz nt o.dst
theorem jU (h:my nt ops=true):∀ d,((∃ j:Nat,((ops[j]?).bind (·.dst))=some d)->d < nt):=by
 rintro d ⟨j,hj⟩
 cases ho:ops[j]? with
 | none=>simp [ho] at hj
 | some o=>
  simp only [ho,Option.bind_some] at hj
  have:=List.all_eq_true.1 h o (by obtain⟨h1,h2⟩:=Array.getElem?_eq_some_iff.1 ho;rw [<- h2];simp)
  rw [hj] at this
  simpa [Bz] using this
theorem IX (hE:dp P E)(hc:l6 P mvs nt ops o=some ao)(hds:my nt ops=true){i:Nat}(hi:ops[i]?=some o)(hR:Rel w0 N0 nt svv σ a w)(hs:tw P E ao σ=some σ')
  {K:Act->World->Prop} {Q:Exit->Act->World->Prop} (hK:∀ a' w',Rel w0 N0 nt svv σ' a' w'->K a' w'):wpOpIn (Fw r) n P ops Q i K a w:=by
 obtain⟨g,hM,hS,hsz,hdf,hS2⟩:=hR
 obtain⟨h1,h2,h3,h4,h5⟩:=kS hc
 unfold tw at hs
 split at hs
 ·rename_i y es hout
  simp only [Option.some.injEq] at hs
  subst hs
  unfold mf at hout
  split at hout
  ·rename_i hw
   have hwant:=oZ hS hsz (jU hds) h2 hw rfl
   have hok:=Lk (r:=r) (n:=n) hE hM.rebase (fun x=>fe hS x) h1 hout
   unfold wpOpIn
   simp only [hi]
   rw [if_pos hwant]
   refine hok K Q ?_
   rintro v w' ⟨g',hM',hKp,hv⟩
   refine hK _ _ ?_
   unfold bK
   rw [h4]
   refine Rel.put (σ:=σ) (w0:=w0) (N0:=N0) (g:=g') (T:=aputs σ.tab es) (hM.unbase hM') (fun t x hx=>hKp.a (hS t x hx)) hsz (xj.mono hdf fun b o=>hM.others hM') h3 hv (fun t x hx=>hKp.a (hS2 t x hx))
  ·rename_i hw
   simp only [Option.some.injEq,Prod.mk.injEq] at hout
   obtain⟨rfl,rfl⟩:=hout
   have hwant:=oZ hS hsz (jU hds) h2 hw rfl
   unfold wpOpIn
   simp only [hi]
   rw [if_neg (by rw [hwant];simp)]
   refine⟨fun _ _=>trivial,hK _ _ ?_⟩
   unfold bK
   rw [h4]
   exact Rel.put (σ:=σ) (w0:=w0) (N0:=N0) (g:=g) (T:=aputs σ.tab []) hM hS hsz hdf h3 ⟨_,rfl,rfl⟩ hS2
  ·cases hout
 ·cases hs
def rh (P:Program)(E:Env):List be->St->Option St
 | [],σ=>some σ
 | ao::l,σ=>match tw P E ao σ with
  | some σ'=>rh P E l σ'
  | none=>none
def cM (P:Program)(mvs:List Nat)(nt:Nat)(ops:Array Oper):List Oper->Option (List be)
 | []=>some []
 | o::l=>match l6 P mvs nt ops o,cM P mvs nt ops l with
  | some ao,some as=>some (ao::as)
  | _,_=>none
theorem Nh (hE:dp P E)(hds:my nt ops=true){Q:Exit->Act->World->Prop}:∀ (l:List Oper) (as:List be) (k:Nat) (σ:St) (a:Act) (w:World),cM P mvs nt ops l=some as->(∀ j,l[j]?=ops[k+j]?) ->
  Rel w0 N0 nt svv σ a w->rh P E as σ=some σ'->(∀ a' w',Rel w0 N0 nt svv σ' a' w'->Q .normal a' w')->wpOpsIn (Fw r) n P ops Q (List.range' k l.length) a w
 | [],as,k,σ,a,w,hc,hl,hR,hs,hQ=>by
  simp only [cM,Option.some.injEq] at hc
  subst hc
  simp only [rh,Option.some.injEq] at hs
  subst hs
  exact hQ a w hR
 | o::l,as,k,σ,a,w,hc,hl,hR,hs,hQ=>by
  simp only [cM] at hc
  split at hc
  ·rename_i ao as' h1 h2
   simp only [Option.some.injEq] at hc
   subst hc
   simp only [rh] at hs
   split at hs
   ·rename_i σ1 h3
    have h0:ops[k]?=some o:=by simpa using (hl 0).symm
    rw [List.length_cons,List.range'_succ,wpOpsIn_cons]
    exact IX hE h1 hds h0 hR h3 fun a' w' hR'=>Nh hE hds l as' (k+1) σ1 a' w' h2 (fun j=>by have:=hl (j+1);simpa [Nat.add_assoc,Nat.add_comm 1 j] using this) hR' hs hQ
   ·cases hs
  ·cases hc
theorem R3 (hE:dp P E)(hds:my nt ops=true){as:List be}(hc:cM P mvs nt ops ops.toList=some as){id:Nat}{Q:Exit->Act->World->Prop}(hR:Rel w0 N0 nt svv σ a w)(hs:rh P E as σ=some σ')
  (hQ:∀ a' w',Rel w0 N0 nt svv σ' a' w'->Q .normal a' w'):(Code.region id ops false).wpIn (Fw r) n P Q a w:=
 wpIn_region (by
  have:=Nh (r:=r) (n:=n) hE hds ops.toList as 0 σ a w hc (by simp) hR hs hQ
  rw [List.range_eq_range']
  simpa using this)
end Go.AM
