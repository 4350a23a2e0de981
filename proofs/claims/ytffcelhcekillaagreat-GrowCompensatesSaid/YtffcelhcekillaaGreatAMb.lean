/- Texts of one kind, put together. -/
import Derived.Test.YtffcelhcekillaaGreatAMa
import Derived.Lib.ConvBytes
import Derived.RangeFuncFrom
import Derived.RangeFuncLeaves
import Derived.OrdersIn
namespace Go.AM
open Go.RowKit
variable {P:Program}{E:Env}{w0:fC}{w w':World}{N0:Nat->Prop}{g g':Gh}{T T':Tab}{r:Option Nat}{n:Nat}{o:Oper}{a:Act}{ρ:Operand->AV}{dst:Nat} {y:AV} {es:List (Nat × aL)}
theorem eI (P:Program)(b o:Nat)(t:TypeId)(fz:Nat × Nat):∀ (vs:List Value) (i:Nat) (cur:Array Value) (w:World),w.heap[b]?=some (.cells cur t fz)->o+i+vs.length<=cur.size ->
  (∀ j,j < vs.length->(decide (fz.1<=o+i+j) && decide (o+i+j < fz.2))=false)->(∀ v ∈ vs,v.oneCell'=true) ->
  (storeCells ⟨b,o,none⟩ vs i).run P w=.ok () (w.setRow b (splice cur.toList (o+i) vs).toArray)
 | [],i,cur,w,hg,_,_,_=>by
  simp only [storeCells,splice,List.append_nil,List.length_nil,Nat.add_zero,List.take_append_drop,Array.toArray_toList];rw [setRow_self w b cur t fz hg];rfl
 | v::rest,i,cur,w,hg,hl,hf,h1=>by
  have hi:o+i < cur.size:=by simp at hl;omega
  have hcell:w.cell? ⟨b,o+i,none⟩=some cur[o+i]:=by simp [World.cell?,hg,hi]
  have hfro:w.frozen? ⟨b,o+i,none⟩=false:=by
   have:=hf 0 (by simp);simp only [World.frozen?,hg];simpa using this
  have hst:(store ((⟨b,o,none⟩:Addr).add i) v).run P w=.ok () (w.setRow b (cur.setIfInBounds (o+i) v)):=by
   rw [fg,run_store P w _ v _ (h1 v (by simp)),hcell];simp [hfro,setCell_eq_setRow w b (o+i) cur t fz v hg]
  have ih:=eI P b o t fz rest (i+1) (cur.setIfInBounds (o+i) v) (w.setRow b (cur.setIfInBounds (o+i) v)) (setRow_heap w b cur _ t fz hg) (by simp at hl ⊢;omega)
   (fun j hj=>by have:=hf (j+1) (by simp;omega);rwa [show o+i+(j+1)=o+(i+1)+j by omega] at this) (fun x hx=>h1 x (by simp [hx]))
  simp only [storeCells,Sem.run_bind,hst,Result.andThen_ok,ih,setRow_setRow];congr 2;have:=list_seg_step cur.toList (o+i) v rest (by simp at hl ⊢;omega);simp only [splice,Array.toList_setIfInBounds,List.length_cons];rw [show o+(i+1)=o+i+1 by omega];rw [this]
theorem gY (w:World)(b:Nat)(cs:Array Value):w.grownBy (w.setRow b cs) (some b):=
 ⟨rfl,rfl,rfl,by simp,fun k _ hk=>setRow_other w b k cs (fun h=>hk (by rw [h]))⟩
theorem u0 {t:TypeId}{x z:Operand}(ho:o.op=.store t x z){s b off:Nat}(hs:bL P t=some s)(hx:a.eval x=.pointer (some ⟨b,off,none⟩))(hsz:(a.eval z).cells.size=s){cur:Array Value}{te:TypeId}{fz:Nat × Nat}
  (hg:w.heap[b]?=some (.cells cur te fz)) (hl:off+s<=cur.size) (hf:∀ j,j < s->(decide (fz.1<=off+j) && decide (off+j < fz.2))=false) (h1:∀ v ∈ (a.eval z).cells.toList,v.oneCell'=true) :
  (execOp a.eval o).run P w=.ok .skip (w.setRow b (splice cur.toList off (a.eval z).cells.toList).toArray):=by
 have:=eI P b off te fz (a.eval z).cells.toList 0 cur w hg (by simp [hsz];omega) (fun j hj=>by simpa using hf j (by simpa [hsz] using hj)) h1;simp only [Nat.add_zero] at this;simp only [execOp,ho,Instr.storeAt,hx,Instr.sureAddr,Sem.run_bind,Sem.run_pure,Result.andThen_ok,storeVar,bY hs];rw [if_neg (by simpa using hsz)];simp [this]
theorem acl (hM:Mem w0 N0 g T w)(hρ:∀ x,aT w (aB N0 g T) g T (ρ x) (a.eval x)){t:TypeId}{x z:Operand}{s:Nat}(ho:o.op=.store t x z)(hs:bL P t=some s)
  (he:eff P E T ρ dst (.store s x z)=some (y,es)):bj r n P o a w (Res w0 N0 g T w y es):=by
 have hd:∀ c,o.op ≠ .defer c:=fun c h=>by rw [ho] at h;cases h
 simp only [eff] at he;split at he
 ·rename_i ys m off hy hx
  obtain⟨_,b,hb,hv⟩:=bf (hρ x) hx;split at he
  ·rename_i cs hm
   split at he
   ·rename_i hcond
    obtain⟨h1,h2,h3⟩:=hcond;simp only [zaI,zbI] at he;obtain⟨rfl,rfl⟩:=he;obtain⟨b',cells,t',k1,k2,k3,k4,k5⟩:=hM.box hm;rw [hb] at k1;simp only [zaI] at k1;subst k1;obtain⟨bb,hvz⟩:=jL (hρ z) hy;obtain⟨c1,c2,c3⟩:=hvz.cells h3;have hl:live T m:=by unfold live;rw [hm];trivial
    have hrun:=u0 (w:=w) ho hs hv (by rw [c1,h1]) k2 (by omega) (fun j _=>by simp) c3;have hfit:off+ys.length<=cs.length:=by omega
    obtain⟨q1,q2⟩:=hM.write (e:=.box (splice cs off ys)) hl hb trivial (gY w b _) (by simp) (fun hK=>by
     have hrel:dQ w (aB N0 g T) g T (splice cs off ys) (splice cells.toList off (a.eval z).cells.toList):=
      dQ.splice ⟨by simpa using k3,fun i c x hc hx=>k4 i c x hc (by simpa using hx)⟩ ⟨by simpa using c1,fun i c x hc hx=>c2 i c x hc (by simpa using hx)⟩ hfit
     exact⟨b,(splice cells.toList off (a.eval z).cells.toList).toArray,t',hb,setRow_heap w b cells _ t' _ k2,by rw [List.size_toArray];exact hrel.1,fun i c x hc hx=>hK.c (hrel.2 i c x hc (by rw [List.getElem?_toArray] at hx;exact hx)),lJ (MN (AP k5) h3 hfit)⟩)
    exact bj.skip hd hrun ⟨g,q1,q2,_,rfl,rfl⟩
   ·cases he
  ·cases he
 ·rename_i ys m i off hy hx
  obtain⟨hsome,b,o',len,cap,hsv,hv⟩:=bf (hρ x) hx;split at he
  ·rename_i ds fs hfz
   split at he
   ·rename_i s' rows hm
    split at he
    ·rename_i hcond
     obtain⟨h1,h2,h3⟩:=hcond;simp only [zaI,zbI] at he;obtain⟨rfl,rfl⟩:=he;obtain⟨bb,hvz⟩:=jL (hρ z) hy;have hok:nK ys=true:=by
      refine AP fun j c hc=>?_;have:∀ {cs:List C} {T:Tab} {ds:List DC} {es:List (Nat × aL)},cQ T cs=some (ds,es)->∀ (j:Nat) (c:C),cs[j]?=some c->okC c=true:=by
       intro cs
       induction cs with
       | nil=>intro T ds es _ j c hc;simp at hc
       | cons c0 cr ih=>
        intro T ds es hf j c hc;simp only [cQ] at hf;split at hf
        ·cases hf
        ·rename_i d e' h3
         split at hf
         ·cases hf
         ·rename_i ds' es' h4
          cases j with
          | zero=>
           simp at hc;subst hc;cases c0 <;> first | rfl | (simp [i7] at h3)
          | succ j=>exact ih h4 j c (by simpa using hc)
      exact this hfz j c hc
     obtain⟨c1,c2,c3⟩:=hvz.cells hok;obtain⟨m1,m2,m3,m4⟩:=ip hM (xs:=(a.eval z).cells.toList) ⟨by simpa using c1,fun j c u hc hu=>c2 j c u hc (by simpa using hu)⟩ hfz;obtain⟨hso,hst⟩:=m1.ents m _ hm;have hl:live (aputs T fs) m:=by unfold live;rw [hm];trivial
     rcases hso with ⟨_,hr,_⟩ | ⟨b',off',cap',cells,t',fz,k1,k2,k3,k4,k5,k6,k7,k8,k9,k10⟩
     ·subst hr;simp at h2
     ·rw [hsv] at k2
      simp only [Value.slice.injEq,zaI,Addr.mk.injEq,and_true] at k2;obtain⟨⟨rfl,rfl⟩,hlen,rfl⟩:=k2;have hrow:=k8 _ (List.mem_of_getElem? (mq h2));have hin:i*s'+s'<=cap*s':=by
       have:(i+1)*s'<=cap*s':=Nat.mul_le_mul_right _ (by omega)
       rwa [Nat.add_mul,Nat.one_mul] at this
      rw [hst] at hv;have hrun:=u0 (w:=w) ho hs hv (by rw [c1,h1]) k3 (by omega) (fun j hj=>k7 _ (by omega) (by omega)) c3;have hlz:(a.eval z).cells.toList.length=s:=by simp [c1,h1]
      have hfit:o'+i*s'+off+(a.eval z).cells.toList.length<=cells.toList.length:=by rw [hlz];simp;omega
      have hds:ds.length=s:=by rw [m3,h1]
      obtain⟨q1,q2⟩:=m1.write (e:=.own s' (rows.set i (splice (cu rows i) off ds))) hl k1 trivial (gY w b _) (by simp) (fun hK=>by
       refine⟨.inr ⟨b,o',cap,(splice cells.toList (o'+i*s'+off) (a.eval z).cells.toList).toArray,t',fz,k1,by rw [hsv,hlen];simp,setRow_heap w b cells _ t' _ k3,by simpa using k4,k5,by rw [List.size_toArray,cP hfit];simpa using k6,k7,fun r hr=>?_,k9,fun p j r d hr hdd=>?_⟩,hst⟩
       ·rcases List.mem_or_eq_of_mem_set hr with hr | rfl
        ·exact k8 r hr
        ·rw [cP (by omega),hrow]
       ·have hget:(splice cells.toList (o'+i*s'+off) (a.eval z).cells.toList).toArray[o'+p*s'+j]?=if o'+i*s'+off<=o'+p*s'+j/\o'+p*s'+j < o'+i*s'+off+s then (a.eval z).cells.toList[o'+p*s'+j - (o'+i*s'+off)]? else cells[o'+p*s'+j]?:=by
         rw [List.getElem?_toArray,eB hfit,hlz];simp only [Array.getElem?_toList]
        rw [hget];rw [List.getElem?_set] at hr;by_cases hp:i=p
        ·subst hp
         simp only [h2,if_true,zaI] at hr;subst hr;rw [eB (by omega),hds] at hdd;by_cases hj:off<=j/\j < off+s
         ·rw [if_pos hj] at hdd
          rw [if_pos (by omega),show o'+i*s'+j - (o'+i*s'+off)=j - off by omega];obtain⟨u,hu⟩:∃ u,(a.eval z).cells.toList[j - off]?=some u:=⟨(a.eval z).cells.toList[j - off]'(by omega),by simp⟩
          exact⟨u,hu,hK.d _ _ (m4 _ d u hdd hu)⟩
         ·rw [if_neg hj] at hdd
          rw [if_neg (by omega)];obtain⟨c,hc,hx⟩:=k10 i j _ d (mq h2) hdd;exact⟨c,hc,hK.d _ _ hx⟩
        ·simp only [hp,if_false] at hr
         have hjl:j < s':=by rw [<- k8 r (List.mem_of_getElem? hr)];exact (List.getElem?_eq_some_iff.1 hdd).1
         rw [if_neg]
         ·obtain⟨c,hc,hx⟩:=k10 p j r d hr hdd
          exact⟨c,hc,hK.d _ _ hx⟩
         ·intro ⟨e1,e2⟩
          exact ab1 (Ne.symm hp) hjl (m:=p*s'+j - i*s') (by omega) (by omega))
      exact bj.skip hd hrun (Res.trans m2 ⟨g,q1,q2,_,rfl,rfl⟩)
    ·cases he
   ·cases he
  ·cases he
 ·cases he
theorem dl.append {N:Nat->Prop}{sz:Nat}{rows rows2:List (List DC)}{A B:List Value}(h:dl w N sz rows A)(k:dl w N sz rows2 B):dl w N sz (rows++rows2) (A++B):=by
 refine⟨by simp [h.1,k.1,Nat.add_mul],fun r hr=>?_,fun i j r d hr hd=>?_⟩
 ·rcases List.mem_append.1 hr with hr | hr
  ·exact h.2.1 r hr
  ·exact k.2.1 r hr
 ·rw [List.getElem?_append] at hr
  split at hr
  ·rename_i hi
   have hj:j < sz:=by rw [<- h.2.1 r (List.mem_of_getElem? hr)];exact (List.getElem?_eq_some_iff.1 hd).1
   obtain⟨c,hc,hx⟩:=h.2.2 i j r d hr hd;rw [List.getElem?_append_left (by rw [h.1];exact sk hi hj)];exact⟨c,hc,hx⟩
  ·rename_i hi
   obtain⟨c,hc,hx⟩:=k.2.2 (i - rows.length) j r d hr hd;have e:i*sz+j - A.length=(i - rows.length)*sz+j:=by
    rw [h.1];have:i*sz=rows.length*sz+(i - rows.length)*sz:=by rw [<- Nat.add_mul];congr 1;omega
    omega
   rw [List.getElem?_append_right (by rw [h.1];have:=Nat.mul_le_mul_right sz (show rows.length<=i by omega);omega),e];exact⟨c,hc,hx⟩
theorem dl.one {N:Nat->Prop}{sz:Nat}{rows:List (List DC)}{A:List Value}(h:dl w N sz rows A)(h0:0 < sz):∀ v ∈ A,v.oneCell'=true:=by
 intro v hv;obtain⟨k,hk⟩:=List.mem_iff_getElem?.1 hv;have hlt:k < rows.length*sz:=by rw [<- h.1];exact (List.getElem?_eq_some_iff.1 hk).1
 have hi:k / sz < rows.length:=Nat.div_lt_of_lt_mul (by rw [Nat.mul_comm];exact hlt);have hj:k % sz < sz:=Nat.mod_lt _ h0;have hr:rows[k / sz]?=some rows[k / sz]:=by simp [hi]
 have hlen:=h.2.1 _ (List.mem_of_getElem? hr);have hd:rows[k / sz][k % sz]?=some (rows[k / sz][k % sz]'(by omega)):=by simp
 obtain⟨c,hc,hx⟩:=h.2.2 _ _ _ _ hr hd;rw [Nat.mul_comm,Nat.div_add_mod,hk] at hc;simp only [zaI] at hc;subst hc;exact hx.one
theorem yA {N:Nat->Prop}{sz:Nat}{rows:List (List DC)}{b off:Nat}(h0:0 < sz)(hl:∀ r ∈ rows,r.length=sz)
  (hc:∀ (i j:Nat) (r:List DC) (d:DC),rows[i]?=some r->r[j]?=some d->∃ c,w.cell? ⟨b,off+i*sz+j,none⟩=some c/\aX w N d c) :
  ∃ A:Array Value,(loadCells ⟨b,off,none⟩ (rows.length*sz)).run P w=.ok A w/\dl w N sz rows A.toList:=by
 have key:∀ k,k < rows.length*sz->∃ r d,rows[k / sz]?=some r/\r[k % sz]?=some d:=fun k hk=>by
  have hi:k / sz < rows.length:=Nat.div_lt_of_lt_mul (by rw [Nat.mul_comm];exact hk);have hj:k % sz < sz:=Nat.mod_lt _ h0;have hr:rows[k / sz]?=some rows[k / sz]:=by simp [hi]
  have hlen:=hl _ (List.mem_of_getElem? hr);exact⟨_,_,hr,by rw [List.getElem?_eq_getElem (by omega)]⟩
 have hcell:∀ k,k < rows.length*sz->∃ c,w.cell? ⟨b,off+k,none⟩=some c:=fun k hk=>by
  obtain⟨r,d,hr,hd⟩:=key k hk;obtain⟨c,hc,_⟩:=hc _ _ r d hr hd;rw [Nat.add_assoc,Nat.mul_comm,Nat.div_add_mod] at hc;exact⟨c,hc⟩
 refine⟨((List.range (rows.length*sz)).map fun k=>(w.cell? ⟨b,off+k,none⟩).getD undef).toArray,?_,by simp,hl,fun i j r d hr hd=>?_⟩
 ·refine run_loadCells w _ _ _ fun j hj=>?_
  obtain⟨c,hc⟩:=hcell j hj;rw [fg,hc];rfl
 ·have hi:=(List.getElem?_eq_some_iff.1 hr).1
  have hj:j < sz:=by rw [<- hl r (List.mem_of_getElem? hr)];exact (List.getElem?_eq_some_iff.1 hd).1
  obtain⟨c,hc,hx⟩:=hc i j r d hr hd;refine⟨c,?_,hx⟩;have hlt:=sk hi hj;rw [Nat.add_assoc] at hc;simp [hlt,hc]
theorem Gz (hM:Mem w0 N0 g T w){x:AV}{rows:List (List DC)}{v:Value}{sz:Nat}(h0:0 < sz)(hx:aT w (aB N0 g T) g T x v)(h:jK T x=some rows)(hall:eS sz rows=true) :
  ∃ (ad:Option Addr) (cap:Nat) (A:Array Value),v=.slice ad rows.length cap/\(Builtin.firstCells sz rows.length v).run P w=.ok A w/\dl w (aB N0 g T) sz rows A.toList:=by
 obtain⟨ad,cap,hv,hr⟩:=yp hM hx h;have hl:=kj hall;rcases hr with rfl | ⟨b,off,s,rfl,hb,hs,hls,hc⟩
 ·refine⟨ad,cap,#[],hv,?_,by simp,by simp,by simp⟩
  subst hv;cases ad with
  | none=>rfl
  | some ad=>
   have:=run_loadCells_list (P:=P) w ad [] (by simp);simpa [Builtin.firstCells] using this
 ·by_cases hne:rows=[]
  ·subst hne
   refine⟨_,cap,#[],hv,?_,by simp,by simp,by simp⟩;subst hv;have:=run_loadCells_list (P:=P) w ⟨b,off,none⟩ [] (by simp);simpa [Builtin.firstCells] using this
  ·obtain⟨r0,rest,rfl⟩:=List.exists_cons_of_ne_nil hne
   have:s=sz:=by rw [<- hls r0 (by simp),hl r0 (by simp)]
   subst this;obtain⟨A,hA,hR⟩:=yA (P:=P) hs hls hc;exact⟨_,cap,A,hv,by subst hv;exact hA,hR⟩
theorem lu {t u e:TypeId}{ty:TypeId}{i:TypeInfo}{z:Value}(ht:P.underlying t=some (.slice e))(hu:P.underlying u=some (.slice e))(hi:P.info? e=some i)(hz:wU P e=some z)
  {base:Option Addr} {sLen sCap m:Nat} {x:Value} (hx:(Builtin.lenOf x).run P w=.ok m w) (hneed:sCap < sLen+m) (hbytes:(sLen+m)*i.bytes<=140737488355328)
  {old news:Array Value} (ho:(Builtin.firstCells i.size sLen (.slice base sLen sCap)).run P w.drew=.ok old w.drew) (hn:(Builtin.firstCells i.size m x).run P w.drew=.ok news w.drew) (hmax:sLen+m<=9223372036854775807) :
  (Builtin.append_ #[t,u] ty #[.slice base sLen sCap,x]).run P w=
   .ok (.slice (some ⟨w.heap.size,0,none⟩) (sLen+m) (grownCap w (sLen+m) sCap e)) (w.drew.alloc (.cells (old++news++Builtin.zeroCells z.cells (grownCap w (sLen+m) sCap e - (sLen+m))) e)):=by
 have hfit:=growslice_fits hneed hbytes;have h1:¬ sLen+m<=sCap:=by omega
 have h2:¬ Builtin.nextslicecap (sLen+m) sCap*i.bytes > 2 ^ 48:=by omega
 have h3:¬ ((sLen+m:Nat):Int) > IntKind.i64.max:=by simp [IntKind.max,IntKind.signed,IntKind.bits];omega
 have hzz:=eM hz w.drew;simp only [Builtin.append_];simp [run_underlying ht,run_underlying hu,sizeOf,typeInfo,hi,hx,h1,h2,Question.forced,ho,hn,hzz,newRow,grownCap];simp at h3;omega
theorem xw {t u e:TypeId}{ty:TypeId}{i:TypeInfo}(ht:P.underlying t=some (.slice e))(hu:P.underlying u=some (.slice e))(hi:P.info? e=some i)
  {b off sLen sCap m:Nat} {x:Value} (hx:(Builtin.lenOf x).run P w=.ok m w) (hneed:sLen+m<=sCap)
  {news:Array Value} (hn:(Builtin.firstCells i.size m x).run P w=.ok news w) {cur:Array Value} {te:TypeId} {fz:Nat × Nat} (hg:w.heap[b]?=some (.cells cur te fz)) (hfit:off+sLen*i.size+news.size<=cur.size)
  (hf:∀ j,j < news.size->(decide (fz.1<=off+sLen*i.size+j) && decide (off+sLen*i.size+j < fz.2))=false) (h1:∀ v ∈ news.toList,v.oneCell'=true) :
  (Builtin.append_ #[t,u] ty #[.slice (some ⟨b,off,none⟩) sLen sCap,x]).run P w=
   .ok (.slice (some ⟨b,off,none⟩) (sLen+m) sCap) (w.setRow b (splice cur.toList (off+sLen*i.size) news.toList).toArray):=by
 have hst:=eI P b (off+sLen*i.size) te fz news.toList 0 cur w hg (by simpa using hfit) (by simpa using hf) h1;simp only [Nat.add_zero] at hst;simp [Builtin.append_,run_underlying ht,run_underlying hu,sizeOf,typeInfo,hi,hx,hneed,hn,fg,hst]
theorem nq {t u e:TypeId}{ty:TypeId}{i:TypeInfo}(ht:P.underlying t=some (.slice e))(hu:P.underlying u=some (.slice e))(hi:P.info? e=some i)
  {x:Value} (hx:(Builtin.lenOf x).run P w=.ok 0 w) {news:Array Value} (hn:(Builtin.firstCells i.size 0 x).run P w=.ok news w) :
  (Builtin.append_ #[t,u] ty #[.slice none 0 0,x]).run P w=.ok (.slice none 0 0) w:=by
 simp [Builtin.append_,run_underlying ht,run_underlying hu,sizeOf,typeInfo,hi,hx,hn]
theorem iE {v:Value}{sz k:Nat}{A:Array Value}(h:(Builtin.firstCells sz k v).run P w=.ok A w):(Builtin.firstCells sz k v).run P w.drew=.ok A w.drew:=by
 unfold Builtin.firstCells at *;split at h
 ·rename_i ad _ _
  have key:∀ (n i:Nat) (acc:Array Value) (A:Array Value),(loadCellsFrom ad i n acc).run P w=.ok A w->(loadCellsFrom ad i n acc).run P w.drew=.ok A w.drew:=by
   intro n
   induction n with
   | zero=>intro i acc A h;simp only [loadCellsFrom,Sem.run_pure,Result.ok.injEq] at h ⊢;exact⟨h.1,trivial⟩
   | succ n ih=>
    intro i acc A h;simp only [loadCellsFrom,Sem.run_bind,run_load,World.cell?_drew] at h ⊢;cases hc:w.cell? (ad.add i) with
    | some x=>simp only [hc,Result.andThen_ok] at h ⊢;exact ih _ _ _ h
    | none=>
     simp only [hc] at h ⊢;have e:w.drew.farLoad P (ad.add i) (Mode.plain == Mode.atomic)=w.farLoad P (ad.add i) (Mode.plain == Mode.atomic):=rfl;rw [e];cases hf:w.farLoad P (ad.add i) (Mode.plain == Mode.atomic) with
     | ok p=>simp only [hf,Result.andThen_ok] at h ⊢;exact ih _ _ _ h
     | error h'=>simp only [hf,Result.andThen_halt] at h;cases h
  exact key _ _ _ _ h
 ·simp only [Sem.run_pure,Result.ok.injEq] at h ⊢;exact⟨h.1,trivial⟩
 ·simp only [Sem.run_pure,Result.ok.injEq] at h ⊢;exact⟨h.1,trivial⟩
 ·cases h
theorem aX.heap {N:Nat->Prop}{d:DC}{v:Value}(h:aX w N d v)(hs:w'.heap=w.heap):aX w' N d v:=h.mono (by rw [hs];exact Nat.le_refl _) (fun b _ _=>by rw [hs]) (fun _ _ h=>h)
theorem ZT (hM:Mem w0 N0 g T w)(hρ:∀ x,aT w (aB N0 g T) g T (ρ x) (a.eval x)){c:Call}{p q:Operand}{t u e:TypeId}{i:TypeInfo}{z:Value}(ho:o.op=.call c)(hc:c.callee=.builtin .append)
  (ha:c.args.toList=[p,q]) (hat:c.argTypes.toList=[t,u]) (ht:nw P t=some e) (hu:nw P u=some e) (hi:P.info? e=some i) (hz:wU P e=some z) (hzs:z.cells.size=i.size) (h0:0 < i.size)
  (he:eff P E T ρ dst (.append i.size i.bytes p q)=some (y,es)):bj r n P o a w (Res w0 N0 g T w y es):=by
 have hd:∀ c,o.op ≠ .defer c:=fun c h=>by rw [ho] at h;cases h
 have ha':c.args=#[p,q]:=by rw [<- Array.toArray_toList (xs:=c.args),ha]
 have hat':c.argTypes=#[t,u]:=by rw [<- Array.toArray_toList (xs:=c.argTypes),hat]
 have hexec:∀ {v:Value} {w'':World},(Builtin.append_ #[t,u] o.type #[a.eval p,a.eval q]).run P w=.ok v w''->(execOp a.eval o).run P w=.ok (.value v) w'':=fun h=>by
  simp [execOp,ho,resolve,hc,invoke,builtin,ha',hat',h]
 have ht':=gj ht;have hu':=gj hu;have hsz:bL P e=some i.size:=by simp [bL,hi]
 simp only [eff] at he;split at he
 ·rename_i rows2 hr2
  split at he
  ·rename_i hp
   split at he
   ·rename_i hcond
    obtain⟨hall,hby,hmx,hf⟩:=hcond;simp only [zaI,zbI] at he;obtain⟨rfl,rfl⟩:=he;obtain⟨ad,cap,A,hv,hA,hR⟩:=Gz (P:=P) hM h0 (hρ q) hr2 hall;have hlen:(Builtin.lenOf (a.eval q)).run P w=.ok rows2.length w:=by rw [hv];rfl
    have hpv:a.eval p=.slice none 0 0:=bf (hρ p) hp;by_cases hm:rows2.length=0
    ·have hrn:rows2=[]:=List.eq_nil_of_length_eq_zero hm
     subst hrn;have hrun:=nq (ty:=o.type) ht' hu' hi (x:=a.eval q) (by simpa using hlen) (by simpa using hA);rw [<- hpv] at hrun;have hn:=cU hf;obtain⟨q1,q2⟩:=hM.create (w':=w) (e:=.own i.size []) (ob:=none) (sv:=.slice none 0 0) (s:=i.size) hn (Below.refl _ _) (fun b hb=>by cases hb) (fun hK=>⟨.inl ⟨by simp [Gh.set],rfl,by simp [Gh.set]⟩,by simp [Gh.set]⟩);exact bj.value hd (hexec hrun) ⟨_,q1,q2,_,rfl,by rw [show aputs T [(dst,aL.own i.size [])]=aput T dst (.own i.size []) from rfl,bx];rfl,by simp [Gh.set,hpv],_,_,_,hpv⟩
    ·have hrun:=lu (ty:=o.type) ht' hu' hi hz (base:=none) (sLen:=0) (sCap:=0) hlen (by omega) (by simpa using hby) (old:=#[]) (by rfl) (iE hA) (by omega)
     rw [<- hpv] at hrun;have hcapn:=grownCap_ge w (0+rows2.length) 0 e;have hcapm:=grownCap_le_maxLen w (0+rows2.length) 0 e (by unfold maxLen;omega);have hzc:(Builtin.zeroCells z.cells (grownCap w (0+rows2.length) 0 e - (0+rows2.length))).size=(grownCap w (0+rows2.length) 0 e - (0+rows2.length))*i.size:=by rw [size_zeroCells,hzs]
     have hAs:A.size=rows2.length*i.size:=by simpa using hR.1
     refine bj.value hd (hexec hrun) ?_;simp only [Nat.zero_add] at hcapn hcapm hzc ⊢;refine Res.newSlice hM hf rfl hcapn hcapm ?_ h0 hR.2.1 (fun k j r d hr hdd=>?_) (((Below.refl _ w).drew).alloc (Nat.le_refl _) _) rfl
     ·rw [Array.size_append,Array.size_append,hzc,hAs]
      simp only [Array.size_empty,Nat.zero_add];rw [<- Nat.add_mul];exact Nat.mul_le_mul_right _ (by omega)
     ·obtain⟨c,hcc,hx⟩:=hR.2.2 k j r d hr hdd
      refine⟨c,?_,hx⟩;rw [Array.getElem?_toList] at hcc;have hlt:=(Array.getElem?_eq_some_iff.1 hcc).1;simp only [Array.empty_append];rw [Array.getElem?_append_left hlt];exact hcc
   ·cases he
  ·rename_i m hp
   obtain⟨hsome,hpv,_⟩:=bf (hρ p) hp;split at he
   ·rename_i s rows hm
    split at he
    ·rename_i hcond
     obtain⟨rfl,hall,hby,hmx,hf⟩:=hcond;simp only [zaI,zbI] at he;obtain⟨rfl,rfl⟩:=he;obtain⟨ad,cap2,A,hv,hA,hR⟩:=Gz (P:=P) hM h0 (hρ q) hr2 hall;have hlen:(Builtin.lenOf (a.eval q)).run P w=.ok rows2.length w:=by rw [hv];rfl
     obtain⟨hso,hst⟩:=hM.ents m _ hm;have hne:dst ≠ m:=fun h=>by subst h;rw [hm] at hf;simp at hf
     have hf1:an (aput T m .dead) dst=none:=by rw [bJ _ _ hne];exact cU hf
     have hAs:A.size=rows2.length*i.size:=by simpa using hR.1
     have hget:∀ X:aL,an (aputs T [(m,aL.dead),(dst,X)]) dst=some X:=fun X=>bx _ _ _
     -- a new block: the old name is let go first
     have fresh:∀ {base:Option Addr} {sCap:Nat} {old:Array Value},g.sv m=.slice base rows.length sCap->sCap < rows.length+rows2.length->(Builtin.firstCells i.size rows.length (.slice base rows.length sCap)).run P w=.ok old w ->
       dl w (aB N0 g T) i.size rows old.toList->bj r n P o a w (Res w0 N0 g T w (.val false [.ref dst]) [(m,.dead),(dst,.own i.size (rows++rows2))]):=by
      intro base sCap old hsv hcap hold hRo;have hrun:=lu (ty:=o.type) ht' hu' hi hz (base:=base) (sLen:=rows.length) (sCap:=sCap) hlen hcap hby (iE hold) (iE hA) (by omega);rw [<- hsv,<- hpv] at hrun;have hcapn:=grownCap_ge w (rows.length+rows2.length) sCap e;have hcapm:=grownCap_le_maxLen w (rows.length+rows2.length) sCap e (by unfold maxLen;omega);have hzc:(Builtin.zeroCells z.cells (grownCap w (rows.length+rows2.length) sCap e - (rows.length+rows2.length))).size=(grownCap w (rows.length+rows2.length) sCap e - (rows.length+rows2.length))*i.size:=by rw [size_zeroCells,hzs]
      obtain⟨q1,q2⟩:=hM.retire (n:=m) (e:=.dead) (eL hm) trivial (fun _=>trivial);have hRR:=(hRo.append hR).keeps q2;refine bj.value hd (hexec hrun) (Res.trans (fs:=[(m,.dead)]) q2 ?_);refine Res.newSlice q1 (by rw [hf1];rfl) (by simp) hcapn hcapm ?_ h0 hRR.2.1 (fun k j r d hr hdd=>?_) (((Below.refl _ w).drew).alloc (Nat.le_refl _) _) rfl
      ·have hos:old.size=rows.length*i.size:=by simpa using hRo.1
       rw [Array.size_append,Array.size_append,hzc,hAs,hos,<- Nat.add_mul,<- Nat.add_mul];exact Nat.mul_le_mul_right _ (by omega)
      ·obtain⟨c,hcc,hx⟩:=hRR.2.2 k j r d hr hdd
       refine⟨c,?_,hx⟩;rw [<- Array.toList_append,Array.getElem?_toList] at hcc;rw [Array.getElem?_append_left (Array.getElem?_eq_some_iff.1 hcc).1];exact hcc
     rcases hso with ⟨hsv,hrn,hbn⟩ | ⟨b,off,cap,cells,tt,fz,k1,k2,k3,k4,k5,k6,k7,k8,k9,k10⟩
     ·subst hrn
      by_cases hm0:rows2.length=0
      ·have hrn2:rows2=[]:=List.eq_nil_of_length_eq_zero hm0
       subst hrn2;have hrun:=nq (ty:=o.type) ht' hu' hi (x:=a.eval q) (by simpa using hlen) (by simpa using hA);rw [<- hsv,<- hpv] at hrun;obtain⟨q1,q2⟩:=hM.move (dst:=dst) (rows':=[]) (v:=.slice none 0 0) hm (cU hf) (w':=w) ⟨rfl,rfl,rfl,Nat.le_refl _,fun _ _ _=>rfl⟩ rfl (fun hK=>.inl ⟨rfl,rfl,hbn⟩);refine bj.value hd (hexec hrun) ⟨_,q1,q2,_,rfl,by simp only [List.append_nil];rw [hget];rfl,by simp [Gh.set,hpv,hsv],_,_,_,by rw [hpv,hsv]⟩
      ·exact fresh hsv (by simp;omega) (by rfl) ⟨by simp,by simp,by simp⟩
     ·by_cases hroom:rows.length+rows2.length<=cap
      ·have hAl:A.toList.length=rows2.length*i.size:=by simpa using hAs
       have hmul:rows.length*i.size+rows2.length*i.size<=cap*i.size:=by rw [<- Nat.add_mul];exact Nat.mul_le_mul_right _ hroom
       have hrun:=xw (w:=w) (ty:=o.type) ht' hu' hi (x:=a.eval q) (b:=b) (off:=off) hlen hroom hA k3 (by omega) (fun j hj=>k7 _ (by omega) (by omega)) (hR.one h0);rw [<- k2,<- hpv] at hrun;have hfit:off+rows.length*i.size+A.toList.length<=cells.toList.length:=by rw [hAl];simp;omega
       obtain⟨q1,q2⟩:=hM.move (dst:=dst) (rows':=rows++rows2) (v:=.slice (some ⟨b,off,none⟩) (rows.length+rows2.length) cap) hm (cU hf) (w':=w.setRow b (splice cells.toList (off+rows.length*i.size) A.toList).toArray) (by rw [k1];exact gY w b _) (by simp) (fun hK=>by
        refine .inr ⟨b,off,cap,(splice cells.toList (off+rows.length*i.size) A.toList).toArray,tt,fz,k1,by simp,setRow_heap w b cells _ tt _ k3,by simpa using hroom,k5,by rw [List.size_toArray,cP hfit];simpa using k6,k7,fun r hr=>?_,k9,fun p j r d hr hdd=>?_⟩
        ·rcases List.mem_append.1 hr with hr | hr
         ·exact k8 r hr
         ·exact hR.2.1 r hr
        ·rw [List.getElem?_toArray,eB hfit,hAl]
         rw [List.getElem?_append] at hr;split at hr
         ·rename_i hpl
          have hjl:j < i.size:=by rw [<- k8 r (List.mem_of_getElem? hr)];exact (List.getElem?_eq_some_iff.1 hdd).1
          have:=sk hpl hjl;rw [if_neg (by omega)];obtain⟨c,hc',hx⟩:=k10 p j r d hr hdd;exact⟨c,by simpa using hc',hK.d _ _ hx⟩
         ·rename_i hpl
          have hjl:j < i.size:=by rw [<- hR.2.1 r (List.mem_of_getElem? hr)];exact (List.getElem?_eq_some_iff.1 hdd).1
          have hp2:=(List.getElem?_eq_some_iff.1 hr).1;have h5:=sk hp2 hjl;have h6:p*i.size=rows.length*i.size+(p - rows.length)*i.size:=by rw [<- Nat.add_mul];congr 1;omega
          rw [if_pos (by omega),show off+p*i.size+j - (off+rows.length*i.size)=(p - rows.length)*i.size+j by omega];obtain⟨c,hc',hx⟩:=hR.2.2 (p - rows.length) j r d hr hdd;exact⟨c,hc',hK.d _ _ hx⟩)
       exact bj.value hd (hexec hrun) ⟨_,q1,q2,_,rfl,by rw [hget];rfl,by simp [Gh.set],_,_,_,rfl⟩
      ·obtain⟨B,hB,hRB⟩:=yA (P:=P) (w:=w) (N:=aB N0 g T) (b:=b) (off:=off) k9 k8 (fun p j r d hr hdd=>by obtain⟨c,hc',hx⟩:=k10 p j r d hr hdd;exact⟨c,by simp [World.cell?,k3,hc'],hx⟩)
       exact fresh k2 (by omega) hB hRB
    ·cases he
   ·cases he
  ·cases he
 ·cases he
theorem abN (hM:Mem w0 N0 g T w){x:AV}{rows:List (List DC)}{v:Value}{sz k:Nat}(h0:0 < sz)(hx:aT w (aB N0 g T) g T x v)(h:jK T x=some rows)(hall:eS sz rows=true)(hk:k<=rows.length) :
  ∃ (ad:Option Addr) (cap:Nat) (A:Array Value),v=.slice ad rows.length cap/\(Builtin.firstCells sz k v).run P w=.ok A w/\dl w (aB N0 g T) sz (rows.take k) A.toList:=by
 obtain⟨ad,cap,hv,hr⟩:=yp hM hx h;have hl:=kj hall;rcases hr with rfl | ⟨b,off,s,rfl,hb,hs,hls,hc⟩
 ·have hk0:k=0:=by simpa using hk
  subst hk0;refine⟨ad,cap,#[],hv,?_,by simp,by simp,by simp⟩;subst hv;cases ad with
  | none=>rfl
  | some ad=>
   have:=run_loadCells_list (P:=P) w ad [] (by simp);simpa [Builtin.firstCells] using this
 ·by_cases hne:rows=[]
  ·subst hne
   have hk0:k=0:=by simpa using hk
   subst hk0;refine⟨_,cap,#[],hv,?_,by simp,by simp,by simp⟩;subst hv;have:=run_loadCells_list (P:=P) w ⟨b,off,none⟩ [] (by simp);simpa [Builtin.firstCells] using this
  ·obtain⟨r0,rest,hrr⟩:=List.exists_cons_of_ne_nil hne
   have:s=sz:=by rw [<- hls r0 (by rw [hrr];simp),hl r0 (by rw [hrr];simp)]
   subst this;obtain⟨A,hA,hR⟩:=yA (P:=P) (w:=w) (N:=aB N0 g T) (rows:=rows.take k) (b:=b) (off:=off) hs (fun r hr=>hls r (List.mem_of_mem_take hr)) (fun i j r d hr hd=>hc i j r d (by rw [List.getElem?_take] at hr;split at hr;exact hr;cases hr) hd);refine⟨_,cap,A,hv,?_,hR⟩;subst hv;rw [List.length_take,Nat.min_eq_left hk] at hA;exact hA
theorem api (hM:Mem w0 N0 g T w)(hρ:∀ x,aT w (aB N0 g T) g T (ρ x) (a.eval x)){c:Call}{p q:Operand}{t u e:TypeId}{i:TypeInfo}(ho:o.op=.call c)(hc:c.callee=.builtin .copy)
  (ha:c.args.toList=[p,q]) (hat:c.argTypes.toList=[t,u]) (ht:nw P t=some e) (hi:P.info? e=some i) (h0:0 < i.size)
  (he:eff P E T ρ dst (.copy i.size p q)=some (y,es)):bj r n P o a w (Res w0 N0 g T w y es):=by
 have hd:∀ c,o.op ≠ .defer c:=fun c h=>by rw [ho] at h;cases h
 have ha':c.args=#[p,q]:=by rw [<- Array.toArray_toList (xs:=c.args),ha]
 have hat':c.argTypes=#[t,u]:=by rw [<- Array.toArray_toList (xs:=c.argTypes),hat]
 simp only [eff] at he;split at he
 ·rename_i rows2 m lo hi' hrows hpart
  split at he
  ·rename_i s rows hm
   split at he
   ·rename_i hcond
    obtain⟨rfl,hall,hlt,hle⟩:=hcond;simp only [zaI,zbI] at he;obtain⟨rfl,rfl⟩:=he;obtain⟨hso,hst⟩:=hM.ents m _ hm;have hl:live T m:=by unfold live;rw [hm];trivial
    rcases hso with ⟨_,hr,_⟩ | ⟨b,off,cap,cells,te,fz,k1,k2,k3,k4,k5,k6,k7,k8,k9,k10⟩
    ·subst hr;simp at hle;omega
    ·-- where the copy goes
     obtain⟨cap',hvd⟩:∃ cap',a.eval p=.slice (some ⟨b,off+lo*i.size,none⟩) (hi' - lo) cap':=by
      cases hone:de (ρ p) with
      | none=>rw [hone] at hpart;cases hpart
      | some cc=>
       rw [hone] at hpart;have hcc:=bf (hρ p) hone;simp only [Option.bind_some] at hpart;cases cc with
       | ref k=>
        simp only [oF] at hpart;split at hpart
        ·rename_i s' rows' hk
         simp only [zaI,zbI] at hpart;obtain⟨rfl,rfl,rfl⟩:=hpart;rw [hm] at hk;simp only [zaI,aL.own.injEq] at hk;obtain⟨_,rfl⟩:=hk;exact⟨cap,by rw [hcc.2.1,k2];simp⟩
        ·cases hpart
       | sub k a b=>
        simp only [oF,zaI,zbI] at hpart;obtain⟨rfl,rfl,rfl⟩:=hpart;obtain⟨_,_,b2,o2,len,cp,cp',e1,e2,e3⟩:=hcc;rw [k2] at e1;simp only [Value.slice.injEq,zaI,Addr.mk.injEq,and_true] at e1;obtain⟨⟨rfl,rfl⟩,_,_⟩:=e1;rw [hst] at e3;exact⟨cp',e3⟩
       | _=>simp [oF] at hpart
     generalize hkk:min rows2.length (hi' - lo)=k;have hk1:k<=rows2.length:=by omega
     have hk2:k<=hi' - lo:=by omega
     obtain⟨ad,cap2,A,hvs,hA,hR⟩:=abN (P:=P) hM h0 (hρ q) hrows hall hk1;have htake:rows2.take (hi' - lo)=rows2.take k:=by
      rw [<- hkk];by_cases hc:rows2.length<=hi' - lo
      ·rw [Nat.min_eq_left hc,List.take_of_length_le hc,List.take_of_length_le (Nat.le_refl _)]
      ·rw [Nat.min_eq_right (by omega)]
     have hxl:(rows2.take k).length=k:=by simp;omega
     have hAl:A.toList.length=k*i.size:=by rw [hR.1,hxl]
     have hin:lo*i.size+k*i.size<=cap*i.size:=by rw [<- Nat.add_mul];exact Nat.mul_le_mul_right _ (by omega)
     have hfit:off+lo*i.size+A.toList.length<=cells.toList.length:=by rw [hAl];simp;omega
     have hone:=hR.one h0;have hstore:=eI P b (off+lo*i.size) te fz A.toList 0 cells w k3 (by simpa using hfit) (fun j hj=>by
      rw [hAl] at hj;exact k7 _ (by omega) (by omega)) hone
     simp only [Nat.add_zero] at hstore;have hlenOf:(Builtin.lenOf (.slice ad rows2.length cap2)).run P w=.ok rows2.length w:=rfl;have hrun:(execOp a.eval o).run P w=.ok (.value (goInt k)) (w.setRow b (splice cells.toList (off+lo*i.size) A.toList).toArray):=by
      rw [hvs] at hA;have hmin:Nat.min rows2.length (hi' - lo)=k:=hkk;have hcopy:(Builtin.copy_ #[t,u] o.type #[.slice (some ⟨b,off+lo*i.size,none⟩) (hi' - lo) cap',.slice ad rows2.length cap2]).run P w=.ok (goInt k) (w.setRow b (splice cells.toList (off+lo*i.size) A.toList).toArray):=by
       simp [Builtin.copy_,run_underlying (gj ht),sizeOf,typeInfo,hi,hlenOf,hmin,hA,hstore]
      simp only [execOp,ho,resolve,hc];simp [invoke,builtin,ha',hat',hvd,hvs,hcopy]
     obtain⟨q1,q2⟩:=hM.write (e:=.own i.size (splice rows lo (rows2.take k))) hl k1 trivial (gY w b _) (by simp) (fun hK=>by
      refine⟨.inr ⟨b,off,cap,(splice cells.toList (off+lo*i.size) A.toList).toArray,te,fz,k1,by rw [k2,cP (by rw [hxl];omega)],setRow_heap w b cells _ te _ k3,by rw [cP (by rw [hxl];omega)];exact k4,k5,by rw [List.size_toArray,cP hfit];simpa using k6,k7,fun r hr=>?_,k9,fun pi j r d hr hdd=>?_⟩,hst⟩
      ·unfold splice at hr
       rcases List.mem_append.1 hr with hr | hr
       ·rcases List.mem_append.1 hr with hr | hr
        ·exact k8 r (List.mem_of_mem_take hr)
        ·exact hR.2.1 r hr
       ·exact k8 r (List.mem_of_mem_drop hr)
      ·rw [eB (by rw [hxl];omega),hxl] at hr
       have hget:(splice cells.toList (off+lo*i.size) A.toList).toArray[off+pi*i.size+j]?=if off+lo*i.size<=off+pi*i.size+j/\off+pi*i.size+j < off+lo*i.size+k*i.size then A.toList[off+pi*i.size+j - (off+lo*i.size)]? else cells[off+pi*i.size+j]?:=by
        rw [List.getElem?_toArray,eB hfit,hAl];simp only [Array.getElem?_toList]
       rw [hget];by_cases hpi:lo<=pi/\pi < lo+k
       ·rw [if_pos hpi] at hr
        have hjl:j < i.size:=by rw [<- hR.2.1 r (List.mem_of_getElem? hr)];exact (List.getElem?_eq_some_iff.1 hdd).1
        obtain⟨c,hc,hx⟩:=hR.2.2 (pi - lo) j r d hr hdd;have e1:pi*i.size=lo*i.size+(pi - lo)*i.size:=by rw [<- Nat.add_mul];congr 1;omega
        have e2:(pi - lo)*i.size+j < k*i.size:=sk (by omega) hjl;rw [if_pos (by omega),show off+pi*i.size+j - (off+lo*i.size)=(pi - lo)*i.size+j by omega];exact⟨c,hc,hK.d _ _ hx⟩
       ·rw [if_neg hpi] at hr
        have hjl:j < i.size:=by rw [<- k8 r (List.mem_of_getElem? hr)];exact (List.getElem?_eq_some_iff.1 hdd).1
        rw [if_neg]
        ·obtain⟨c,hc,hx⟩:=k10 pi j r d hr hdd
         exact⟨c,hc,hK.d _ _ hx⟩
        ·intro ⟨e1,e2⟩
         rcases Nat.lt_or_ge pi lo with h | h
         ·have:=sk (n:=lo) h hjl
          omega
         ·have h2:lo+k<=pi:=by omega
          have:=Nat.mul_le_mul_right i.size h2;rw [Nat.add_mul] at this;omega)
     rw [htake];exact bj.value hd hrun ⟨g,q1,q2,_,rfl,aX.v rfl⟩
   ·cases he
  ·cases he
 ·cases he
def dq (N0:Nat->Prop)(g:Gh)(T:Tab)(names:List Nat):Nat->Prop:=fun b=>N0 b\/∃ n,n ∉ names/\live T n/\g.blk n=some b
theorem dW {names:List Nat}{b:Nat}(h:dq N0 g T names b):aB N0 g T b:=by
 rcases h with h | ⟨n,_,h1,h2⟩
 ·exact .inl h
 ·exact .inr ⟨n,h1,h2⟩
theorem aX.less {N N':Nat->Prop}(hn:∀ b,N' b->N b){d:DC}{v:Value}(h:aX w N d v):aX w N' d v:=h.mono (Nat.le_refl _) (fun _ _ _=>rfl) (fun b _ h=>hn b h)
theorem Dl (hM:Mem w0 N0 g T w){names:List Nat}{n b:Nat}(hn:n ∈ names)(hl:live T n)(hb:g.blk n=some b):¬ dq N0 g T names b:=by
 rintro (h | ⟨m,h1,h2,h3⟩)
 ·have h1:=hM.n0 b h
  exact (hM.rng n b hl hb).1.elim (fun h=>by omega) h1.2
 ·have:=hM.inj m n b h2 hl h3 hb
  subst this;exact h1 hn
theorem yi (hM:Mem w0 N0 g T w){names:List Nat}{m:Nat}{rows:List (List DC)}(hm:(∃ s,an T m=some (.own s rows))\/an T m=some (.imm rows))(hn:m ∈ names) :
  aX w (dq N0 g T names) (.sl rows) (g.sv m):=by
 rcases hm with ⟨s,hm⟩ | hm
 ·obtain⟨hs,hst⟩:=hM.ents m _ hm
  have hl:live T m:=by unfold live;rw [hm];trivial
  rcases hs with ⟨hv,hr,_⟩ | ⟨b,off,cap,cells,t,fz,h1,h2,h3,h4,h5,h6,h7,h8,h9,h10⟩
  ·rw [hv,hr];exact .nil
  ·rw [h2]
   by_cases hr:rows=[]
   ·subst hr;exact .nil
   ·have hsz:∀ (i:Nat) (r:List DC),rows[i]?=some r->r.length=s:=fun i r hr=>h8 r (List.mem_of_getElem? hr)
    refine .sl (sz:=s) (fun i j=>(cells[off+i*s+j]?).getD undef) (List.length_pos_iff.2 hr) (Dl hM hn hl h1) (hM.rng m b hl h1).2 h9 h8 h4 (fun i j hi hj=>?_) (fun i j r d hr hd=>?_)
    ·obtain⟨r,hr⟩:∃ r,rows[i]?=some r:=⟨rows[i],by simp [hi]⟩
     obtain⟨d,hd⟩:∃ d,r[j]?=some d:=⟨r[j]'(by rw [hsz i r hr];exact hj),by simp⟩
     obtain⟨c,hc,_⟩:=h10 i j r d hr hd;simp [World.cell?,h3,hc]
    ·obtain⟨c,hc,hx⟩:=h10 i j r d hr hd
     rw [hc];exact hx.less fun b hb=>dW hb
 ·exact (hM.ents m _ hm).1.less fun b hb=>dW hb
theorem uK {α β:Type}{f:α->Option β}{l:List α}{r:List β}(h:l.mapM f=some r){i:Nat}{y:β}(hy:r[i]?=some y):∃ x,l[i]?=some x/\f x=some y:=by
 obtain⟨h1,h2⟩:=i9 h;have hi:i < l.length:=by rw [<- h1];exact (List.getElem?_eq_some_iff.1 hy).1
 obtain⟨y',hy',hf⟩:=h2 i l[i] (by simp [hi]);rw [hy] at hy';simp only [zaI] at hy';subst hy';exact⟨l[i],by simp [hi],hf⟩
theorem vV (hM:Mem w0 N0 g T w){names:List Nat}:∀ (k:Nat) {c:C} {d:DC} {v:Value},dr w (aB N0 g T) g T c v->dt T k c=some d->(∀ m ∈ bq T k c,m ∈ names)->aX w (dq N0 g T names) d v
 | 0,c,d,v,_,h,_=>by simp [dt] at h
 | k+1,c,d,v,hc,h,hn=>by
  have box:∀ {m:Nat} {cs:List C} {ds:List DC} {b:Nat},an T m=some (.box cs)->cs.mapM (dt T k)=some ds->(∀ q ∈ cs.flatMap (bq T k),q ∈ names)->m ∈ names->g.blk m=some b ->
    ∀ off,aX w (dq N0 g T names) (.cref ds off) (.pointer (some ⟨b,0+off,none⟩)):=by
   intro m cs ds b hm hds hq hmn hb off;obtain⟨b',cells,t,h1,h2,h3,h4,h5⟩:=hM.box hm;rw [hb] at h1;simp only [zaI] at h1;subst h1;have hl:live T m:=by unfold live;rw [hm];trivial
   obtain⟨e1,e2⟩:=i9 hds;refine .cref (fun j=>(cells[j]?).getD undef) (Dl hM hmn hl hb) (hM.rng m b hl hb).2 (fun j hj=>?_) (fun j d hd=>?_)
   ·have:j < cells.size:=by omega
    simp [World.cell?,h2,this]
   ·obtain⟨c,hc,hf⟩:=uK hds hd
    have hlt:j < cells.size:=by rw [h3];exact (List.getElem?_eq_some_iff.1 hc).1
    have:=vV hM k (h4 j c cells[j] hc (by simp [hlt])) hf (fun q hq'=>hq q (List.mem_flatMap.2 ⟨c,List.mem_of_getElem? hc,hq'⟩));simpa [hlt] using this
  cases c with
  | d x=>simp only [dt,zaI] at h;subst h;exact aX.less (fun b hb=>dW hb) hc
  | nils=>simp only [dt,zaI] at h;subst h;rw [show v=_ from hc];exact .nil
  | und=>simp [dt] at h
  | unk=>simp [dt] at h
  | yld l=>simp [dt] at h
  | sub n lo hi=>simp [dt] at h
  | ref m=>
   obtain⟨_,rfl,_⟩:=hc;simp only [dt] at h;have hmn:m ∈ names:=hn m (by simp [bq]);split at h
   ·rename_i s rows hm
    simp only [zaI] at h;subst h;exact yi hM (.inl ⟨_,hm⟩) hmn
   ·rename_i rows hm
    simp only [zaI] at h;subst h;exact yi hM (.inr hm) hmn
   ·cases h
  | ptr m off=>
   obtain⟨_,b,hb,rfl⟩:=hc;simp only [dt] at h;split at h
   ·rename_i cs hm
    cases hds:cs.mapM (dt T k) with
    | none=>rw [hds] at h;simp at h
    | some ds=>
     rw [hds] at h;simp only [Option.map_some,zaI] at h;subst h;have hmn:m ∈ names:=hn m (by simp [bq]);have:=box hm hds (fun q hq=>hn q (by simp only [bq,hm];exact List.mem_cons_of_mem _ hq)) hmn hb off;simpa using this
   ·cases h
  | eptr m i off=>
   obtain⟨_,b,o',len,cap,hsv,rfl⟩:=hc;simp only [dt] at h;have hmn:m ∈ names:=hn m (by simp [bq]);have key:∀ rows,((∃ s,an T m=some (.own s rows))\/an T m=some (.imm rows))->(rows[i]?).map (fun r=>DC.cref r off)=some d->aX w (dq N0 g T names) d (.pointer (some ⟨b,o'+i*g.st m+off,none⟩)):=by
    intro rows hm h;cases hr:rows[i]? with
    | none=>rw [hr] at h;simp at h
    | some r0=>
     rw [hr] at h;simp only [Option.map_some,zaI] at h;subst h;have hi:=(List.getElem?_eq_some_iff.1 hr).1;have hne:rows ≠ []:=fun h=>by subst h;simp at hi
     have h1:=yi hM hm hmn;obtain⟨b',off',cap',h2,h3,h4,h5,h6⟩:=hM.rows hm hne;rw [hsv] at h1 h2;simp only [Value.slice.injEq,zaI,Addr.mk.injEq,and_true] at h2;obtain⟨⟨rfl,rfl⟩,hll,rfl⟩:=h2;subst hll;cases h1 with
     | nil=>exact absurd rfl hne
     | @sl _ _ _ _ sz f hne' hN hb hsz hl hcap hcc hdd=>
      have hst:g.st m=sz:=by rw [<- h5 r0 (List.mem_of_getElem? hr),hl r0 (List.mem_of_getElem? hr)]
      rw [hst];exact .cref (fun j=>f i j) hN hb (fun j hj=>hcc i j hi (by rw [<- hl r0 (List.mem_of_getElem? hr)];exact hj)) (fun j d hd=>hdd i j r0 d hr hd)
   split at h
   ·rename_i s rows hm;exact key rows (.inl ⟨_,hm⟩) h
   ·rename_i rows hm;exact key rows (.inr hm) h
   ·cases h
  | fn f caps=>
   obtain⟨cs,rfl,h2,h3⟩:=hc;simp only [dt] at h;cases hds:caps.mapM (CG (dt T k) T) with
   | none=>rw [hds] at h;simp at h
   | some ds=>
    rw [hds] at h;simp only [Option.map_some,zaI] at h;subst h;obtain⟨e1,e2⟩:=i9 hds;refine .fn (by omega) (fun i d c hd hc=>?_);obtain⟨cap,hcap,hf⟩:=uK hds hd;have hr:=h3 i cap c hcap hc;cases cap with
    | d x=>simp only [CG,zaI] at hf;subst hf;exact aX.less (fun b hb=>dW hb) hr
    | ptr m=>
     obtain⟨_,b,hb,rfl⟩:=hr;simp only [CG] at hf;split at hf
     ·rename_i bcs hm
      cases hbs:bcs.mapM (dt T k) with
      | none=>rw [hbs] at hf;simp at hf
      | some ds'=>
       rw [hbs] at hf;simp only [Option.map_some,zaI] at hf;subst hf;have hsub:∀ q,q=m\/q ∈ bcs.flatMap (bq T k)->q ∈ names:=fun q hq=>hn q (by
        simp only [bq];refine List.mem_flatMap.2 ⟨_,List.mem_of_getElem? hcap,?_⟩;simp only [hm];exact List.mem_cons.2 hq)
       have:=box hm hbs (fun q hq=>hsub q (.inr hq)) (hsub m (.inl rfl)) hb 0;simpa using this
     ·cases hf
theorem QM (hM:Mem w0 N0 g T w){names:List Nat}{x:AV}{d:DV}{v:Value}(hx:aT w (aB N0 g T) g T x v)(h:yI T x=some d)(hn:∀ m ∈ bA T x,m ∈ names):pU w (dq N0 g T names) d v:=by
 cases x with
 | tup l=>simp [yI] at h
 | val b cs=>
  simp only [yI] at h;cases hds:cs.mapM (dt T 4) with
  | none=>rw [hds] at h;simp at h
  | some ds=>
   rw [hds] at h;simp only [Option.map_some,zaI] at h;subst h;obtain⟨e1,e2⟩:=i9 hds;have hsub:∀ (c:C),c ∈ cs->∀ q ∈ bq T 4 c,q ∈ names:=fun c hc q hq=>hn q (List.mem_flatMap.2 ⟨c,hc,hq⟩);cases b with
   | true=>
    obtain⟨xs,rfl,h2,h3⟩:=hx;refine⟨xs,rfl,by omega,fun i d u hd hu=>?_⟩;obtain⟨c,hc,hf⟩:=uK hds hd;exact vV hM 4 (h3 i c u hc hu) hf (hsub c (List.mem_of_getElem? hc))
   | false=>
    obtain⟨c,rfl,hc⟩:=hx;obtain⟨y,hy,hf⟩:=e2 0 c rfl;cases ds with
    | nil=>simp at hy
    | cons d rest=>
     simp at e1 hy;subst hy;subst e1;exact⟨d,rfl,vV hM 4 hc hf (hsub c (by simp))⟩
theorem wA (hM:Mem w0 N0 g T w)(hρ:∀ x,aT w (aB N0 g T) g T (ρ x) (a.eval x)){names:List Nat}:∀ {args:List Operand} {ds:List DV},fy T ρ args=some ds->(∀ m ∈ args.flatMap (fun x=>bA T (ρ x)),m ∈ names) ->
  ds.length=args.length/\∀ (i:Nat) (d:DV) (v:Value),ds[i]?=some d->(args.map a.eval)[i]?=some v->pU w (dq N0 g T names) d v
 | [],ds,h,_=>by simp [fy] at h;subst h;simp
 | x::rest,ds,h,hn=>by
  simp only [fy] at h;split at h
  ·rename_i d ds' h1 h2
   simp only [zaI] at h;subst h;obtain⟨h3,h4⟩:=wA hM hρ h2 (fun m hm=>hn m (by simp only [List.flatMap_cons];exact List.mem_append_right _ hm));refine⟨by simp [h3],fun i d' v hd hv=>?_⟩;cases i with
   | zero=>
    simp at hd hv;subst hd;subst hv;exact QM hM (hρ x) h1 (fun m hm=>hn m (by simp only [List.flatMap_cons];exact List.mem_append_left _ hm))
   | succ i=>exact h4 i d' v (by simpa using hd) (by simpa using hv)
  ·cases h
theorem FD:∀ {ns ms:List Nat},ae9 ns ms=true->ns.Nodup/\∀ n ∈ ns,n ∉ ms
 | [],_,_=>⟨List.nodup_nil,by simp⟩
 | n::r,ms,h=>by
  simp only [ae9,Bool.and_eq_true,Bool.not_eq_true',List.any_eq_false,beq_iff_eq] at h;obtain⟨⟨h1,h2⟩,h3⟩:=h;obtain⟨h4,h5⟩:=FD h3;refine⟨List.nodup_cons.2 ⟨fun hx=>h1 n hx rfl,h4⟩,fun m hm=>?_⟩;rcases List.mem_cons.1 hm with rfl | hm
  ·exact fun hx=>h2 m hx rfl
  ·exact h5 m hm
def gf (g:Gh):List Nat->List Nat
 | []=>[]
 | n::r=>(g.blk n).getD 0::gf g r
theorem amN {N:Nat->Prop}{c:C}{d:DC}{v:Value}(hc:dr w N g T c v)(h:ZL c=some d):aX w N d v:=by
 unfold ZL at h;split at h
 ·simp only [zaI] at h;subst h;exact hc
 ·simp only [zaI] at h;subst h
  rw [show v=_ from hc];exact .nil
 ·cases h
theorem UX {N:Nat->Prop}{d:DC}{v:Value}(h:aX w N d v):fk d=none/\LW d=false:=by cases h <;> exact⟨rfl,rfl⟩
theorem cv.sub {N N':Nat->Prop}{sz:Nat}{rows:List (List DC)}{v:Value}{ob:Option Nat}(hN:∀ b,N' b->N b)(h:cv w N sz rows v ob):cv w N' sz rows v ob:=by
 rcases h with h | ⟨b,off,cap,cells,t,fz,h1,h2,h3,h4,h5,h6,h7,h8,h9,h10⟩
 ·exact .inl h
 ·exact .inr ⟨b,off,cap,cells,t,fz,h1,h2,h3,h4,h5,h6,h7,h8,h9,fun i j r d hr hdd=>by
   obtain⟨c,hc,hx⟩:=h10 i j r d hr hdd;exact⟨c,hc,hx.less hN⟩⟩
theorem Ns (hM:Mem w0 N0 g T w){names:List Nat}:∀ {cs:List C} {xs:List Value} {l:List DC} {is:List Nat},y6 T cs=some (l,is)->cs.length=xs.length ->
  (∀ (i:Nat) (c:C) (x:Value),cs[i]?=some c->xs[i]?=some x->dr w (aB N0 g T) g T c x)->(∀ n ∈ is,n ∉ names) ->
  (∀ n ∈ is,∃ sz rows,an T n=some (.own sz rows))/\jo w (dq N0 g T names) l xs (is.map g.blk)
 | [],[],l,is,h,_,_,_=>by
  simp only [y6,zaI,zbI] at h;obtain⟨rfl,rfl⟩:=h;exact⟨by simp,rfl⟩
 | [],_::_,_,_,_,h,_,_=>by simp at h
 | _::_,[],_,_,_,h,_,_=>by simp at h
 | c::cs,x::xs,l,is,h,hl,hr,hn=>by
  simp only [y6] at h;split at h
  ·rename_i d l1 ds l2 h1 h2
   simp only [zaI,zbI] at h;obtain⟨rfl,rfl⟩:=h;obtain⟨i1,i2⟩:=Ns hM h2 (by simpa using hl) (fun i c' x' hc hx=>hr (i+1) c' x' (by simpa using hc) (by simpa using hx)) fun n hn'=>hn n (List.mem_append_right _ hn');have h0:=hr 0 c x rfl rfl;have plain:aX w (dq N0 g T names) d x->l1=[]->(∀ n ∈ l1++l2,∃ sz rows,an T n=some (.own sz rows))/\jo w (dq N0 g T names) (d::ds) (x::xs) ((l1++l2).map g.blk):=fun hd he=>by
    subst he;refine⟨by simpa using i1,?_⟩;simp only [jo,(UX hd).1,(UX hd).2,List.nil_append];exact⟨hd,i2⟩
   unfold aeC at h1;split at h1
   ·simp only [zaI,zbI] at h1
    obtain⟨rfl,rfl⟩:=h1;exact plain (aX.less (fun b hb=>dW hb) h0) rfl
   ·simp only [zaI,zbI] at h1
    obtain⟨rfl,rfl⟩:=h1;refine⟨by simpa using i1,?_⟩;simp only [jo,fk,LW,if_true,List.nil_append];exact⟨h0,i2⟩
   ·rename_i n
    split at h1
    ·rename_i s rows hT
     obtain⟨sz,hsz⟩:∃ sz,sz=s+1:=⟨_,rfl⟩
     simp only [zaI,zbI] at h1;obtain⟨rfl,rfl⟩:=h1;have hT:an T n=some (.own sz rows):=by rw [hT,hsz]
     have hlive:live T n:=by unfold live;rw [hT];trivial
     refine⟨fun m hm=>?_,?_⟩
     ·rcases List.mem_cons.1 hm with rfl | hm
      ·exact⟨sz,rows,hT⟩
      ·exact i1 m hm
     ·simp only [List.cons_append,List.nil_append,List.map_cons,jo,fk]
      have hs:cv w (aB N0 g T) sz rows (g.sv n) (g.blk n):=(hM.ents n _ hT).1;rw [hsz] at hs;obtain⟨_,hv,_⟩:=h0;rw [hv];exact⟨hs.sub fun b hb=>dW hb,fun b hb=>.inr ⟨n,hn n (by simp),hlive,hb⟩,i2⟩
    ·rename_i rows hT
     simp only [zaI,zbI] at h1;obtain⟨rfl,rfl⟩:=h1;have hs:aX w (aB N0 g T) (.sl rows) (g.sv n):=(hM.ents n _ hT).1;obtain⟨_,hv,_⟩:=h0;exact plain (by rw [hv];exact hs.less fun b hb=>dW hb) rfl
    ·cases h1
   ·cases h1
  ·cases h
theorem CY (hM:Mem w0 N0 g T w)(hρ:∀ x,aT w (aB N0 g T) g T (ρ x) (a.eval x)){io:List Nat}{names:List Nat}:∀ {args:List Operand} {k:Nat} {ds:List DV} {ns is ms:List Nat},jH T ρ io k args=some (ds,ns,is,ms) ->
  (∀ m ∈ ms,m ∈ names)->(∀ n ∈ ns++is,n ∉ names) ->
  (∀ n ∈ ns,∃ cs,an T n=some (.box cs))/\(∀ n ∈ ns,∃ b,g.blk n=some b)/\(∀ n ∈ is,∃ sz rows,an T n=some (.own sz rows))/\iv w (dq N0 g T names) ds (args.map a.eval) (gf g ns) (is.map g.blk)
 | [],k,ds,ns,is,ms,h,_,_=>by
  simp only [jH,zaI,zbI] at h;obtain⟨rfl,rfl,rfl,rfl⟩:=h;exact⟨by simp,by simp,by simp,rfl,rfl⟩
 | x::rest,k,ds,ns,is,ms,h,hn,hn2=>by
  simp only [jH] at h;split at h
  ·cases h
  ·rename_i ds' ns' is' ms' hr
   split at h
   ·split at h
    ·rename_i n off hx
     split at h
     ·rename_i cs hT
      split at h
      ·rename_i l is1 hl
       simp only [zaI,zbI] at h;obtain⟨rfl,rfl,rfl,rfl⟩:=h;obtain⟨i1,i2,i4,i3⟩:=CY hM hρ hr hn fun m hm=>hn2 m (by
        rcases List.mem_append.1 hm with hm | hm
        ·exact List.mem_append_left _ (List.mem_cons_of_mem _ hm)
        ·exact List.mem_append_right _ (List.mem_append_right _ hm))
       obtain⟨_,b,hb,hv⟩:=bf (hρ x) hx;obtain⟨b',cells,t,k1,k2,k3,k4,_⟩:=hM.box hT;rw [hb] at k1;simp only [zaI] at k1;subst k1;have hlive:live T n:=by unfold live;rw [hT];trivial
       obtain⟨j1,j2⟩:=Ns hM (names:=names) (xs:=cells.toList) hl (by simpa using k3.symm) (fun i c x hc hx=>k4 i c x hc (by simpa using hx)) fun m hm=>hn2 m (List.mem_append_right _ (List.mem_append_left _ hm));refine⟨fun m hm=>?_,fun m hm=>?_,fun m hm=>?_,?_⟩
       ·rcases List.mem_cons.1 hm with rfl | hm
        ·exact⟨cs,hT⟩
        ·exact i1 m hm
       ·rcases List.mem_cons.1 hm with rfl | hm
        ·exact⟨b,hb⟩
        ·exact i2 m hm
       ·rcases List.mem_append.1 hm with hm | hm
        ·exact j1 m hm
        ·exact i4 m hm
       ·simp only [List.map_cons,iv,ci,gf,hb,Option.getD_some]
        exact⟨is1.map g.blk,is'.map g.blk,by simp,⟨.inr ⟨n,hn2 n (by simp),hlive,hb⟩,hv,cells,t,k2,j2⟩,i3⟩
      ·cases h
     ·cases h
    ·cases h
   ·split at h
    ·rename_i d hd
     simp only [zaI,zbI] at h;obtain⟨rfl,rfl,rfl,rfl⟩:=h;obtain⟨i1,i2,i4,i3⟩:=CY hM hρ hr (fun m hm=>hn m (List.mem_append_right _ hm)) hn2;have h0:=QM hM (names:=names) (hρ x) hd fun m hm=>hn m (List.mem_append_left _ hm);refine⟨i1,i2,i4,?_⟩;simp only [List.map_cons,iv,LV h0];exact⟨h0,i3⟩
    ·cases h
theorem GW:∀ {ns:List Nat},(∀ n ∈ ns,∃ b,g.blk n=some b)->gf g ns=ns.filterMap g.blk
 | [],_=>rfl
 | n::r,h=>by
  obtain⟨b,hb⟩:=h n (by simp);simp only [gf,List.filterMap_cons,hb,Option.getD_some];rw [GW fun m hm=>h m (List.mem_cons_of_mem _ hm)]
theorem Ug {ns is:List Nat}(h:∀ n ∈ ns,∃ b,g.blk n=some b):j3 (gf g ns) (is.map g.blk)=(ns++is).filterMap g.blk:=by
 unfold j3;rw [GW h,List.filterMap_append,List.filterMap_map];rfl
theorem NJ (hM:Mem w0 N0 g T w):∀ {ns:List Nat},ns.Nodup->(∀ n ∈ ns,live T n)->(ns.filterMap g.blk).Nodup
 | [],_,_=>List.nodup_nil
 | n::r,hd,hl=>by
  have ih:=NJ hM (List.nodup_cons.1 hd).2 fun m hm=>hl m (List.mem_cons_of_mem _ hm);simp only [List.filterMap_cons];split
  ·exact ih
  ·rename_i b hb
   refine List.nodup_cons.2 ⟨fun hx=>?_,ih⟩;obtain⟨m,hm,he⟩:=List.mem_filterMap.1 hx;have:=hM.inj n m b (hl n (by simp)) (hl m (List.mem_cons_of_mem _ hm)) hb he;subst this;exact (List.nodup_cons.1 hd).1 hm
theorem Pn (hM:Mem w0 N0 g T w){ns is:List Nat}(hd:(ns++is).Nodup)(hb:∀ n ∈ ns,∃ cs,an T n=some (.box cs))(hk:∀ n ∈ ns,∃ b,g.blk n=some b)(hi:∀ n ∈ is,∃ sz rows,an T n=some (.own sz rows)) :
  (j3 (gf g ns) (is.map g.blk)).Nodup:=by
 rw [Ug hk];refine NJ hM hd fun n hn=>?_;rcases List.mem_append.1 hn with hn | hn
 ·obtain⟨cs,hc⟩:=hb n hn
  unfold live;rw [hc];trivial
 ·obtain⟨sz,rows,hc⟩:=hi n hn
  unfold live;rw [hc];trivial
theorem cy:∀ (names:List Nat) {T:Tab},Mem w0 N0 g T w->Mem w0 N0 g (aputs T (aS T names)) w/\bg N0 g T w g (aputs T (aS T names)) w /\
  ∀ b,aB N0 g (aputs T (aS T names)) b->dq N0 g T names b
 | [],T,hM=>⟨hM,bg.refl,fun b h=>by
   rcases h with h | ⟨m,h1,h2⟩
   ·exact .inl h
   ·exact .inr ⟨m,by simp,h1,h2⟩⟩
 | n::rest,T,hM=>by
  have step:∀ {e:aL},(match e with | .box _ | .own _ _=>False | _=>True)->∀ b,dq N0 g (aput T n e) rest b->dq N0 g T (n::rest) b:=by
   intro e he b hb;rcases hb with h | ⟨m,h1,h2,h3⟩
   ·exact .inl h
   ·rw [fv] at h2
    by_cases hm:m=n
    ·subst hm
     simp only [if_true] at h2;cases e <;> simp_all
    ·simp only [hm,if_false] at h2
     exact .inr ⟨m,by simp [hm,h1],h2,h3⟩
  simp only [aS];split
  ·rename_i s rows hm
   obtain⟨h1,h2⟩:=hM.freeze hm;obtain⟨k1,k2,k3⟩:=cy rest h1;exact⟨k1,h2.trans k2,fun b hb=>step (e:=.imm rows) trivial b (k3 b hb)⟩
  ·rename_i cs hm
   obtain⟨h1,h2⟩:=hM.retire (n:=n) (e:=.dead) (eL hm) trivial (fun _=>trivial);obtain⟨k1,k2,k3⟩:=cy rest h1;exact⟨k1,h2.trans k2,fun b hb=>step (e:=.dead) trivial b (k3 b hb)⟩
  ·rename_i hx hy
   obtain⟨k1,k2,k3⟩:=cy rest hM;refine⟨k1,k2,fun b hb=>?_⟩;rcases k3 b hb with h | ⟨m,h1,h2,h3⟩
   ·exact .inl h
   ·refine .inr ⟨m,?_,h2,h3⟩
    simp only [List.mem_cons,not_or];refine⟨fun e=>?_,h1⟩;subst e;unfold live at h2;cases hq:an T m with
    | none=>rw [hq] at h2;exact h2
    | some q=>
     rw [hq] at h2;cases q with
     | box cs=>exact hy cs hq
     | own s rows=>exact hx s rows hq
     | imm rows=>exact h2
     | dead=>exact h2
structure Imp where
 i:Nat
 j:Nat
 c:RC
 x:Value
def RC.ent:RC->aL
 | .d _=>.dead
 | .own sz rows=>.own sz rows
 | .obj cs _=>.box (cs.map .d)
def RC.cell (n:Nat):RC->C
 | .d x=>.d x
 | .own _ _=>.ref n
 | .obj _ off=>.ptr n off
def RC.wid:RC->Nat
 | .own sz _=>sz
 | _=>0
def RC.new:RC->Bool
 | .d _=>false
 | _=>true
def Imp.name (dst:Nat)(q:Imp):Nat:=dst+640000*q.i+10000*q.j
def Imp.entry (dst:Nat)(q:Imp):Nat × aL:=(q.name dst,q.c.ent)
theorem jz.erel {N:Nat->Prop}{ob:Option Nat}{c:RC}{x:Value}{m:Nat}(hn:c.new=true)(h:jz w N ob c x)(h1:g.blk m=ob)(h2:g.sv m=x)(h3:g.st m=c.wid):zq w N g T m c.ent:=by
 cases c with
 | d y=>cases hn
 | own sz rows=>exact⟨by rw [h1,h2];exact h,h3⟩
 | obj cs off=>
  obtain⟨b,cells,t,e1,e2,e3,e4,e5⟩:=h;refine⟨b,cells,t,by rw [h1,e1],e3,by simpa using e4,fun i c x hc hx=>?_,fun i c hc=>?_⟩
  ·rw [List.getElem?_map] at hc
   cases hq:cs[i]? with
   | none=>rw [hq] at hc;cases hc
   | some d=>
    rw [hq] at hc;simp only [Option.map_some,zaI] at hc;subst hc;exact e5 i d x hq hx
  ·rw [List.getElem?_map] at hc
   cases hq:cs[i]? with
   | none=>rw [hq] at hc;cases hc
   | some d=>
    rw [hq] at hc;simp only [Option.map_some,zaI] at hc;subst hc;rfl
theorem jz.crel {N:Nat->Prop}{ob:Option Nat}{c:RC}{x:Value}{m:Nat}(hn:c.new=true)(h:jz w N ob c x)(h1:g.blk m=ob)(h2:g.sv m=x)(h3:(an T m).isSome):dr w N g T (c.cell m) x/\okC (c.cell m)=true:=by
 cases c with
 | d y=>cases hn
 | own sz rows=>
  refine⟨⟨h3,h2.symm,?_⟩,rfl⟩;rcases h with ⟨e,_,_⟩ | ⟨b,off,cap,cells,t,fz,_,e,_⟩
  ·exact⟨_,_,_,e⟩
  ·exact⟨_,_,_,e⟩
 | obj cs off=>
  obtain⟨b,cells,t,e1,e2,_⟩:=h;exact⟨⟨h3,b,by rw [h1,e1],e2⟩,rfl⟩
theorem ai6 (i:Nat):∀ (cs:List RC) (j:Nat) (xs:List Value),cs.length=xs.length ->
  ∃ L:List Imp,(bw (dst+640000*i) j cs).2=L.map (Imp.entry dst)/\(bw (dst+640000*i) j cs).1.length=cs.length /\
   ∀ (N:Nat->Prop) (ob:Nat->Nat->Option Nat),(∀ (k:Nat) (c:RC) (x:Value),cs[k]?=some c->xs[k]?=some x->jz w N (ob i (j+k)) c x) ->
   (∀ q ∈ L,q.c.new=true/\jz w N (ob q.i q.j) q.c q.x) /\
   ∀ (k:Nat) (c:C) (x:Value),(bw (dst+640000*i) j cs).1[k]?=some c->xs[k]?=some x->(∃ d,c=.d d/\aX w N d x)\/∃ q ∈ L,c=q.c.cell (q.name dst)/\q.x=x
 | [],j,xs,hl=>⟨[],rfl,rfl,fun N ob h=>⟨by simp,by simp [bw]⟩⟩
 | c::rest,j,[],hl=>by simp at hl
 | c::rest,j,x::xs,hl=>by
  obtain⟨L,h1,h3,h⟩:=ai6 i rest (j+1) xs (by simpa using hl);cases c with
  | d y=>
   refine⟨L,by simpa [bw] using h1,by simp [bw,h3],fun N ob hr=>?_⟩;obtain⟨h2,h4⟩:=h N ob (fun k c' x' hc hx=>by have:=hr (k+1) c' x' (by simpa using hc) (by simpa using hx);rwa [show j+(k+1)=j+1+k by omega] at this);refine⟨h2,fun k c' x' hc hx=>?_⟩;cases k with
   | zero=>
    have h0:=hr 0 (.d y) x rfl rfl;simp [bw] at hc hx;subst hc;subst hx;exact .inl ⟨y,rfl,h0⟩
   | succ k=>exact h4 k c' x' (by simpa [bw] using hc) (by simpa using hx)
  | own sz rows=>
   refine⟨⟨i,j,.own sz rows,x⟩::L,by simp [bw,Imp.entry,Imp.name,RC.ent,h1],by simp [bw,h3],fun N ob hr=>?_⟩;obtain⟨h2,h4⟩:=h N ob (fun k c' x' hc hx=>by have:=hr (k+1) c' x' (by simpa using hc) (by simpa using hx);rwa [show j+(k+1)=j+1+k by omega] at this);refine⟨fun q hq=>?_,fun k c' x' hc hx=>?_⟩
   ·rcases List.mem_cons.1 hq with rfl | hq
    ·exact⟨rfl,hr 0 (.own sz rows) x rfl rfl⟩
    ·exact h2 q hq
   ·cases k with
    | zero=>
     simp [bw] at hc hx;subst hc;subst hx;exact .inr ⟨_,List.mem_cons_self,rfl,rfl⟩
    | succ k=>
     rcases h4 k c' x' (by simpa [bw] using hc) (by simpa using hx) with h | ⟨q,hq,e⟩
     ·exact .inl h
     ·exact .inr ⟨q,List.mem_cons_of_mem _ hq,e⟩
  | obj cs off=>
   refine⟨⟨i,j,.obj cs off,x⟩::L,by simp [bw,Imp.entry,Imp.name,RC.ent,h1],by simp [bw,h3],fun N ob hr=>?_⟩;obtain⟨h2,h4⟩:=h N ob (fun k c' x' hc hx=>by have:=hr (k+1) c' x' (by simpa using hc) (by simpa using hx);rwa [show j+(k+1)=j+1+k by omega] at this);refine⟨fun q hq=>?_,fun k c' x' hc hx=>?_⟩
   ·rcases List.mem_cons.1 hq with rfl | hq
    ·exact⟨rfl,hr 0 (.obj cs off) x rfl rfl⟩
    ·exact h2 q hq
   ·cases k with
    | zero=>
     simp [bw] at hc hx;subst hc;subst hx;exact .inr ⟨_,List.mem_cons_self,rfl,rfl⟩
    | succ k=>
     rcases h4 k c' x' (by simpa [bw] using hc) (by simpa using hx) with h | ⟨q,hq,e⟩
     ·exact .inl h
     ·exact .inr ⟨q,List.mem_cons_of_mem _ hq,e⟩
def N4 (w:World)(N:Nat->Prop)(dst:Nat)(L:List Imp)(p:Bool × List C)(v:Value):Prop:=
 ∃ xs:List Value,(if p.1 then v=.agg xs.toArray else xs=[v])/\p.2.length=xs.length /\
  ∀ (k:Nat) (c:C) (x:Value),p.2[k]?=some c->xs[k]?=some x->(∃ d,c=.d d/\aX w N d x)\/∃ q ∈ L,c=q.c.cell (q.name dst)/\q.x=x
theorem N4.more {N:Nat->Prop}{L L':List Imp}{p:Bool × List C}{v:Value}(h:N4 w N dst L p v)(hL:∀ q ∈ L,q ∈ L'):N4 w N dst L' p v:=by
 obtain⟨xs,h1,h2,h4⟩:=h;refine⟨xs,h1,h2,fun k c x hc hx=>?_⟩;rcases h4 k c x hc hx with h | ⟨q,hq,e⟩
 ·exact .inl h
 ·exact .inr ⟨q,hL q hq,e⟩
theorem O3 {N1:Nat->Prop}{ob1:Nat->Nat->Option Nat}:∀ (res:List RV) (i:Nat) (vs:List Value),res.length=vs.length ->
  (∀ (k:Nat) (x:RV) (u:Value),res[k]?=some x->vs[k]?=some u->ri w N1 (ob1 (i+k)) x u) ->
  ∃ L:List Imp,(bc dst i res).2=L.map (Imp.entry dst)/\(bc dst i res).1.length=res.length /\
   ∀ (N:Nat->Prop) (ob:Nat->Nat->Option Nat),(∀ (k:Nat) (x:RV) (u:Value),res[k]?=some x->vs[k]?=some u->ri w N (ob (i+k)) x u) ->
   (∀ q ∈ L,q.c.new=true/\jz w N (ob q.i q.j) q.c q.x) /\
   ∀ (k:Nat) (p:Bool × List C) (u:Value),(bc dst i res).1[k]?=some p->vs[k]?=some u->N4 w N dst L p u
 | [],i,vs,hl,_=>⟨[],rfl,rfl,fun N ob h=>⟨by simp,by simp [bc]⟩⟩
 | x::rest,i,[],hl,_=>by simp at hl
 | (b,cs)::rest,i,u::vs,hl,hsh=>by
  obtain⟨L,h1,h3,h⟩:=O3 (ob1:=ob1) rest (i+1) vs (by simpa using hl) (fun k c' x' hc hx=>by have:=hsh (k+1) c' x' (by simpa using hc) (by simpa using hx);rwa [show i+(k+1)=i+1+k by omega] at this);have hx:∃ xs:List Value,(if b then u=.agg xs.toArray else xs=[u])/\cs.length=xs.length /\
    ∀ (N:Nat->Prop) (ob:Nat->Option Nat),ri w N ob (b,cs) u->∀ (k:Nat) (c:RC) (x:Value),cs[k]?=some c->xs[k]?=some x->jz w N (ob (0+k)) c x:=by
   have h0:=hsh 0 (b,cs) u rfl rfl;cases b with
   | true=>
    obtain⟨xs,rfl,e2,_⟩:=h0;refine⟨xs.toList,by simp,by simpa using e2,fun N ob hr k c x hc hx=>?_⟩;obtain⟨xs',e1,_,e3⟩:=hr;simp only [Value.agg.injEq] at e1;subst e1;rw [Nat.zero_add];exact e3 k c x hc (by simpa using hx)
   | false=>
    obtain⟨c,rfl,_⟩:=h0;refine⟨[u],by simp,rfl,fun N ob hr k c' x hc hx=>?_⟩;obtain⟨c'',e1,e2⟩:=hr;simp only [List.cons.injEq,and_true] at e1;subst e1;cases k with
    | zero=>simp at hc hx;subst hc;subst hx;exact e2
    | succ k=>simp at hc
  obtain⟨xs,e1,e2,e3⟩:=hx;obtain⟨L',k1,k3,k⟩:=ai6 (w:=w) (dst:=dst) i cs 0 xs e2;refine⟨L'++L,by simp [bc,k1,h1],by simp [bc,h3],fun N ob hr=>?_⟩;obtain⟨m1,m2⟩:=h N ob (fun k c' x' hc hx=>by have:=hr (k+1) c' x' (by simpa using hc) (by simpa using hx);rwa [show i+(k+1)=i+1+k by omega] at this);obtain⟨n1,n2⟩:=k N ob (e3 N (ob i) (hr 0 (b,cs) u rfl rfl));refine⟨fun q hq=>?_,fun k' p u' hp hu=>?_⟩
  ·rcases List.mem_append.1 hq with hq | hq
   ·exact n1 q hq
   ·exact m1 q hq
  ·cases k' with
   | zero=>
    simp [bc] at hp hu;subst hp;subst hu;exact (N4.more ⟨xs,e1,by rw [k3,e2],n2⟩ (fun q hq=>List.mem_append_left _ hq))
   | succ k'=>exact (m2 k' p u' (by simpa [bc] using hp) (by simpa using hu)).more (fun q hq=>List.mem_append_right _ hq)
theorem sw {n:Nat}:∀ {es:List (Nat × aL)},pz n es=true->an es n=none
 | [],_=>rfl
 | p::r,h=>by
  simp only [pz] at h;split at h
  ·cases h
  ·rename_i hp
   simp only [an,hp,if_false];exact sw h
theorem rN:∀ {es:List (Nat × aL)} {T:Tab},bS T es=true->∀ m,an (aputs T es) m=(match an es m with | some e=>some e | none=>an T m)/\((an es m).isSome->an T m=none)
 | [],T,_,m=>⟨rfl,by simp [an]⟩
 | (k,e)::r,T,h,m=>by
  simp only [bS,Bool.and_eq_true] at h;obtain⟨⟨h1,h2⟩,h3⟩:=h;have hk:=cU h1;have hfr:bS (aput T k e) r=true:=by
   have:∀ {r:List (Nat × aL)},pz k r=true->bS T r=true->bS (aput T k e) r=true:=by
    intro r
    induction r with
    | nil=>intro _ _;rfl
    | cons p r ih=>
     intro a b;simp only [pz] at a;split at a
     ·cases a
     ·rename_i hp
      simp only [bS,Bool.and_eq_true] at b ⊢;exact⟨⟨by rw [bJ _ _ hp];exact b.1.1,b.1.2⟩,ih a b.2⟩
   exact this h2 h3
  obtain⟨i1,i2⟩:=rN hfr m;simp only [aputs,an];by_cases hm:k=m
  ·subst hm
   simp only [if_true];rw [i1,sw h2];exact⟨bx _ _ _,fun _=>hk⟩
  ·simp only [hm,if_false]
   rw [i1,bJ _ _ (Ne.symm hm)];refine⟨rfl,fun hs=>?_⟩;have:=i2 hs
   rwa [bJ _ _ (Ne.symm hm)] at this
theorem gB {L:List Imp}(q:Imp)(hq:q ∈ L):(an (L.map (Imp.entry dst)) (q.name dst)).isSome:=by
 induction L with
 | nil=>simp at hq
 | cons p r ih=>
  simp only [List.map_cons,Imp.entry,an];split
  ·rfl
  ·rcases List.mem_cons.1 hq with rfl | hq
   ·simp_all
   ·exact ih hq
def eg (dst:Nat)(m:Nat):List Imp->Option Imp
 | []=>none
 | q::r=>if q.name dst=m then some q else eg dst m r
theorem pl {m:Nat}:∀ {L:List Imp},an (L.map (Imp.entry dst)) m=(eg dst m L).map fun q=>q.c.ent
 | []=>rfl
 | q::r=>by
  simp only [List.map_cons,Imp.entry,an,eg];split
  ·rfl
  ·exact pl
theorem il {m:Nat}{q:Imp}:∀ {L:List Imp},eg dst m L=some q->q ∈ L/\q.name dst=m
 | [],h=>by simp [eg] at h
 | p::r,h=>by
  simp only [eg] at h;split at h
  ·simp only [zaI] at h;subst h;exact⟨List.mem_cons_self,by assumption⟩
  ·have:=il h;exact⟨List.mem_cons_of_mem _ this.1,this.2⟩
theorem jE {q:Imp}:∀ {L:List Imp} {T:Tab},bS T (L.map (Imp.entry dst))=true->q ∈ L->eg dst (q.name dst) L=some q
 | [],_,_,h=>by simp at h
 | p::r,T,hf,h=>by
  simp only [List.map_cons,bS,Bool.and_eq_true] at hf;simp only [eg];rcases List.mem_cons.1 h with rfl | h
  ·simp
  ·have hne:p.name dst ≠ q.name dst:=fun e=>by
    have h1:=sw hf.1.2;have h2:=gB (dst:=dst) q h;simp only [Imp.entry] at h1;rw [e] at h1;rw [h1] at h2;cases h2
   rw [if_neg hne];exact jE hf.2 h
theorem aX.flat {N N':Nat->Prop}{d:DC}{v:Value}(h:aX w N d v)(hf:im d=false):aX w N' d v:=by
 cases h with
 | v h=>exact .v h
 | nan h=>exact .nan h
 | fn hl hd=>
  rename_i f caps cs;cases caps with
  | nil=>exact .fn hl (by simp)
  | cons=>simp [im] at hf
 | nil=>simp [im] at hf
 | sl=>simp [im] at hf
 | cref=>simp [im] at hf
 | ifc=>simp [im] at hf
theorem cv.less {N N':Nat->Prop}{sz:Nat}{rows:List (List DC)}{v:Value}{ob:Option Nat}(hd:∀ d v,(∃ r ∈ rows,d ∈ r)->aX w N d v->aX w N' d v)(h:cv w N sz rows v ob):cv w N' sz rows v ob:=by
 rcases h with h | ⟨b,off,cap,cells,t,fz,h1,h2,h3,h4,h5,h6,h7,h8,h9,h10⟩
 ·exact .inl h
 ·exact .inr ⟨b,off,cap,cells,t,fz,h1,h2,h3,h4,h5,h6,h7,h8,h9,fun i j r d hr hdd=>by
   obtain⟨c,hc,hx⟩:=h10 i j r d hr hdd;exact⟨c,hc,hd d c ⟨r,List.mem_of_getElem? hr,List.mem_of_getElem? hdd⟩ hx⟩⟩
theorem akA {rows:List (List DC)}(h:jR rows=true){d:DC}(hd:∃ r ∈ rows,d ∈ r):im d=false:=by
 obtain⟨r,hr,hd⟩:=hd;have:=List.all_eq_true.1 (List.all_eq_true.1 h r hr) d hd;simpa using this
theorem jz.less {N N':Nat->Prop}{ob:Option Nat}{c:RC}{v:Value}(hn:(∀ b,N' b->N b)\/dz c=false)(h:jz w N ob c v):jz w N' ob c v:=by
 cases c with
 | obj cs off=>
  obtain⟨b,cells,t,e1,e2,e3,e4,e5⟩:=h;refine⟨b,cells,t,e1,e2,e3,e4,fun j d x hd hx=>?_⟩;rcases hn with hn | hn
  ·exact (e5 j d x hd hx).less hn
  ·exact (e5 j d x hd hx).flat (by simpa using List.any_eq_false.1 hn d (List.mem_of_getElem? hd))
 | d x=>
  rcases hn with hn | hn
  ·exact aX.less hn h
  ·exact aX.flat h hn
 | own sz rows=>
  refine cv.less (fun d v hd hx=>?_) h;rcases hn with hn | hn
  ·exact hx.less hn
  ·simp only [dz,Bool.not_eq_eq_eq_not,Bool.not_false] at hn
   exact hx.flat (akA hn hd)
theorem ri.less {N N':Nat->Prop}{ob:Nat->Option Nat}{x:RV}{v:Value}(hn:(∀ b,N' b->N b)\/x.2.any dz=false)(h:ri w N ob x v):ri w N' ob x v:=by
 obtain⟨b,cs⟩:=x;have hc:∀ c ∈ cs,(∀ b,N' b->N b)\/dz c=false:=fun c hc=>by
  rcases hn with hn | hn
  ·exact .inl hn
  ·exact .inr (by simpa using List.any_eq_false.1 hn c hc)
 cases b with
 | true=>
  obtain⟨xs,h1,h2,h3⟩:=h;exact⟨xs,h1,h2,fun j c x hcj hx=>(h3 j c x hcj hx).less (hc c (List.mem_of_getElem? hcj))⟩
 | false=>
  obtain⟨c,h1,h2⟩:=h;subst h1;exact⟨c,rfl,h2.less (hc c (by simp))⟩
theorem Ny {N:Nat->Prop}{l:List (Bool × List C)}{vs:Array Value}(hl:l.length=vs.size)(h:∀ (i:Nat) (p:Bool × List C) (x:Value),l[i]?=some p->vs[i]?=some x->gq w N g T p.1 p.2 x) :
  aT w N g T (zy l) (if h:vs.size=1 then vs[0] else .tuple vs):=by
 unfold zy;split
 ·rename_i b cs
  have h1:vs.size=1:=by simpa using hl.symm
  rw [dif_pos h1];exact h 0 (b,cs) _ rfl (by simp [h1])
 ·rename_i hne
  have h1:¬ vs.size=1:=fun h1=>by
   cases l with
   | nil=>simp at hl;omega
   | cons p rest=>
    cases rest with
    | nil=>exact hne p.1 p.2 rfl
    | cons=>simp at hl;omega
  rw [dif_neg h1];exact⟨vs,rfl,hl,h⟩
theorem Pe (hM:Mem w0 N0 g T w){names:List Nat}{res:List RV}{v:Value}(hext:Below w.heap.size w w')(hres:acw w (dq N0 g T names) res v w')
  (hc:cH dst T names res=some (y,es)):Res w0 N0 g T w y es v w':=by
 obtain⟨vs,ob,hv,hlen,hrel,hrng,hinj⟩:=hres;have hfz:∃ frz,(cH dst T names res=if bS (aputs T frz) (bc dst 0 res).2 then some (zy (bc dst 0 res).1,frz++(bc dst 0 res).2) else none)/\Mem w0 N0 g (aputs T frz) w/\bg N0 g T w g (aputs T frz) w /\
   ((∀ b,aB N0 g (aputs T frz) b->dq N0 g T names b)\/res.any (fun r=>r.2.any dz)=false):=by
  cases hne:names.isEmpty with
  | true=>
   have:names=[]:=List.isEmpty_iff.1 hne;subst this;obtain⟨k1,k2,k3⟩:=cy [] hM;exact⟨[],by simp [cH],hM,bg.refl,.inl k3⟩
  | false=>
   cases hvw:res.any (fun r=>r.2.any dz) with
   | true=>
    obtain⟨k1,k2,k3⟩:=cy names hM;exact⟨aS T names,by simp [cH,hne,hvw],k1,k2,.inl k3⟩
   | false=>exact⟨[],by simp [cH,hne,hvw],hM,bg.refl,.inr rfl⟩
 obtain⟨frz,heq,hM1,hK1,hav⟩:=hfz;rw [heq] at hc;split at hc
 ·rename_i hfr
  simp only [zaI,zbI] at hc;obtain⟨rfl,rfl⟩:=hc;refine Res.trans hK1 ?_;obtain⟨L,h1,h3,h4⟩:=O3 (dst:=dst) (ob1:=ob) res 0 vs.toList (by simpa using hlen) (fun k x u hx hu=>by rw [Nat.zero_add];exact hrel k x u hx (by simpa using hu));rw [h1] at hfr;rw [h1];have hget:=rN hfr;have hview:∀ (x:RV),x ∈ res->res.any (fun r=>r.2.any dz)=false->x.2.any dz=false:=fun x hx h=>by simpa using List.any_eq_false.1 h x hx
  let g':Gh:={
           blk:=fun m=>if (an (aputs T frz) m).isSome then g.blk m else (eg dst m L).bind fun q=>ob q.i q.j
           sv:=fun m=>if (an (aputs T frz) m).isSome then g.sv m else ((eg dst m L).map Imp.x).getD undef
           st:=fun m=>if (an (aputs T frz) m).isSome then g.st m else ((eg dst m L).map fun q=>q.c.wid).getD 0 }
  have hnewq:∀ q ∈ L,an (aputs T frz) (q.name dst)=none:=fun q hq=>(hget (q.name dst)).2 (gB q hq);have hblk:∀ q ∈ L,g'.blk (q.name dst)=ob q.i q.j/\g'.sv (q.name dst)=q.x/\g'.st (q.name dst)=q.c.wid:=fun q hq=>by
   simp [g',hnewq q hq,jE hfr hq]
  have hfind:∀ m,an (aputs T frz) m=none->(an (aputs (aputs T frz) (L.map (Imp.entry dst))) m).isSome->∃ q ∈ L,q.name dst=m/\an (aputs (aputs T frz) (L.map (Imp.entry dst))) m=some q.c.ent:=fun m hm hs=>by
   have:=(hget m).1;rw [pl] at this;cases hq:eg dst m L with
   | none=>rw [hq] at this;simp only [Option.map_none] at this;rw [this,hm] at hs;cases hs
   | some q=>rw [hq] at this;simp only [Option.map_some] at this;exact⟨q,(il hq).1,(il hq).2,this⟩
  -- what is avoided behind the call
  have hav2:∀ b,aB N0 g' (aputs (aputs T frz) (L.map (Imp.entry dst))) b->aB N0 g (aputs T frz) b\/∃ i j,ob i j=some b:=by
   rintro b (hb | ⟨m,hl,hbm⟩)
   ·exact .inl (.inl hb)
   ·cases hm:an (aputs T frz) m with
    | none=>
     obtain⟨q,hq,rfl,_⟩:=hfind m hm (bV hl);rw [(hblk q hq).1] at hbm;exact .inr ⟨_,_,hbm⟩
    | some e=>
     refine .inl (.inr ⟨m,?_,?_⟩)
     ·unfold live at hl ⊢
      rw [(hget m).1] at hl;cases hq:an (L.map (Imp.entry dst)) m with
      | none=>rw [hq] at hl;exact hl
      | some e'=>have:=(hget m).2 (by rw [hq];rfl);rw [hm] at this;cases this
     ·simpa [g',hm] using hbm
  have hrel2:∀ (k:Nat) (x:RV) (u:Value),res[k]?=some x->vs[k]?=some u->ri w' (aB N0 g' (aputs (aputs T frz) (L.map (Imp.entry dst)))) (ob k) x u:=fun k x u hx hu=>by
   refine (hrel k x u hx hu).less ?_;rcases hav with hav | hav
   ·refine .inl fun b hb=>?_
    rcases hav2 b hb with h | h
    ·exact .inl (hav b h)
    ·exact .inr h
   ·exact .inr (hview x (List.mem_of_getElem? hx) hav)
  obtain⟨hSO,hIV⟩:=h4 _ ob (fun k x u hx hu=>by rw [Nat.zero_add];exact hrel2 k x u hx (by simpa using hu));obtain⟨q1,q2⟩:=hM1.creates (g':=g') (T':=aputs (aputs T frz) (L.map (Imp.entry dst))) hext (fun m hm=>by
    rw [(hget m).1];cases hq:an (L.map (Imp.entry dst)) m with
    | none=>rfl
    | some e=>have:=(hget m).2 (by rw [hq];rfl);rw [this] at hm;cases hm)
   (fun m hm=>by simp [g',hm])
   (fun m b hm hl hb=>by
    obtain⟨q,hq,rfl,_⟩:=hfind m hm (bV hl);rw [(hblk q hq).1] at hb;exact hrng _ _ b hb)
   (fun m k b hm hk hlm hlk hbm hbk=>by
    obtain⟨q,hq,rfl,_⟩:=hfind m hm (bV hlm);obtain⟨p,hp,rfl,_⟩:=hfind k hk (bV hlk);rw [(hblk q hq).1] at hbm;rw [(hblk p hp).1] at hbk;obtain⟨e1,e2⟩:=hinj _ _ _ _ b hbm hbk;simp [Imp.name,e1,e2])
   (fun hK m e hm he=>by
    obtain⟨q,hq,rfl,hq'⟩:=hfind m hm (eL he);rw [he] at hq';simp only [zaI] at hq';subst hq';obtain⟨b1,b2,b3⟩:=hblk q hq;exact (hSO q hq).2.erel (hSO q hq).1 b1 b2 b3)
  refine⟨g',q1,q2,?_⟩;rw [hv];refine Ny (by rw [h3,hlen]) (fun i p x hp hx=>?_);obtain⟨xs,e1,e2,e3⟩:=hIV i p x hp (by simpa using hx);have hcell:∀ (k:Nat) (c:C) (u:Value),p.2[k]?=some c->xs[k]?=some u->dr w' (aB N0 g' (aputs (aputs T frz) (L.map (Imp.entry dst)))) g' (aputs (aputs T frz) (L.map (Imp.entry dst))) c u:=fun k c u hc hu=>by
   rcases e3 k c u hc hu with ⟨d,rfl,hd⟩ | ⟨q,hq,rfl,hqx⟩
   ·exact hd
   ·obtain⟨b1,b2,b3⟩:=hblk q hq
    subst hqx;refine ((hSO q hq).2.crel (hSO q hq).1 b1 b2 ?_).1;rw [(hget _).1];have:=gB (dst:=dst) q hq;cases hz:an (L.map (Imp.entry dst)) (q.name dst) with
    | none=>rw [hz] at this;cases this
    | some e=>rfl
  obtain⟨b,cs⟩:=p;cases b with
  | true=>
   simp only [if_true] at e1;exact⟨xs.toArray,e1,by simpa using e2,fun k c u hc hu=>hcell k c u hc (by simpa using hu)⟩
  | false=>
   simp only [Bool.false_eq_true,if_false] at e1;subst e1;obtain⟨c,rfl⟩:∃ c,cs=[c]:=by
    cases cs with
    | nil=>simp at e2
    | cons c rest=>simp at e2;subst e2;exact⟨c,rfl⟩
   exact⟨c,rfl,hcell 0 c x rfl rfl⟩
 ·cases hc
theorem Mem.createsM (hM:Mem w0 N0 g T w){ns is:List Nat}(hext:rU ((ns++is).filterMap g.blk) w w')(hns:∀ n ∈ ns,live T n)(hnb:∀ n ∈ ns,∃ b,g.blk n=some b)(his:∀ n ∈ is,live T n)
  (hT:∀ m,(an T m).isSome->m ∉ ns->m ∉ is->an T' m=an T m) (hT2:∀ n ∈ ns,live T' n) (hT3:∀ n ∈ is,an T' n=some .dead)
  (hg:∀ m,(an T m).isSome->g'.blk m=g.blk m/\g'.sv m=g.sv m/\g'.st m=g.st m)
  (hnew:∀ m b,an T m=none->live T' m->g'.blk m=some b->(w.heap.size<=b\/∃ n ∈ is,g.blk n=some b)/\b < w'.heap.size)
  (hinj:∀ m k b,an T m=none->an T k=none->live T' m->live T' k->g'.blk m=some b->g'.blk k=some b->m=k)
  (hE:bg N0 g T w g' T' w'->∀ m e,(an T m=none\/m ∈ ns)->an T' m=some e->zq w' (aB N0 g' T') g' T' m e) :
  Mem w0 N0 g' T' w'/\bg N0 g T w g' T' w':=by
 have hdead:∀ n ∈ is,¬ live T' n:=fun n hn hl=>by unfold live at hl;rw [hT3 n hn] at hl;exact hl
 have hold:∀ m,(an T m).isSome->live T' m->live T m:=fun m hm hl=>by
  by_cases hin:m ∈ ns
  ·exact hns m hin
  ·by_cases hii:m ∈ is
   ·exact his m hii
   ·unfold live at hl ⊢;rw [hT m hm hin hii] at hl;exact hl
 have hcase:∀ m,an T m=none\/(an T m).isSome:=fun m=>by cases an T m <;> simp
 have hlv:∀ n ∈ ns++is,live T n:=fun n hn=>(List.mem_append.1 hn).elim (hns n) (his n);have hbl:∀ b,b ∈ (ns++is).filterMap g.blk->∃ n ∈ ns++is,g.blk n=some b:=fun b hb=>by
  obtain⟨n,h1,h2⟩:=List.mem_filterMap.1 hb;exact⟨n,h1,h2⟩
 have hnot:∀ m b,m ∉ ns->m ∉ is->live T m->g.blk m=some b->b ∉ (ns++is).filterMap g.blk:=fun m b hm hi hl hb hx=>by
  obtain⟨n,h1,h2⟩:=hbl b hx;have:=hM.inj n m b (hlv n h1) hl h2 hb;subst this;exact (List.mem_append.1 h1).elim hm hi
 have hK:bg N0 g T w g' T' w':=by
  refine bg.of hext.size (fun b hb ha=>hext.block b hb fun hx=>?_) (fun b hb ha=>?_) (fun m hm=>?_) hg
  ·obtain⟨n,h1,h2⟩:=hbl b hx
   exact ha (.inr ⟨n,hlv n h1,h2⟩)
  ·rcases ha with ha | ⟨m,hl,hbm⟩
   ·exact .inl ha
   ·rcases hcase m with hm | hm
    ·rcases (hnew m b hm hl hbm).1 with h | ⟨n,h1,h2⟩
     ·omega
     ·exact .inr ⟨n,his n h1,h2⟩
    ·exact .inr ⟨m,hold m hm hl,by rw [<- (hg m hm).1];exact hbm⟩
  ·by_cases hin:m ∈ ns
   ·exact bV (hT2 m hin)
   ·by_cases hii:m ∈ is
    ·rw [hT3 m hii];rfl
    ·rw [hT m hm hin hii];exact hm
 have hover:yb w0 w w':=⟨hext.os,hext.tape,hext.output,hext.size,fun k hk ho=>hext.block k (Nat.lt_of_lt_of_le hk hM.below.size) fun hx=>by
  obtain⟨n,h1,h2⟩:=hbl k hx;exact (hM.rng n k (hlv n h1) h2).1.elim (fun h=>by omega) ho⟩
 have hmix:∀ m k b,an T m=none->(an T k).isSome->live T' m->live T' k->g'.blk m=some b->g'.blk k=some b->False:=fun m k b h1 h2 hm hk bm bk=>by
  have hk':=hold k h2 hk;rw [(hg k h2).1] at bk;have hr:=(hM.rng k b hk' bk).2;rcases (hnew m b h1 hm bm).1 with h | ⟨n,n1,n2⟩
  ·omega
  ·have:=hM.inj n k b (his n n1) hk' n2 bk
   subst this;exact hdead n n1 hk
 refine⟨hM.upd hover hK (fun m e' he'=>?_) (fun m k b hm hk bm bk=>?_) (fun m b hm bm=>?_),hK⟩
 ·rcases hcase m with h | h
  ·exact .inr (hE hK m e' (.inl h) he')
  ·by_cases hin:m ∈ ns
   ·exact .inr (hE hK m e' (.inr hin) he')
   ·by_cases hii:m ∈ is
    ·rw [hT3 m hii] at he'
     simp only [zaI] at he';subst he';exact .inr trivial
    ·rw [hT m h hin hii] at he'
     exact .inl ⟨he',fun b hl hb=>hext.block b (hM.rng m b hl hb).2 (hnot m b hin hii hl hb)⟩
 ·rcases hcase m with h1 | h1 <;> rcases hcase k with h2 | h2
  ·exact hinj m k b h1 h2 hm hk bm bk
  ·exact (hmix m k b h1 h2 hm hk bm bk).elim
  ·exact (hmix k m b h2 h1 hk hm bk bm).elim
  ·rw [(hg m h1).1] at bm
   rw [(hg k h2).1] at bk;exact hM.inj m k b (hold m h1 hm) (hold k h2 hk) bm bk
 ·rcases hcase m with h1 | h1
  ·have h:=hnew m b h1 hm bm
   refine⟨?_,h.2⟩;rcases h.1 with h' | ⟨n,n1,n2⟩
   ·exact .inl (Nat.le_trans hM.below.size h')
   ·exact (hM.rng n b (his n n1) n2).1
  ·rw [(hg m h1).1] at bm
   have:=hM.rng m b (hold m h1 hm) bm;exact⟨this.1,Nat.lt_of_lt_of_le this.2 hext.size⟩
theorem xt:∀ {is:List Nat} {T:Tab} {m:Nat},(m ∈ is->an (aputs T (IA is)) m=some .dead)/\(m ∉ is->an (aputs T (IA is)) m=an T m)
 | [],T,m=>⟨fun h=>by simp at h,fun _=>rfl⟩
 | n::r,T,m=>by
  obtain⟨h1,h2⟩:=xt (is:=r) (T:=aput T n .dead) (m:=m);refine⟨fun h=>?_,fun h=>?_⟩
  ·show an (aputs (aput T n .dead) (IA r)) m=_
   by_cases hr:m ∈ r
   ·exact h1 hr
   ·rw [h2 hr]
    obtain rfl:=(List.mem_cons.1 h).resolve_right hr;exact bx _ _ _
  ·simp only [List.mem_cons,not_or] at h
   show an (aputs (aput T n .dead) (IA r)) m=_;rw [h2 h.2,bJ _ _ h.1]
theorem eX:∀ (names:List Nat) {T:Tab} {n:Nat},n ∉ names->an (aputs T (aS T names)) n=an T n
 | [],_,_,_=>rfl
 | m::r,T,n,h=>by
  have h1:n ≠ m:=fun e=>h (by simp [e]);have h2:n ∉ r:=fun e=>h (by simp [e]);simp only [aS];split
  ·simp only [aputs];rw [eX r h2,bJ _ _ h1]
  ·simp only [aputs];rw [eX r h2,bJ _ _ h1]
  ·exact eX r h2
theorem CD:∀ {ns:List Nat} {l:List (Bool × List C)} {bs:List (Nat × aL)},y7 ns l=some bs ->
  l.length=ns.length/\(ns.Nodup->∀ {T:Tab},(∀ m,m ∉ ns->an (aputs T bs) m=an T m)/\∀ (k n:Nat),ns[k]?=some n->∃ cs,l[k]?=some (true,cs)/\an (aputs T bs) n=some (.box cs))
 | [],[],bs,h=>by
  simp only [y7,zaI] at h;subst h;exact⟨rfl,fun _ T=>⟨fun _ _=>rfl,fun k n h=>by simp at h⟩⟩
 | [],_::_,bs,h=>by simp [y7] at h
 | n::ns,[],bs,h=>by simp [y7] at h
 | n::ns,(false,cs)::r,bs,h=>by simp [y7] at h
 | n::ns,(true,cs)::r,bs,h=>by
  simp only [y7] at h;split at h
  ·rename_i es he
   simp only [zaI] at h;subst h;obtain⟨h1,h2⟩:=CD he;refine⟨by simp [h1],fun hnd T=>?_⟩;obtain⟨h3,h4⟩:=h2 (List.nodup_cons.1 hnd).2 (T:=aput T n (.box cs));refine⟨fun m hm=>?_,fun k m hk=>?_⟩
   ·simp only [List.mem_cons,not_or] at hm
    simp only [aputs];rw [h3 m hm.2,bJ _ _ hm.1]
   ·cases k with
    | zero=>
     simp only [List.getElem?_cons_zero,zaI] at hk;subst hk;refine⟨cs,rfl,?_⟩;simp only [aputs];rw [h3 n (List.nodup_cons.1 hnd).1,bx]
    | succ k=>
     obtain⟨cs',e1,e2⟩:=h4 k m (by simpa using hk);exact⟨cs',by simpa using e1,e2⟩
  ·cases h
theorem Lo:∀ {bs:List Nat} {us:List Value} {w:World},kE w bs us->us.length=bs.length/\∀ (k b:Nat) (u:Value),bs[k]?=some b->us[k]?=some u->∃ cells t,w.heap[b]?=some (.cells cells t (0,0))/\u=.agg cells
 | [],us,w,h=>by obtain rfl:us=[]:=h;exact⟨rfl,fun k b u hb=>by simp at hb⟩
 | b::bs,[],w,h=>h.elim
 | b::bs,u::us,w,h=>by
  obtain⟨h1,h2⟩:=Lo h.2;refine⟨by simp [h1],fun k b' u' hb hu=>?_⟩;cases k with
  | zero=>simp at hb hu;subst hb;subst hu;exact h.1
  | succ k=>exact h2 k b' u' (by simpa using hb) (by simpa using hu)
theorem Ez:∀ {ns:List Nat},(gf g ns).length=ns.length/\∀ (k n b:Nat),ns[k]?=some n->g.blk n=some b->(gf g ns)[k]?=some b
 | []=>⟨rfl,fun k n b h=>by simp at h⟩
 | n::ns=>by
  obtain⟨h1,h2⟩:=Ez (ns:=ns);refine⟨by simp [gf,h1],fun k m b hk hb=>?_⟩;cases k with
  | zero=>simp at hk;subst hk;simp [gf,hb]
  | succ k=>simp only [gf,List.getElem?_cons_succ];exact h2 k m b (by simpa using hk) hb
theorem NM (hM:Mem w0 N0 g T w){names ns is:List Nat}{res:List RV}{v:Value}{us:List Value}(hext:rU (j3 (gf g ns) (is.map g.blk)) w w')(houts:kE w' (gf g ns) us)(hres:AL w (dq N0 g T names) (is.map g.blk) res us v w')
  (hbox:∀ n ∈ ns,∃ cs,an T n=some (.box cs)) (hblkn:∀ n ∈ ns,∃ b,g.blk n=some b) (hown:∀ n ∈ is,∃ sz rows,an T n=some (.own sz rows)) (hdis:∀ n ∈ ns++is,n ∉ names) (hnd':(ns++is).Nodup)
  (hc:ek dst T names ns is res=some (y,es)):Res w0 N0 g T w y es v w':=by
 obtain⟨vs,ob,hv,hlen,hrel,hrng,hinj⟩:=hres;have hnd:ns.Nodup:=(List.nodup_append.1 hnd').1;have hni:∀ n ∈ ns,n ∉ is:=fun n h1 h2=>(List.nodup_append.1 hnd').2.2 n h1 n h2 rfl;have hfz:∃ frz,ek dst T names ns is res=abG T frz (bc dst 0 res).2 (bc dst 0 res).1 ns is/\Mem w0 N0 g (aputs T frz) w/\bg N0 g T w g (aputs T frz) w /\
   ((∀ b,aB N0 g (aputs T frz) b->dq N0 g T names b)\/res.any (fun r=>r.2.any dz)=false)/\∀ n ∈ ns++is,an (aputs T frz) n=an T n:=by
  cases hne:names.isEmpty with
  | true=>
   have:names=[]:=List.isEmpty_iff.1 hne;subst this;obtain⟨k1,k2,k3⟩:=cy [] hM;exact⟨[],by simp [ek],hM,bg.refl,.inl k3,fun _ _=>rfl⟩
  | false=>
   cases hvw:res.any (fun r=>r.2.any dz) with
   | true=>
    obtain⟨k1,k2,k3⟩:=cy names hM;exact⟨aS T names,by simp [ek,hne,hvw],k1,k2,.inl k3,fun n hn=>eX names (hdis n hn)⟩
   | false=>exact⟨[],by simp [ek,hne,hvw],hM,bg.refl,.inr rfl,fun _ _=>rfl⟩
 obtain⟨frz,heq,hM1,hK1,hav,hfn⟩:=hfz;rw [heq] at hc;unfold abG at hc;split at hc
 ·rename_i bs hbs
  split at hc
  ·rename_i hfr
   simp only [zaI,zbI] at hc;obtain⟨rfl,rfl⟩:=hc;refine Res.trans hK1 ?_;rw [Ug hblkn] at hext;have hus:=Lo houts;have hbl:=Ez (g:=g) (ns:=ns);have hun:us.length=ns.length:=by rw [hus.1,hbl.1]
   obtain⟨L,h1,h3,h4⟩:=O3 (dst:=dst) (ob1:=ob) res 0 (vs.toList++us) hlen (fun k x u hx hu=>by rw [Nat.zero_add];exact hrel k x u hx hu);rw [h1] at hfr;rw [h1];have hll:(bc dst 0 res).1.length - ns.length=vs.size:=by rw [h3,hlen,List.length_append,hun];simp
   rw [hll] at hbs;rw [hll];obtain⟨hbl1,hbl2⟩:=CD hbs;obtain⟨hbo',hbi⟩:=hbl2 hnd (T:=aputs (aputs (aputs T frz) (L.map (Imp.entry dst))) (IA is));have hbo:∀ m,m ∉ ns->m ∉ is->an (aputs (aputs (aputs (aputs T frz) (L.map (Imp.entry dst))) (IA is)) bs) m=an (aputs (aputs T frz) (L.map (Imp.entry dst))) m:=fun m h1 h2=>by rw [hbo' m h1,xt.2 h2]
   have hbd:∀ m,m ∈ is->an (aputs (aputs (aputs (aputs T frz) (L.map (Imp.entry dst))) (IA is)) bs) m=some .dead:=fun m h=>by rw [hbo' m fun h1=>hni m h1 h,xt.1 h]
   have hget:=rN hfr;have hview:∀ (x:RV),x ∈ res->res.any (fun r=>r.2.any dz)=false->x.2.any dz=false:=fun x hx h=>by simpa using List.any_eq_false.1 h x hx
   unfold Res;rw [dh,dh];generalize hT3:aputs (aputs (aputs (aputs T frz) (L.map (Imp.entry dst))) (IA is)) bs=T3 at hbo hbi hbd;have hidx:∀ n ∈ ns,∃ k,ns[k]?=some n:=fun n hn=>List.mem_iff_getElem?.1 hn;have hboxed:∀ n ∈ ns,∃ cs,an T3 n=some (.box cs):=fun n hn=>by
    obtain⟨k,hk⟩:=hidx n hn;obtain⟨cs,_,h⟩:=hbi k n hk;exact⟨cs,h⟩
   have hsomeT:∀ n ∈ ns,(an (aputs T frz) n).isSome:=fun n hn=>by
    obtain⟨cs,h⟩:=hbox n hn;rw [hfn n (List.mem_append_left _ hn),h];rfl
   have hsomeI:∀ n ∈ is,(an (aputs T frz) n).isSome:=fun n hn=>by
    obtain⟨sz,rows,h⟩:=hown n hn;rw [hfn n (List.mem_append_right _ hn),h];rfl
   let g':Gh:={
            blk:=fun m=>if (an (aputs T frz) m).isSome then g.blk m else (eg dst m L).bind fun q=>ob q.i q.j
            sv:=fun m=>if (an (aputs T frz) m).isSome then g.sv m else ((eg dst m L).map Imp.x).getD undef
            st:=fun m=>if (an (aputs T frz) m).isSome then g.st m else ((eg dst m L).map fun q=>q.c.wid).getD 0 }
   have hnewq:∀ q ∈ L,an (aputs T frz) (q.name dst)=none:=fun q hq=>(hget (q.name dst)).2 (gB q hq);have hblk:∀ q ∈ L,g'.blk (q.name dst)=ob q.i q.j/\g'.sv (q.name dst)=q.x/\g'.st (q.name dst)=q.c.wid:=fun q hq=>by
    simp [g',hnewq q hq,jE hfr hq]
   have hnewns:∀ m,an (aputs T frz) m=none->m ∉ ns:=fun m hm hn=>by
    have:=hsomeT m hn;rw [hm] at this;cases this
   have hnewis:∀ m,an (aputs T frz) m=none->m ∉ is:=fun m hm hn=>by
    have:=hsomeI m hn;rw [hm] at this;cases this
   have hfind:∀ m,an (aputs T frz) m=none->(an T3 m).isSome->∃ q ∈ L,q.name dst=m/\an T3 m=some q.c.ent:=fun m hm hs=>by
    have:=(hget m).1;rw [pl] at this;rw [hbo m (hnewns m hm) (hnewis m hm)] at hs ⊢;cases hq:eg dst m L with
    | none=>rw [hq] at this;simp only [Option.map_none] at this;rw [this,hm] at hs;cases hs
    | some q=>rw [hq] at this;simp only [Option.map_some] at this;exact⟨q,(il hq).1,(il hq).2,this⟩
   have hsame:∀ m,(an (aputs T frz) m).isSome->m ∉ ns->m ∉ is->an T3 m=an (aputs T frz) m:=fun m hm hn hi=>by
    rw [hbo m hn hi,(hget m).1];cases hq:an (L.map (Imp.entry dst)) m with
    | none=>rfl
    | some e=>have:=(hget m).2 (by rw [hq];rfl);rw [this] at hm;cases hm
   have hlivens:∀ n ∈ ns,live (aputs T frz) n:=fun n hn=>by
    obtain⟨cs,h⟩:=hbox n hn;unfold live;rw [hfn n (List.mem_append_left _ hn),h];trivial
   have hliveis:∀ n ∈ is,live (aputs T frz) n:=fun n hn=>by
    obtain⟨sz,rows,h⟩:=hown n hn;unfold live;rw [hfn n (List.mem_append_right _ hn),h];trivial
   have hnois:∀ m b,m ∉ is->live (aputs T frz) m->g.blk m=some b->some b ∉ is.map g.blk:=fun m b hm hl hb hx=>by
    obtain⟨n,hn,he⟩:=List.mem_map.1 hx;have:=hM1.inj m n b hl (hliveis n hn) hb he;subst this;exact hm hn
   have hlive3:∀ n ∈ ns,live T3 n:=fun n hn=>by
    obtain⟨cs,h⟩:=hboxed n hn;unfold live;rw [h];trivial
   have hav2:∀ b,aB N0 g' T3 b->(aB N0 g (aputs T frz) b/\some b ∉ is.map g.blk)\/∃ i j,ob i j=some b:=by
    rintro b (hb | ⟨m,hl,hbm⟩)
    ·refine .inl ⟨.inl hb,fun hx=>?_⟩
     obtain⟨n,hn,he⟩:=List.mem_map.1 hx;have h1:=hM1.n0 b hb;exact (hM1.rng n b (hliveis n hn) he).1.elim (fun h=>by omega) h1.2
    ·cases hm:an (aputs T frz) m with
     | none=>
      obtain⟨q,hq,rfl,_⟩:=hfind m hm (bV hl);rw [(hblk q hq).1] at hbm;exact .inr ⟨_,_,hbm⟩
     | some e=>
      have hmi:m ∉ is:=fun hi=>by unfold live at hl;rw [hbd m hi] at hl;exact hl
      have hlm:live (aputs T frz) m:=by
       by_cases hn:m ∈ ns
       ·exact hlivens m hn
       ·unfold live at hl ⊢
        rw [hsame m (by rw [hm];rfl) hn hmi] at hl;exact hl
      have hbg:g.blk m=some b:=by simpa [g',hm] using hbm
      exact .inl ⟨.inr ⟨m,hlm,hbg⟩,hnois m b hmi hlm hbg⟩
   have hrel2:∀ (k:Nat) (x:RV) (u:Value),res[k]?=some x->(vs.toList++us)[k]?=some u->ri w' (aB N0 g' T3) (ob k) x u:=fun k x u hx hu=>by
    refine (hrel k x u hx hu).less ?_;rcases hav with hav | hav
    ·refine .inl fun b hb=>?_
     rcases hav2 b hb with h | h
     ·exact .inl ⟨hav b h.1,h.2⟩
     ·exact .inr h
    ·exact .inr (hview x (List.mem_of_getElem? hx) hav)
   obtain⟨hSO,hIV⟩:=h4 _ ob (fun k x u hx hu=>by rw [Nat.zero_add];exact hrel2 k x u hx hu);have hcellG:∀ (p:Bool × List C) (xs:List Value),(∀ (k:Nat) (c:C) (x:Value),p.2[k]?=some c->xs[k]?=some x->(∃ d,c=.d d/\aX w' (aB N0 g' T3) d x)\/∃ q ∈ L,c=q.c.cell (q.name dst)/\q.x=x) ->
     ∀ (k:Nat) (c:C) (u:Value),p.2[k]?=some c->xs[k]?=some u->dr w' (aB N0 g' T3) g' T3 c u/\okC c=true:=fun p xs e3 k c u hc hu=>by
    rcases e3 k c u hc hu with ⟨d,rfl,hd⟩ | ⟨q,hq,rfl,hqx⟩
    ·exact⟨hd,rfl⟩
    ·obtain⟨b1,b2,b3⟩:=hblk q hq
     subst hqx;refine (hSO q hq).2.crel (hSO q hq).1 b1 b2 ?_;rw [hbo _ (hnewns _ (hnewq q hq)) (hnewis _ (hnewq q hq)),(hget _).1];have:=gB (dst:=dst) q hq;cases hz:an (L.map (Imp.entry dst)) (q.name dst) with
     | none=>rw [hz] at this;cases this
     | some e=>rfl
   obtain⟨q1,q2⟩:=hM1.createsM (ns:=ns) (is:=is) (g':=g') (T':=T3) hext hlivens hblkn hliveis hsame hlive3 hbd
    (fun m hm=>by simp [g',hm])
    (fun m b hm hl hb=>by
     obtain⟨q,hq,rfl,_⟩:=hfind m hm (bV hl);rw [(hblk q hq).1] at hb;refine⟨(hrng _ _ b hb).1.imp id fun h=>?_,(hrng _ _ b hb).2⟩;obtain⟨n,hn,he⟩:=List.mem_map.1 h;exact⟨n,hn,he⟩)
    (fun m k b hm hk hlm hlk hbm hbk=>by
     obtain⟨q,hq,rfl,_⟩:=hfind m hm (bV hlm);obtain⟨p,hp,rfl,_⟩:=hfind k hk (bV hlk);rw [(hblk q hq).1] at hbm;rw [(hblk p hp).1] at hbk;obtain⟨e1,e2⟩:=hinj _ _ _ _ b hbm hbk;simp [Imp.name,e1,e2])
    (fun hK m e hm he=>by
     rcases hm with hm | hn
     ·obtain⟨q,hq,rfl,hq'⟩:=hfind m hm (eL he)
      rw [he] at hq';simp only [zaI] at hq';subst hq';obtain⟨b1,b2,b3⟩:=hblk q hq;exact (hSO q hq).2.erel (hSO q hq).1 b1 b2 b3
     ·obtain⟨k,hk⟩:=hidx m hn
      obtain⟨cs,hcs,hbx⟩:=hbi k m hk;rw [he] at hbx;simp only [zaI] at hbx;subst hbx;obtain⟨b,hb⟩:=hblkn m hn;have hkl:k < ns.length:=(List.getElem?_eq_some_iff.1 hk).1;have huk:us[k]?=some us[k]:=by simp
      obtain⟨cells,t,hh,hu⟩:=hus.2 k b us[k] (hbl.2 k m b hk hb) huk;have hcs':(bc dst 0 res).1[vs.size+k]?=some (true,cs):=by rw [<- hcs,List.getElem?_drop]
      obtain⟨xs,e1,e2,e3⟩:=hIV (vs.size+k) (true,cs) us[k] hcs' (by rw [List.getElem?_append_right (by simp)];simp);simp only [if_true,hu,Value.agg.injEq] at e1;subst e1;have hcg:=hcellG (true,cs) xs e3;refine⟨b,xs.toArray,t,by simp only [g',hsomeT m hn,if_true];exact hb,hh,by simpa using e2.symm,fun i c x hc hx=>(hcg i c x hc (by simpa using hx)).1,fun i c hc=>?_⟩;have hi:i < xs.length:=by rw [<- e2];exact (List.getElem?_eq_some_iff.1 hc).1
      exact (hcg i c xs[i] hc (by simp [hi])).2)
   refine⟨g',q1,q2,?_⟩;rw [hv];have htl:((bc dst 0 res).1.take vs.size).length=vs.size:=by rw [List.length_take,h3,hlen];simp
   refine Ny htl (fun i p x hp hx=>?_);rw [List.getElem?_take] at hp;split at hp
   ·rename_i hi
    obtain⟨xs,e1,e2,e3⟩:=hIV i p x hp (by rw [List.getElem?_append_left (by simpa using hi)];simpa using hx);have hcell:=hcellG p xs e3;obtain⟨b,cs⟩:=p;cases b with
    | true=>
     simp only [if_true] at e1;exact⟨xs.toArray,e1,by simpa using e2,fun k c u hc hu=>(hcell k c u hc (by simpa using hu)).1⟩
    | false=>
     simp only [Bool.false_eq_true,if_false] at e1;subst e1;obtain⟨c,rfl⟩:∃ c,cs=[c]:=by
      cases cs with
      | nil=>simp at e2
      | cons c rest=>simp at e2;subst e2;exact⟨c,rfl⟩
     exact⟨c,rfl,(hcell 0 c x rfl rfl).1⟩
   ·cases hp
  ·cases hc
 ·cases hc
def ge (P : Program) (f : FuncId) : Prop := ∃ fn, P.funcs[f]? = some fn ∧ fn.body.isSome = true ∧ (fn.name == "runtime.NumGoroutine") = false
theorem akR (hM:Mem w0 N0 g T w)(hρ:∀ x,aT w (aB N0 g T) g T (ρ x) (a.eval x)){src d e:TypeId}{x:Operand}(ho:o.op=.convert src d x)(hs:P.underlying src=some .string)
  (hd:P.underlying d=some (.slice e)) (he':P.underlying e=some (.int .u8)) (he:eff P E T ρ dst (.bytes x)=some (y,es)):bj r n P o a w (Res w0 N0 g T w y es):=by
 simp only [eff] at he;split at he
 ·rename_i s hx
  split at he
  ·rename_i hc
   simp only [zaI,zbI] at he;obtain⟨rfl,rfl⟩:=he;have hv:=lm (hρ x) hx;have hn:an T dst=none:=by simpa using hc.2
   have hcap:=grownCap_ge w s.size 0 e;have hmax:=grownCap_le_maxLen w s.size 0 e (by unfold maxLen;exact hc.1);have hnew:=Lib.bytesWorld_at_new w e s;have hsz:(Lib.bytesCells w e s).size=grownCap w s.size 0 e:=by
    simp only [Lib.bytesCells,Array.size_append,Array.size_map,Array.size_replicate];change s.size+_=_;omega
   have hext:Below w.heap.size w (Lib.bytesWorld w e s):=⟨rfl,rfl,rfl,by rw [Lib.bytesWorld_size];omega,fun k hk=>Lib.bytesWorld_at_old w e s k hk⟩
   have hrun:=Lib.run_convert_string_bytes (P:=P) w src d e s hs hd he';refine bj.value (fun c h=>by rw [ho] at h;cases h) (v:=.slice (some ⟨w.heap.size,0,none⟩) s.size (grownCap w s.size 0 e)) (w':=Lib.bytesWorld w e s) (by simp [execOp,ho,hv,hrun]) ?_;have hlen:(s.data.toList.map fun b=>[DC.v (.int .u8 b.toNat)]).length=s.size:=by simp
   obtain⟨h1,h2⟩:=hM.create (w':=Lib.bytesWorld w e s) (e:=.own 1 (s.data.toList.map fun b=>[.v (.int .u8 b.toNat)])) (ob:=some w.heap.size) (sv:=.slice (some ⟨w.heap.size,0,none⟩) s.size (grownCap w s.size 0 e)) (s:=1) hn hext
    (fun b hb=>by simp at hb;subst hb;rw [Lib.bytesWorld_size];omega) (fun hK=>⟨.inr ⟨w.heap.size,0,grownCap w s.size 0 e,Lib.bytesCells w e s,e,_,by simp [Gh.set],by rw [hlen];simp [Gh.set],hnew,by rw [hlen];exact hcap,hmax,by omega,
     fun j _ hj=>by simp;omega,fun r hr=>by
      obtain⟨b,_,rfl⟩:=List.mem_map.1 hr;rfl,by omega,fun i j r d hr hdd=>by
      rw [List.getElem?_map] at hr;cases hq:s.data.toList[i]? with
      | none=>rw [hq] at hr;cases hr
      | some b=>
       rw [hq] at hr;simp only [Option.map_some,zaI] at hr;subst hr;cases j with
       | succ j=>simp at hdd
       | zero=>
        simp only [List.getElem?_cons_zero,zaI] at hdd;subst hdd;refine⟨.int .u8 b.toNat,?_,.v rfl⟩;have hi:i < s.data.size:=by simpa using (List.getElem?_eq_some_iff.1 hq).1
        have hb:s.data[i]?=some b:=by simpa using hq
        simp only [Lib.bytesCells,Nat.zero_add,Nat.mul_one,Nat.add_zero];rw [Array.getElem?_append_left (by simpa using hi),Array.getElem?_map,hb];rfl⟩,by simp [Gh.set]⟩)
   exact⟨_,h1,h2,_,rfl,by rw [show aputs T [(dst,_)]=aput T dst _ from rfl,bx];rfl,by simp [Gh.set],_,_,_,rfl⟩
  ·cases he
 ·cases he
def OR (B:Nat)(N:Nat->Prop)(w w':World):Prop:=w.heap.size<=w'.heap.size/\∀ b,b < B->¬ N b->w'.heap[b]?=w.heap[b]?
def JW:Value->Bool
 | .agg cs=>cs.toList.all plain
 | v=>plain v
def ow (P:Program)(f:FuncId)(caps:List DC)(xs:List (List Value)):Prop:=
 (∀ x ∈ xs,∀ v ∈ x,JW v=true) /\
 ∀ (w:World) (N:Nat->Prop) (lb:Array Value) (l:Nat) (J:Nat->World->Prop) (Jx:World->Prop) (n:Nat),(∀ b,N b->b < w.heap.size)->caps.length=lb.size ->
  (∀ (i:Nat) (d:DC) (v:Value),caps[i]?=some d->lb[i]?=some v->aX w N d v) ->
  (∀ i W W',J i W->Below W.heap.size W W'->J i W')->(∀ W W',Jx W->Below W.heap.size W W'->Jx W') ->
  (∀ i x W1,xs[i]?=some x->J i W1->YieldAt (Fw none) n P l x.toArray W1 fun e W'=>OR w.heap.size N W1 W'/\((e=.returned (.bool true)/\J (i+1) W')\/(e=.returned (.bool false)/\Jx W'))) ->
  J 0 w->Calls P f (#[.func (.yield l) #[] #[]]++lb) w fun e W'=>(∃ v,e=.returned v)/\(J xs.length W'\/Jx W')
structure dy (P:Program)(E:Env):Prop where
 call:∀ f ds res,E f ds=some res->eu P f ds res/\ge P f
 seq:∀ f caps xs,E.seq f caps=some xs->ow P f caps xs/\ge P f
theorem DG (hM:Mem w0 N0 g T w)(hd:∀ c,o.op ≠ .defer c){f:FuncId}{vs:Array Value}{ds:List DV}{res:List RV}{names:List Nat}(hrun:(execOp a.eval o).run P w=.ok (.enter f vs) w)
  (hC:eu P f ds res) (hargs:iW w (dq N0 g T names) ds vs) (hout:cH dst T names res=some (y,es)):bj r n P o a w (Res w0 N0 g T w y es):=
 bj.enter hd hrun ((hC.plain (fun _ hb=>Ed hM (dW hb)) hargs).mono fun _ _ ⟨v,he,hext,hres⟩=>⟨v,he,Pe hM hext hres hout⟩)
theorem iY {f : FuncId} {fn : Func} (hf : P.funcs[f]? = some fn) (hb : fn.body.isSome = true) (hn : (fn.name == "runtime.NumGoroutine") = false) (args : Array Value) (w : World) :
  (callFunc f args).run P w=.ok (.enter f args) w:=by
 have h1 : ¬ fn.name = "runtime.NumGoroutine" := by simpa using hn
 have h2:¬ fn.body=none:=by cases hq:fn.body <;> simp_all
 simp [callFunc,hf,h1,h2]
theorem anc (hE:dy P E)(hM:Mem w0 N0 g T w)(hρ:∀ x,aT w (aB N0 g T) g T (ρ x) (a.eval x)){c:Call}{f:FuncId}{fn:Func}(ho:o.op=.call c)(hc:c.callee=.value (.func f))(hf:P.funcs[f]?=some fn)
  (hb : fn.body.isSome = true) (hn : (fn.name == "runtime.NumGoroutine") = false) (he : eff P E T ρ dst (.call f c.args.toList) = some (y, es)) : bj r n P o a w (Res w0 N0 g T w y es) := by
 have hd:∀ c,o.op ≠ .defer c:=fun c h=>by rw [ho] at h;cases h
 have hrun:(execOp a.eval o).run P w=.ok (.enter f (c.args.map a.eval)) w:=by
  have hev:a.eval (.func f)=.func (.func f) #[] #[]:=rfl;simp only [execOp,ho,resolve,hc,hev];simp [Deferred.ofValue,invoke,iY hf hb hn]
 simp only [eff] at he;split at he
 ·split at he
  ·rename_i ds hds
   split at he
   ·rename_i res hres
    obtain⟨h1,h2⟩:=wA hM hρ (names:=c.args.toList.flatMap fun x=>bA T (ρ x)) hds (fun m hm=>hm);exact DG hM hd (f:=f) (vs:=c.args.map a.eval) hrun (hE.call f ds res hres).1 ⟨by simp [h1],fun i d v hdi hv=>h2 i d v hdi (by rw [<- Array.getElem?_toList] at hv;simpa using hv)⟩ he
   ·cases he
  ·cases he
 ·split at he
  ·rename_i ds ns is ms hds
   split at he
   ·rename_i hns
    split at he
    ·rename_i res hres
     obtain⟨n1,n2⟩:=FD hns;obtain⟨i1,i2,i4,i3⟩:=CY hM hρ (names:=ms) hds (fun m hm=>hm) n2;refine bj.enter hd hrun (((hE.call f ds res hres).1 w (c.args.map a.eval) (dq N0 g T ms) (gf g ns) (is.map g.blk) (fun _ hb=>Ed hM (dW hb)) (Pn hM n1 i1 i2 i4) (by simpa using i3)).mono ?_)
     rintro e w' ⟨v,us,hv,hbm,hou,hrm⟩
     exact⟨v,hv,NM hM hbm hou hrm i1 i2 i4 n2 n1 he⟩
    ·cases he
   ·cases he
  ·cases he
theorem al7 (hE:dy P E)(hM:Mem w0 N0 g T w)(hρ:∀ x,aT w (aB N0 g T) g T (ρ x) (a.eval x)){c:Call}{x:Operand}(ho:o.op=.call c)(hc:c.callee=.value x)
  (he:eff P E T ρ dst (.calld x c.args.toList)=some (y,es)):bj r n P o a w (Res w0 N0 g T w y es):=by
 have hd:∀ c,o.op ≠ .defer c:=fun c h=>by rw [ho] at h;cases h
 simp only [eff] at he;split at he
 ·rename_i k ds hk hds
  split at he
  ·rename_i f caps hcd
   split at he
   ·rename_i res hres
    obtain⟨h1,h2⟩:=wA hM hρ (names:=bq T 4 k++c.args.toList.flatMap fun x=>bA T (ρ x)) hds (fun m hm=>List.mem_append_right _ hm);have h3:=vV hM (names:=bq T 4 k++c.args.toList.flatMap fun x=>bA T (ρ x)) 4 (bf (hρ x) hk) hcd (fun m hm=>List.mem_append_left _ hm);generalize hv:a.eval x=v at h3;cases h3 with
    | @fn _ _ cs hl hdd=>
     obtain⟨hC,fn,hf,hb,hn⟩:=hE.call f _ _ hres;refine DG hM hd (f:=f) (vs:=c.args.map a.eval++cs) ?_ hC ⟨by simp [h1,hl],fun i d v hdi hvi=>?_⟩ he
     ·simp only [execOp,ho,resolve,hc,hv]
      simp [Deferred.ofValue,invoke,iY hf hb hn]
     ·rw [<- Array.getElem?_toList,Array.toList_append,Array.toList_map] at hvi
      rw [List.getElem?_append] at hdi hvi;simp only [List.length_map] at hvi;rw [<- h1] at hvi;split at hdi
      ·rename_i hi
       rw [if_pos hi] at hvi;exact h2 i d v hdi hvi
      ·rename_i hi
       rw [if_neg hi] at hvi;rw [List.getElem?_map] at hdi;cases hq:caps[i - ds.length]? with
       | none=>rw [hq] at hdi;cases hdi
       | some d'=>
        rw [hq] at hdi;simp only [Option.map_some,zaI] at hdi;subst hdi;exact⟨d',rfl,hdd _ d' v hq (by simpa using hvi)⟩
   ·cases he
  ·cases he
 ·cases he
theorem PY {t:TypeId}{m:String}{f:Nat}{u:Value}{k:Nat}(h:WQ P t m=some f)(w:World):(method (k+1) t u m).run P w=.ok (f,u) w:=by
 unfold WQ at h;split at h
 ·rename_i i d hi hu
  split at h
  ·rename_i q hq
   split at h
   ·rename_i f' hp hf hd
    simp only [zaI] at h;subst h;unfold method;have hi':(typeInfo t).run P w=.ok i w:=by simp [typeInfo,hi]
    rw [Sem.run_bind,hi',Result.andThen_ok,hq];simp only;have hfo:(follow q.path.toList t (.val u)).run P w=.ok (t,.val u) w:=by rw [hp];rfl
    rw [Sem.run_bind,hfo,Result.andThen_ok];simp only [hf];have hr:∀ s,(receiverAt t (.val u) false s).run P w=.ok u w:=by
     intro s;unfold receiverAt;rw [Sem.run_bind,run_underlying hu,Result.andThen_ok];cases d <;> first | rfl | (simp [aeT] at hd)
    rw [Sem.run_bind,hr,Result.andThen_ok];rfl
   ·cases h
  ·cases h
 ·cases h
theorem azN (hE:dy P E)(hM:Mem w0 N0 g T w)(hρ:∀ x,aT w (aB N0 g T) g T (ρ x) (a.eval x)){c:Call}{x:Operand}{m:String}(ho:o.op=.call c)(hc:c.callee=.invoke x m)
  (he:eff P E T ρ dst (.inv m x c.args.toList)=some (y,es)):bj r n P o a w (Res w0 N0 g T w y es):=by
 have hd:∀ c,o.op ≠ .defer c:=fun c h=>by rw [ho] at h;cases h
 simp only [eff] at he;split at he
 ·rename_i t b cs ds hk hds
  split at he
  ·rename_i f hf
   split at he
   ·rename_i res hres
    obtain⟨h1,h2⟩:=wA hM hρ (names:=c.args.toList.flatMap fun x=>bA T (ρ x)) hds (fun m hm=>hm);have h3:aX w (aB N0 g T) (.ifc t b cs) (a.eval x):=bf (hρ x) hk;generalize hv:a.eval x=v at h3;cases h3 with
    | @ifc _ _ _ u xs hx hl hdd=>
     obtain⟨hC,fn,hfn,hb,hn⟩:=hE.call f _ _ hres;have hless:∀ {d:DC} {z:Value},aX w (aB N0 g T) d z->aX w (dq N0 g T (c.args.toList.flatMap fun x=>bA T (ρ x))) d z:=fun h=>h.less fun b hb=>dW hb;have hrec:pU w (dq N0 g T (c.args.toList.flatMap fun x=>bA T (ρ x))) (b,cs) u:=by
      cases b with
      | true=>
       obtain rfl:u=.agg xs.toArray:=hx;exact⟨xs.toArray,rfl,by simpa using hl,fun i d v hd hv=>hless (hdd i d v hd (by simpa using hv))⟩
      | false=>
       obtain rfl:xs=[u]:=hx
       match cs,hl with
       | [d],_=>exact⟨d,rfl,hless (hdd 0 d u rfl rfl)⟩
     refine DG hM hd (f:=f) (vs:=#[u]++c.args.map a.eval) ?_ hC ⟨by simp [h1];omega,fun i d v hdi hvi=>?_⟩ he
     ·have hdep:0 < Made.depth:=by decide
      obtain⟨k,hk'⟩:∃ k,P.types.size+Made.depth=k+1:=⟨P.types.size+Made.depth - 1,by omega⟩
      simp only [execOp,ho,resolve,hc,hv];have h0:∀ (z:Value) (X:Array Value),(#[z]++X)[0]?=some z:=fun z X=>by rw [Array.getElem?_append];simp
      have hex:(Array.map a.eval c.args).extract 0 c.args.size=Array.map a.eval c.args:=by
       have:=Array.extract_size (xs:=Array.map a.eval c.args);rwa [Array.size_map] at this
      have hrun:=PY (u:=u) (k:=k) hf w;simp [invoke,h0,callMethod,Sem.run_bind,hk',hrun,hex,iY hfn hb hn]
     ·cases i with
      | zero=>
       rw [Array.getElem?_append] at hvi;simp at hdi hvi;subst hdi;subst hvi;exact hrec
      | succ i=>exact h2 i d v (by simpa using hdi) (by rw [<- Array.getElem?_toList] at hvi;simpa using hvi)
   ·cases he
  ·cases he
 ·cases he
theorem azJ (hM:Mem w0 N0 g T w)(hρ:∀ x,aT w (aB N0 g T) g T (ρ x) (a.eval x)){t:TypeId}{x:Operand}(ho:o.op=.makeInterface t x){d:TypeDesc}(hu:P.underlying t=some d)(hi:∀ ms,d ≠ .interface ms)
  (he:eff P E T ρ dst (.ifc t x)=some (y,es)):bj r n P o a w (Res w0 N0 g T w y es):=by
 have hd:∀ c,o.op ≠ .defer c:=fun c h=>by rw [ho] at h;cases h
 have hx:=hρ x;simp only [eff] at he;split at he
 ·rename_i b cs hv
  rw [hv] at hx;split at he
  ·rename_i ds es' hf
   simp only [zaI,zbI] at he;obtain⟨rfl,rfl⟩:=he;obtain⟨xs,hxs,hcr⟩:∃ xs,awc b xs (a.eval x)/\dQ w (aB N0 g T) g T cs xs:=by
    cases b with
    | true=>
     obtain⟨xs,h1,h2,h3⟩:=hx;exact⟨xs.toList,by rw [h1];rfl,by simpa using h2.symm,fun i c u hc hu=>h3 i c u hc (by simpa using hu)⟩
    | false=>
     obtain⟨c,h1,h2⟩:=hx;subst h1;exact⟨[a.eval x],rfl,rfl,fun i c' u hc hu=>by
      cases i with
      | zero=>simp at hc hu;subst hc;subst hu;exact h2
      | succ i=>simp at hc⟩
   obtain⟨m1,m2,m3,m4⟩:=ip hM hcr hf;have hrun:(execOp a.eval o).run P w=.ok (.value (.iface t (a.eval x))) w:=by
    simp only [execOp,ho,Instr.makeInterface,Sem.run_bind,run_underlying hu,Result.andThen_ok];cases d <;> first | rfl | exact absurd rfl (hi _)
   exact bj.value hd hrun ⟨g,m1,m2,_,rfl,.ifc xs hxs (m3.trans hcr.1.symm) m4⟩
  ·cases he
 ·cases he
theorem zx {ao:AOp}(h:bU P o=some ao):(∀ c,o.op ≠ .defer c)/\∀ cs b,o.op ≠ .select cs b:=by
 unfold bU at h;constructor
 ·intro c hc;rw [hc] at h;cases h
 ·intro cs b hc;rw [hc] at h;cases h
theorem CA (hE:dy P E)(hM:Mem w0 N0 g T w)(hρ:∀ x,aT w (aB N0 g T) g T (ρ x) (a.eval x)){c:Call}{ao:AOp}(ho:o.op=.call c)(hc:gv P o c=some ao)
  (he:eff P E T ρ dst ao=some (y,es)):bj r n P o a w (Res w0 N0 g T w y es):=by
 have hpure:eff P E T ρ dst (.pure o)=some (y,es)->bj r n P o a w (Res w0 N0 g T w y es):=fun he=>
  vx hM hρ (fun cs b h=>by rw [ho] at h;cases h) (fun c h=>by rw [ho] at h;cases h) he
 unfold gv at hc;split at hc
 ·rename_i f hcal
  split at hc
  ·rename_i fn hf
   split at hc
   ·rename_i hcond
    simp only [zaI] at hc;subst hc;exact anc hE hM hρ ho hcal hf hcond.1 hcond.2 he
   ·simp only [zaI] at hc
    subst hc;exact hpure he
  ·cases hc
 ·rename_i x _ hcal
  simp only [zaI] at hc;subst hc;exact al7 hE hM hρ ho hcal he
 ·rename_i x m hcal
  simp only [zaI] at hc;subst hc;exact azN hE hM hρ ho hcal he
 ·rename_i hcal
  split at hc
  ·rename_i x t ha ht
   split at hc
   ·rename_i e hu
    simp only [zaI] at hc;subst hc;exact ayo hM hρ ho hcal ha ht hu he
   ·simp only [zaI] at hc
    subst hc;exact hpure he
   ·simp only [zaI] at hc
    subst hc;exact hpure he
   ·cases hc
  ·cases hc
 ·rename_i hcal
  split at hc
  ·rename_i p q t u ha hat
   split at hc
   ·rename_i e ht
    split at hc
    ·rename_i i hi
     split at hc
     ·rename_i h0
      simp only [zaI] at hc;subst hc;exact api hM hρ ho hcal ha hat ht hi h0 he
     ·cases hc
    ·cases hc
   ·cases hc
  ·cases hc
 ·rename_i hcal
  split at hc
  ·rename_i p q t u ha hat
   split at hc
   ·rename_i e e' ht hu
    split at hc
    ·rename_i i z hi hz
     split at hc
     ·rename_i hcond
      obtain⟨rfl,hzs,h0⟩:=hcond;simp only [zaI] at hc;subst hc;exact ZT hM hρ ho hcal ha hat ht hu hi hz hzs h0 he
     ·cases hc
    ·cases hc
   ·cases hc
  ·cases hc
 all_goals first
  | (simp only [zaI] at hc;subst hc;exact hpure he)
  | cases hc
theorem ad0 (hE:dy P E)(hM:Mem w0 N0 g T w)(hρ:∀ x,aT w (aB N0 g T) g T (ρ x) (a.eval x)){ao:AOp}(hc:bU P o=some ao)
  (he:eff P E T ρ dst ao=some (y,es)):bj r n P o a w (Res w0 N0 g T w y es):=by
 have hpl:=zx hc;unfold bU at hc;split at hc
 ·rename_i x ho;simp only [zaI] at hc;subst hc;exact avr hM hρ (.inl ho) he
 ·rename_i x ho;simp only [zaI] at hc;subst hc;exact avr hM hρ (.inr ho) he
 ·rename_i c p q ho;simp only [zaI] at hc;subst hc;exact asS hM hρ ho he
 ·rename_i e ho
  cases hz:ry P e with
  | none=>rw [hz] at hc;cases hc
  | some cs=>rw [hz] at hc;simp only [Option.map_some,zaI] at hc;subst hc;exact akj hM ho hz he
 ·rename_i t x ho;simp only [zaI] at hc;subst hc;exact awO hM hρ ho he
 ·rename_i t parts ho
  split at hc
  ·rename_i fs z hu hz
   cases hp:i5 P fs.toList with
   | none=>rw [hp] at hc;cases hc
   | some places=>
    rw [hp] at hc;simp only [Option.bind_some] at hc;cases hps:(parts.toList.mapM fun p=>(places[p.1]?).map fun q=>(q.1,q.2,p.2)) with
    | none=>rw [hps] at hc;cases hc
    | some ps=>rw [hps] at hc;simp only [Option.map_some,zaI] at hc;subst hc;exact zB hM hρ ho hu hz hp hps he
  ·rename_i len e z hu hz
   cases hs:bL P e with
   | none=>rw [hs] at hc;cases hc
   | some s=>rw [hs] at hc;simp only [Option.map_some,zaI] at hc;subst hc;exact Ch hM hρ ho hu hz hs he
  ·cases hc
 ·rename_i t len parts ho
  split at hc
  ·rename_i e hu
   split at hc
   ·rename_i s z hs hz
    split at hc
    ·rename_i hcond
     obtain⟨h1,h2,h3⟩:=hcond;simp only [zaI] at hc;subst hc;exact aaZ hM hρ ho hu hs hz h1 h2 h3 he
    ·cases hc
   ·cases hc
  ·cases hc
 ·rename_i t x ho
  split at hc
  ·rename_i d s hu hs
   split at hc
   ·rename_i hd
    simp only [zaI] at hc;subst hc;exact QD hM hρ ho hu hs (k:=s) (by simp [hd]) (by rw [hd];exact he)
   ·rename_i hd
    simp only [zaI] at hc;subst hc;have hd':bW d=false:=by simpa using hd
    exact QD hM hρ ho hu hs (k:=1) (by simp [hd']) (by rw [hd'];exact he)
  ·cases hc
 ·rename_i t x z ho
  cases hs:bL P t with
  | none=>rw [hs] at hc;cases hc
  | some s=>rw [hs] at hc;simp only [Option.map_some,zaI] at hc;subst hc;exact acl hM hρ ho hs he
 ·rename_i x ho;simp only [zaI] at hc;subst hc;exact abC hM hρ ho he
 ·rename_i t x f ho
  split at hc
  ·rename_i fs hu
   split at hc
   ·rename_i fd hf
    split at hc
    ·rename_i s hs
     split at hc
     ·rename_i h0
      simp only [zaI] at hc;subst hc;exact ach hM hρ ho hu hf hs h0 he
     ·cases hc
    ·cases hc
   ·cases hc
  ·cases hc
 ·rename_i t x i ho
  split at hc
  ·rename_i e hu
   cases hs:bL P e with
   | none=>rw [hs] at hc;cases hc
   | some s=>rw [hs] at hc;simp only [Option.map_some,zaI] at hc;subst hc;exact EX hM hρ ho hu hs he
  ·rename_i len e hu
   cases hs:bL P e with
   | none=>rw [hs] at hc;cases hc
   | some s=>rw [hs] at hc;simp only [Option.map_some,zaI] at hc;subst hc;exact EM hM hρ ho hu hs he
  ·cases hc
 ·rename_i t x f ho
  split at hc
  ·rename_i fs hu
   split at hc
   ·rename_i fd hf
    split at hc
    ·rename_i d s hd hs
     split at hc
     ·rename_i hdd
      simp only [zaI] at hc;subst hc;exact Na hM hρ ho hu hf hd hs (q:=s) (by simp [hdd]) (by rw [hdd];exact he)
     ·rename_i hdd
      simp only [zaI] at hc;subst hc;have hd':bW d=false:=by simpa using hdd
      exact Na hM hρ ho hu hf hd hs (q:=1) (by simp [hd']) (by rw [hd'];exact he)
    ·cases hc
   ·cases hc
  ·cases hc
 ·rename_i t x i ho
  split at hc
  ·rename_i len e hu
   split at hc
   ·rename_i d s hd hs
    split at hc
    ·rename_i hdd
     simp only [zaI] at hc;subst hc;exact Mr hM hρ ho hu hd hs (q:=s) (by simp [hdd]) rfl (by rw [hdd];exact he)
    ·rename_i hdd
     split at hc
     ·rename_i hs1
      simp only [zaI] at hc;subst hc;have hd':bW d=false:=by simpa using hdd
      exact Mr hM hρ ho hu hd hs (q:=1) (by simp [hd']) hs1.symm (by rw [hd'];exact he)
     ·cases hc
   ·cases hc
  ·simp only [zaI] at hc;subst hc;exact vx hM hρ hpl.2 hpl.1 he
  ·cases hc
 ·rename_i t x lo hi ho
  split at hc
  ·rename_i e hu
   cases hs:bL P e with
   | none=>rw [hs] at hc;cases hc
   | some s=>rw [hs] at hc;simp only [Option.map_some,zaI] at hc;subst hc;exact NG hM hρ ho hu hs he
  ·simp only [zaI] at hc;subst hc;exact vx hM hρ hpl.2 hpl.1 he
  ·rename_i n e hu
   split at hc
   ·cases hs:bL P e with
    | none=>rw [hs] at hc;cases hc
    | some s=>rw [hs] at hc;simp only [Option.map_some,zaI] at hc;subst hc;exact aaC hM hρ ho hu hs he
   ·cases hc
  ·cases hc
 ·rename_i x i ho;simp only [zaI] at hc;subst hc;exact PZ hM hρ ho he
 ·rename_i t x ho
  split at hc
  ·cases hc
  ·rename_i d hu hni
   simp only [zaI] at hc;subst hc;exact azJ hM hρ ho hni (fun ms h=>hu ms h) he
  ·cases hc
 ·rename_i f first caps ho
  split at hc
  ·rename_i h0
   simp only [zaI] at hc;subst hc;exact aqF hM hρ ho h0 he
  ·cases hc
 ·rename_i t l c ho
  split at hc
  ·rename_i e hu
   split at hc
   ·rename_i i z hi hz
    split at hc
    ·rename_i hcond
     simp only [zaI] at hc;subst hc;exact O4 hM hρ ho hu hi hz hcond.1 hcond.2 he
    ·cases hc
   ·cases hc
  ·cases hc
 ·rename_i op t x z u ho
  split at hc
  ·cases hc
  ·cases hc
  ·cases hc
  ·simp only [zaI] at hc;subst hc;exact azY hM hρ ho he
 ·simp only [zaI] at hc;subst hc;exact vx hM hρ hpl.2 hpl.1 he
 ·rename_i src d x ho
  split at hc
  ·rename_i e h1 h2
   split at hc
   ·rename_i h3
    simp only [zaI] at hc;subst hc;exact akR hM hρ ho h1 h2 (aa7 h3) he
   ·cases hc
  ·simp only [zaI] at hc;subst hc;exact vx hM hρ hpl.2 hpl.1 he
 ·rename_i c ho;exact CA hE hM hρ ho hc he
 ·cases hc
variable {P:Program}{E:Env}{T T':Tab}{ρ ρ':Operand->AV}{dst:Nat}
def gE:AOp->List Operand
 | .mv x | .box x | .load _ _ x | .faddr _ x | .field _ _ _ x | .extract _ x | .len x | .nilchk x | .bytes x | .aslice _ _ x | .ifc _ x=>[x]
 | .pick c a b=>[c,a,b]
 | .alloc _ | .bad=>[]
 | .build _ ps=>ps.map fun p=>p.2.2
 | .bslice _ _ _ ps=>ps.map fun p=>p.2
 | .store _ x y | .append _ _ x y | .copy _ x y | .bin _ _ x y | .eqagg _ x y | .mkslice _ _ _ x y=>[x,y]
 | .iaddr _ _ x i | .index _ _ _ x i=>[x,i]
 | .slice _ _ x lo hi | .view _ x lo hi=>x::(lo.toList++hi.toList)
 | .mkfn _ cs=>cs
 | .call _ as=>as
 | .calld x as=>x::as
 | .inv _ x as=>x::as
 | .pure o=>o.op.operands.toList
theorem ru:∀ (ps:List (Nat × Nat × Operand)) (cs:List C),(∀ x ∈ ps.map (fun p=>p.2.2),ρ x=ρ' x)->ic ρ cs ps=ic ρ' cs ps
 | [],cs,_=>rfl
 | (off,sz,x)::r,cs,h=>by
  simp only [ic,h x (by simp)];split
  ·split
   ·exact ru r _ fun y hy=>h y (by simp only [List.map_cons,List.mem_cons];exact .inr hy)
   ·rfl
  ·rfl
theorem pr {sz:Nat}:∀ (ps:List (Nat × Operand)) (T:Tab) (rows:List (List DC)) (es:List (Nat × aL)),(∀ x ∈ ps.map (·.2),ρ x=ρ' x)->fo ρ sz T rows es ps=fo ρ' sz T rows es ps
 | [],_,_,_,_=>rfl
 | (i,x)::r,T,rows,es,h=>by
  simp only [fo,h x (by simp)];split
  ·split
   ·split
    ·exact pr r _ _ _ fun y hy=>h y (by simp only [List.map_cons,List.mem_cons];exact .inr hy)
    ·rfl
   ·rfl
  ·rfl
theorem yU:∀ (cs:List Operand),(∀ x ∈ cs,ρ x=ρ' x)->sX ρ cs=sX ρ' cs
 | [],_=>rfl
 | x::r,h=>by simp only [sX,h x (by simp),yU r fun y hy=>h y (List.mem_cons_of_mem _ hy)]
theorem j6:∀ (cs:List Operand),(∀ x ∈ cs,ρ x=ρ' x)->fy T ρ cs=fy T ρ' cs
 | [],_=>rfl
 | x::r,h=>by simp only [fy,h x (by simp),j6 r fun y hy=>h y (List.mem_cons_of_mem _ hy)]
theorem y9:∀ (cs:List Operand) (io:List Nat) (k:Nat),(∀ x ∈ cs,ρ x=ρ' x)->jH T ρ io k cs=jH T ρ' io k cs
 | [],_,_,_=>rfl
 | x::r,io,k,h=>by simp only [jH,h x (by simp),y9 r io (k+1) fun y hy=>h y (List.mem_cons_of_mem _ hy)]
theorem cR {α β:Type}{f f':α->List β}:∀ (l:List α),(∀ x ∈ l,f x=f' x)->l.flatMap f=l.flatMap f'
 | [],_=>rfl
 | x::r,h=>by simp only [List.flatMap_cons,h x (by simp),cR r fun y hy=>h y (List.mem_cons_of_mem _ hy)]
theorem Bo {α:Type}{f f':α->Bool}:∀ (l:List α),(∀ x ∈ l,f x=f' x)->l.all f=l.all f'
 | [],_=>rfl
 | x::r,h=>by simp only [List.all_cons,h x (by simp),Bo r fun y hy=>h y (List.mem_cons_of_mem _ hy)]
theorem iN {d:Int}(x:Option Operand)(h:∀ y ∈ x.toList,ρ y=ρ' y):bF ρ d x=bF ρ' d x:=by
 cases x with
 | none=>rfl
 | some y=>simp only [bF,h y (by simp)]
def avb:AOp->Prop
 | .pure o=>∀ cs b,o.op ≠ .select cs b
 | _=>True
theorem E8 {op:Op}(h:∀ x ∈ op.operands,ρ x=ρ' x):dp P op ρ=dp P op ρ':=by
 cases op
 case convert s d x=>simp only [dp,h x (by simp [Op.operands])]
 case call c=>
  simp only [dp];split
  ·rename_i f x hc ha
   have hx:ρ x=ρ' x:=h x (by
    have:x ∈ c.args.toList:=by rw [ha];simp
    simp only [Op.operands,Call.operands,hc];simp [Array.mem_toList_iff.1 this])
   rw [hx]
  ·rfl
 all_goals rfl
theorem abk (ao:AOp)(hn:avb ao)(h:∀ x ∈ gE ao,ρ x=ρ' x):eff P E T ρ dst ao=eff P E T ρ' dst ao:=by
 cases ao
 case alloc z=>rfl
 case bad=>rfl
 case build z ps=>simp only [eff,ru ps z h]
 case bslice s n z ps=>simp only [eff,pr ps _ _ _ h]
 case mkfn f cs=>simp only [eff,yU cs h]
 case call f as=>simp only [eff,j6 as h,y9 as _ _ h,cR (f:=fun x=>bA T (ρ x)) (f':=fun x=>bA T (ρ' x)) as fun x hx=>by rw [h x hx]]
 case calld x as=>
  have h':∀ y ∈ as,ρ y=ρ' y:=fun y hy=>h y (List.mem_cons_of_mem _ hy);simp only [eff,h x (by simp [gE]),j6 as h',cR (f:=fun x=>bA T (ρ x)) (f':=fun x=>bA T (ρ' x)) as fun y hy=>by rw [h' y hy]]
 case inv m x as=>
  have h':∀ y ∈ as,ρ y=ρ' y:=fun y hy=>h y (List.mem_cons_of_mem _ hy);simp only [eff,h x (by simp [gE]),j6 as h',cR (f:=fun x=>bA T (ρ x)) (f':=fun x=>bA T (ρ' x)) as fun y hy=>by rw [h' y hy]]
 case pure o=>
  have e0:∀ x,ρ x=ρ' x->dC ρ x=dC ρ' x:=fun x hx=>by cases x <;> simp [dC,hx]
  have e1:=Bo (f:=fun x=>(dC ρ x).isSome) (f':=fun x=>(dC ρ' x).isSome) o.op.operands.toList fun x hx=>by rw [e0 x (h x hx)]
  have e2:=execOp_congr (ρ:=fun x=>(dC ρ x).getD undef) (ρ':=fun x=>(dC ρ' x).getD undef) o hn fun x hx=>by simp only [e0 x (h x (by simpa [gE] using hx))]
  have e3:=E8 (P:=P) (op:=o.op) (ρ:=ρ) (ρ':=ρ') fun x hx=>h x (by simpa [gE] using hx);simp only [eff,e1,e2,e3]
 case slice s m x lo hi=>
  have hl:∀ d,bF ρ d lo=bF ρ' d lo:=fun d=>iN lo fun y hy=>h y (by simp [gE];exact .inr (.inl (by simpa using hy)));have hh:∀ d,bF ρ d hi=bF ρ' d hi:=fun d=>iN hi fun y hy=>h y (by simp [gE];exact .inr (.inr (by simpa using hy)));simp only [eff,h x (by simp [gE]),hl,hh]
 case view s x lo hi=>
  have hl:∀ d,bF ρ d lo=bF ρ' d lo:=fun d=>iN lo fun y hy=>h y (by simp [gE];exact .inr (.inl (by simpa using hy)));have hh:∀ d,bF ρ d hi=bF ρ' d hi:=fun d=>iN hi fun y hy=>h y (by simp [gE];exact .inr (.inr (by simpa using hy)));simp only [eff,h x (by simp [gE]),hl,hh]
 case iaddr s arr x i=>cases arr <;> simp only [eff,h x (by simp [gE]),h i (by simp [gE])]
 case pick c a b=>simp only [eff,h c (by simp [gE]),h a (by simp [gE]),h b (by simp [gE])]
 all_goals simp_all [eff,gE]
def cC (l:List Nat)(T T':Tab):Prop:=∀ n ∈ l,an T' n=an T n
theorem cC.sub {l l':List Nat}(h:cC l T T')(hs:∀ n ∈ l',n ∈ l):cC l' T T':=fun n hn=>h n (hs n hn)
theorem cC.aput {l:List Nat}(h:cC l T T')(n:Nat)(e:aL):cC l (aput T n e) (aput T' n e):=by
 intro m hm;rw [cM,cM];split
 ·rfl
 ·exact h m hm
theorem cC.aputs {l:List Nat}:∀ (es:List (Nat × aL)) {T T':Tab},cC l T T'->cC l (aputs T es) (aputs T' es)
 | [],_,_,h=>h
 | (n,e)::r,_,_,h=>cC.aputs r (h.aput n e)
def fM:C->List Nat
 | .ref n | .eptr n _ _ | .ptr n _ | .sub n _ _=>[n]
 | _=>[]
def ki:AV->List Nat
 | .val _ cs=>cs.flatMap fM
 | .tup _=>[]
theorem abI {x:AV}{c:C}(h:de x=some c):ki x=fM c:=by
 unfold de at h;split at h
 ·simp only [zaI] at h;subst h;simp [ki]
 ·cases h
theorem zc {x:AV}{cs:List C}(h:hH x=some cs):ki x=cs.flatMap fM:=by
 cases x with
 | val b l=>simp only [hH,zaI] at h;subst h;rfl
 | tup l=>cases h
theorem iw {α β:Type}{f f':α->Option β}:∀ (l:List α),(∀ x ∈ l,f x=f' x)->l.mapM f=l.mapM f'
 | [],_=>rfl
 | x::r,h=>by simp only [List.mapM_cons,h x (by simp),iw r fun y hy=>h y (List.mem_cons_of_mem _ hy)]
theorem mU:∀ (k:Nat) (c:C),cC (bq T k c) T T'->dt T' k c=dt T k c/\bq T' k c=bq T k c
 | 0,_,_=>⟨rfl,rfl⟩
 | k+1,c,h=>by
  cases c with
  | d x=>exact⟨rfl,rfl⟩
  | nils=>exact⟨rfl,rfl⟩
  | und=>exact⟨rfl,rfl⟩
  | unk=>exact⟨rfl,rfl⟩
  | yld l=>exact⟨rfl,rfl⟩
  | sub n lo hi=>exact⟨rfl,rfl⟩
  | ref n=>exact⟨by simp only [dt,h n (by simp [bq])],rfl⟩
  | eptr n i off=>exact⟨by simp only [dt,h n (by simp [bq])],rfl⟩
  | ptr n off=>
   have h1:=h n (by simp [bq]);simp only [dt,bq,h1];cases he:an T n with
   | none=>exact⟨rfl,rfl⟩
   | some e=>
    cases e with
    | box cs=>
     have ih:∀ c ∈ cs,dt T' k c=dt T k c/\bq T' k c=bq T k c:=fun c hc=>
      mU k c (h.sub fun m hm=>by simp only [bq,he];exact List.mem_cons_of_mem _ (List.mem_flatMap.2 ⟨c,hc,hm⟩))
     exact⟨by simp only [iw cs fun c hc=>(ih c hc).1],by simp only [cR cs fun c hc=>(ih c hc).2]⟩
    | _=>exact⟨rfl,rfl⟩
  | fn f caps=>
   have ih:∀ c ∈ caps,CG (dt T' k) T' c=CG (dt T k) T c /\
     (match c with | .ptr n=>n::(match an T' n with | some (.box cs)=>cs.flatMap (bq T' k) | _=>[]) | .d _=>[])=
     (match c with | .ptr n=>n::(match an T n with | some (.box cs)=>cs.flatMap (bq T k) | _=>[]) | .d _=>[]):=by
    intro c hc;cases c with
    | d x=>exact⟨rfl,rfl⟩
    | ptr n=>
     have hsub:∀ m ∈ n::(match an T n with | some (.box cs)=>cs.flatMap (bq T k) | _=>[]),m ∈ bq T (k+1) (.fn f caps):=fun m hm=>by
      simp only [bq];exact List.mem_flatMap.2 ⟨.ptr n,hc,hm⟩
     have h1:=h n (hsub n (by simp));simp only [CG,h1];cases he:an T n with
     | none=>exact⟨rfl,rfl⟩
     | some e=>
      cases e with
      | box cs=>
       have ih:∀ c ∈ cs,dt T' k c=dt T k c/\bq T' k c=bq T k c:=fun c hc=>
        mU k c (h.sub fun m hm=>hsub m (by simp only [he];exact List.mem_cons_of_mem _ (List.mem_flatMap.2 ⟨c,hc,hm⟩)))
       exact⟨by simp only [iw cs fun c hc=>(ih c hc).1],by simp only [cR cs fun c hc=>(ih c hc).2]⟩
      | _=>exact⟨rfl,rfl⟩
   refine⟨by simp only [dt,iw caps fun c hc=>(ih c hc).1],?_⟩;simp only [bq];exact cR caps fun c hc=>(ih c hc).2
theorem Cb {x:AV}(h:cC (bA T x) T T'):yI T' x=yI T x/\bA T' x=bA T x:=by
 cases x with
 | tup l=>exact⟨rfl,rfl⟩
 | val b cs=>
  have ih:∀ c ∈ cs,dt T' 4 c=dt T 4 c/\bq T' 4 c=bq T 4 c:=fun c hc=>mU 4 c (h.sub fun m hm=>List.mem_flatMap.2 ⟨c,hc,hm⟩);exact⟨by simp only [yI,iw cs fun c hc=>(ih c hc).1],by simp only [bA,cR cs fun c hc=>(ih c hc).2]⟩
theorem kr:∀ (cs:List Operand),cC (cs.flatMap fun x=>bA T (ρ x)) T T' ->
  fy T' ρ cs=fy T ρ cs/\(cs.flatMap fun x=>bA T' (ρ x))=cs.flatMap fun x=>bA T (ρ x)
 | [],_=>⟨rfl,rfl⟩
 | x::r,h=>by
  obtain⟨h1,h2⟩:=Cb (x:=ρ x) (h.sub fun m hm=>by simp only [List.flatMap_cons];exact List.mem_append_left _ hm);obtain⟨h3,h4⟩:=kr r (h.sub fun m hm=>by simp only [List.flatMap_cons];exact List.mem_append_right _ hm);exact⟨by simp only [fy,h1,h3],by simp only [List.flatMap_cons,h2,h4]⟩
theorem PR {c:C}(h:cC (bq T 3 c) T T'):aeC T' c=aeC T c:=by
 cases c with
 | ref n=>simp only [aeC,h n (by simp [bq])]
 | _=>rfl
theorem ze:∀ (cs:List C),cC (cs.flatMap (bq T 3)) T T'->y6 T' cs=y6 T cs
 | [],_=>rfl
 | c::r,h=>by
  simp only [y6,PR (h.sub fun m hm=>by simp only [List.flatMap_cons];exact List.mem_append_left _ hm),ze r (h.sub fun m hm=>by simp only [List.flatMap_cons];exact List.mem_append_right _ hm)]
theorem wP:∀ (cs:List Operand) (io:List Nat) (k:Nat),cC (cs.flatMap fun x=>bA T (ρ x)) T T'->jH T' ρ io k cs=jH T ρ io k cs
 | [],_,_,_=>rfl
 | x::r,io,k,h=>by
  have hx:cC (bA T (ρ x)) T T':=h.sub fun m hm=>by simp only [List.flatMap_cons];exact List.mem_append_left _ hm
  obtain⟨h1,h2⟩:=Cb (x:=ρ x) hx;have h3:=wP r io (k+1) (h.sub fun m hm=>by simp only [List.flatMap_cons];exact List.mem_append_right _ hm);have hv:∀ n off,de (ρ x)=some (.ptr n off)->ρ x=.val false [.ptr n off]:=fun n off ho=>by
   unfold de at ho;split at ho
   ·rename_i c hc
    simp only [zaI] at ho;subst ho;exact hc
   ·cases ho
  have h4:∀ n off,de (ρ x)=some (.ptr n off)->an T' n=an T n:=fun n off ho=>hx n (by
   rw [hv n off ho];simp [bA,bq])
  simp only [jH,h1,h2,h3];split
  ·rfl
  ·split
   ·split
    ·rename_i n off ho
     rw [h4 n off ho];split
     ·rename_i cs hT
      rw [ze cs (hx.sub fun m hm=>by rw [hv n off ho];simp only [bA,List.flatMap_cons,List.flatMap_nil,List.append_nil,bq,hT];exact List.mem_cons_of_mem _ hm)]
     ·rfl
    ·rfl
   ·rfl
theorem zg:∀ (cs:List Operand) (io:List Nat) (k:Nat) {ds:List DV} {ns is ms:List Nat},jH T ρ io k cs=some (ds,ns,is,ms)->∀ m ∈ ms,m ∈ cs.flatMap fun x=>bA T (ρ x)
 | [],_,_,ds,ns,is,ms,h=>by simp only [jH,zaI,zbI] at h;obtain⟨_,_,_,rfl⟩:=h;simp
 | x::r,io,k,ds,ns,is,ms,h=>by
  simp only [jH] at h;split at h
  ·cases h
  ·rename_i ds' ns' is' ms' hr
   have ih:=zg r io (k+1) hr;split at h
   ·split at h
    ·split at h
     ·split at h
      ·simp only [zaI,zbI] at h
       obtain⟨_,_,_,rfl⟩:=h;exact fun m hm=>by simp only [List.flatMap_cons];exact List.mem_append_right _ (ih m hm)
      ·cases h
     ·cases h
    ·cases h
   ·split at h
    ·simp only [zaI,zbI] at h
     obtain⟨_,_,_,rfl⟩:=h;intro m hm;simp only [List.flatMap_cons];rcases List.mem_append.1 hm with hm | hm
     ·exact List.mem_append_left _ hm
     ·exact List.mem_append_right _ (ih m hm)
    ·cases h
theorem E1 {c:C}(h:cC (fM c) T T'):i7 T' c=i7 T c:=by
 cases c with
 | ref n=>simp only [i7,h n (by simp [fM])]
 | fn f caps=>cases caps <;> rfl
 | _=>rfl
theorem gS:∀ (cs:List C) {T T':Tab},cC (cs.flatMap fM) T T'->cQ T' cs=cQ T cs
 | [],_,_,_=>rfl
 | c::r,T,T',h=>by
  simp only [cQ,E1 (h.sub fun m hm=>by simp only [List.flatMap_cons];exact List.mem_append_left _ hm)];cases i7 T c with
  | none=>rfl
  | some p=>
   simp only [];rw [gS r ((h.sub fun m hm=>by simp only [List.flatMap_cons];exact List.mem_append_right _ hm).aputs p.2)]
theorem rl {sz:Nat}:∀ (ps:List (Nat × Operand)) {T T':Tab} (rows:List (List DC)) (es:List (Nat × aL)),cC (ps.flatMap fun p=>ki (ρ p.2)) T T' ->
  fo ρ sz T' rows es ps=fo ρ sz T rows es ps
 | [],_,_,_,_,_=>rfl
 | (i,x)::r,T,T',rows,es,h=>by
  simp only [fo];cases hx:hH (ρ x) with
  | none=>rfl
  | some xs=>
   simp only [];rw [gS xs (h.sub fun m hm=>by simp only [List.flatMap_cons,zc hx];exact List.mem_append_left _ hm)];cases cQ T xs with
   | none=>rfl
   | some p=>
    simp only [];split
    ·exact rl r _ _ ((h.sub fun m hm=>by simp only [List.flatMap_cons];exact List.mem_append_right _ hm).aputs p.2)
    ·rfl
theorem oO {x:AV}(h:cC (ki x) T T'):jK T' x=jK T x:=by
 unfold jK;split
 ·rfl
 ·rfl
 ·rename_i n;rw [h n (by simp [ki,fM])]
 ·rename_i n lo hi;rw [h n (by simp [ki,fM])]
 ·rfl
theorem dR:∀ (l:List Nat) {T T':Tab},cC l T T'->aS T' l=aS T l
 | [],_,_,_=>rfl
 | n::r,T,T',h=>by
  have h':cC r T T':=h.sub fun m hm=>List.mem_cons_of_mem _ hm;simp only [aS,h n (by simp)];split
  ·rw [dR r (h'.aput n _)]
  ·rw [dR r (h'.aput n _)]
  ·exact dR r h'
theorem jF:∀ (es:List (Nat × aL)) {T T':Tab},cC (es.map (·.1)) T T'->bS T' es=bS T es
 | [],_,_,_=>rfl
 | p::r,T,T',h=>by
  simp only [bS,h p.1 (by simp),jF r (h.sub fun m hm=>by simp only [List.map_cons];exact List.mem_cons_of_mem _ hm)]
theorem kS {base:Nat}{names:List Nat}{res:List RV}{y:AV}{es:List (Nat × aL)}(h:cC (names++es.map (·.1)) T T')(hc:cH base T names res=some (y,es)) :
  cH base T' names res=some (y,es):=by
 unfold cH at hc ⊢;rw [dR names (h.sub fun m hm=>List.mem_append_left _ hm)];simp only [] at hc ⊢;generalize hf:(if names.isEmpty=true then ([]:List (Nat × aL)) else if (res.any fun r=>r.2.any dz)=true then aS T names else [])=frz at hc ⊢;have hag:cC ((bc base 0 res).2.map (·.1)) (aputs T frz) (aputs T' frz):=by
  split at hc
  ·simp only [zaI,zbI] at hc
   refine (h.sub fun m hm=>List.mem_append_right _ ?_).aputs frz;rw [<- hc.2,List.map_append];exact List.mem_append_right _ hm
  ·cases hc
 rw [jF _ hag];exact hc
theorem Dw {base:Nat}{names ns is:List Nat}{res:List RV}{y:AV}{es:List (Nat × aL)}(h:cC (names++es.map (·.1)) T T')(hc:ek base T names ns is res=some (y,es)) :
  ek base T' names ns is res=some (y,es):=by
 unfold ek at hc ⊢;rw [dR names (h.sub fun m hm=>List.mem_append_left _ hm)];simp only [] at hc ⊢;generalize hf:(if names.isEmpty=true then ([]:List (Nat × aL)) else if (res.any fun r=>r.2.any dz)=true then aS T names else [])=frz at hc ⊢;unfold abG at hc ⊢;split at hc
 ·rename_i bs hbs
  have hag:cC ((bc base 0 res).2.map (·.1)) (aputs T frz) (aputs T' frz):=by
   split at hc
   ·simp only [zaI,zbI] at hc
    refine (h.sub fun m hm=>List.mem_append_right _ ?_).aputs frz;rw [<- hc.2,List.map_append,List.map_append];exact List.mem_append_right _ (List.mem_append_left _ hm)
   ·cases hc
  rw [jF _ hag];exact hc
 ·cases hc
def kX (T:Tab)(ρ:Operand->AV):AOp->List Nat
 | .load _ _ x | .len x | .iaddr _ none x _ | .slice _ _ x _ _ | .view _ x _ _=>ki (ρ x)
 | .store _ x y | .append _ _ x y | .copy _ x y=>ki (ρ x)++ki (ρ y)
 | .bslice _ _ _ ps=>ps.flatMap fun p=>ki (ρ p.2)
 | .ifc _ x=>ki (ρ x)
 | .inv _ _ as=>as.flatMap fun x=>bA T (ρ x)
 | .call _ as=>as.flatMap fun x=>bA T (ρ x)
 | .calld x as=>(match de (ρ x) with | some c=>bq T 4 c | none=>[])++as.flatMap fun x=>bA T (ρ x)
 | _=>[]
theorem cC.none_new {l:List Nat}{es:List (Nat × aL)}(h:cC (l++es.map (·.1)) T T'){n:Nat}{e:aL}(hn:(n,e) ∈ es):an T' n=an T n:=
 h n (List.mem_append_right _ (List.mem_map.2 ⟨_,hn,rfl⟩))
theorem PX {ao:AOp}{y:AV}{es:List (Nat × aL)}(h:cC (kX T ρ ao++es.map (·.1)) T T')(he:eff P E T ρ dst ao=some (y,es)):eff P E T' ρ dst ao=some (y,es):=by
 have hl:cC (kX T ρ ao) T T':=h.sub fun m hm=>List.mem_append_left _ hm;have hx:∀ {x:AV} {c:C},de x=some c->(∀ m ∈ ki x,m ∈ kX T ρ ao)->cC (fM c) T T':=fun h1 h2=>hl.sub fun m hm=>h2 m (by rw [abI h1];exact hm);cases ao
 case alloc z=>
  simp only [eff] at he ⊢;split at he
  ·rename_i hf
   simp only [zaI,zbI] at he;have:=h.none_new (n:=dst) (e:=.box z) (by rw [<- he.2];simp);rw [this,if_pos hf];simp only [zaI,zbI];exact he
  ·cases he
 case box x=>
  simp only [eff] at he ⊢;split at he
  ·rename_i cs hcs
   split at he
   ·rename_i hf
    simp only [zaI,zbI] at he;have:=h.none_new (n:=dst) (e:=.box cs) (by rw [<- he.2];simp);rw [this,if_pos hf];simp only [zaI,zbI];exact he
   ·cases he
  ·cases he
 case bslice s n z ps=>
  simp only [eff] at he ⊢;have hb:cC (ps.flatMap fun p=>ki (ρ p.2)) T T':=hl;rw [rl ps _ _ hb];split at he
  ·rename_i rows es' hgo
   split at he
   ·rename_i hf
    simp only [zaI,zbI] at he;have ha:cC [dst] T T':=h.sub fun m hm=>by
     simp only [List.mem_singleton] at hm;refine List.mem_append_right _ ?_;rw [<- he.2,hm];simp
    have:=(ha.aputs es') dst (by simp);rw [this,if_pos hf];simp only [zaI,zbI];exact he
   ·cases he
  ·cases he
 case load agg sz x=>
  simp only [eff] at he ⊢;split at he <;> rename_i h1
  ·rw [(hx h1 fun m hm=>hm) _ (by simp [fM])];exact he
  ·rw [(hx h1 fun m hm=>hm) _ (by simp [fM])];exact he
  ·exact he
  ·cases he
 case store sz x y=>
  simp only [eff] at he ⊢;split at he
  ·rename_i h1 h2
   rw [(hx h2 fun m hm=>List.mem_append_left _ hm) _ (by simp [fM])];exact he
  ·rename_i ys n i off h1 h2
   have hys:cC (ys.flatMap fM) T T':=hl.sub fun m hm=>List.mem_append_right _ (by rw [zc h1];exact hm);rw [gS ys hys];split at he
   ·rename_i ds es' hf
    have ha:cC [n] T T':=(hx h2 fun m hm=>List.mem_append_left _ hm).sub fun m hm=>by simpa [fM] using hm
    rw [(ha.aputs es') n (by simp)];exact he
   ·cases he
  ·cases he
 case iaddr sz arr x i=>
  cases arr with
  | none=>
   simp only [eff] at he ⊢;split at he <;> rename_i h0 h1
   ·exact he
   ·rw [(hx h1 fun m hm=>hm) _ (by simp [fM])];exact he
   ·cases he
  | some len=>exact he
 case slice sz mv x lo hi=>
  simp only [eff] at he ⊢;split at he <;> rename_i h1
  ·exact he
  ·exact he
  ·rename_i n
   rw [(hx h1 fun m hm=>hm) _ (by simp [fM])];split at he
   ·rename_i s rows h2
    split at he
    ·rename_i l hh h3 h4
     split at he
     ·rename_i hc
      split at he
      ·rename_i hm
       split at he
       ·rename_i hf
        simp only [zaI,zbI] at he;have:=h.none_new (n:=dst) (e:=.own s ((rows.take hh.toNat).drop l.toNat)) (by rw [<- he.2];simp);rw [this];rw [if_pos hc,if_pos hm,if_pos hf];simp only [zaI,zbI];exact he
       ·cases he
      ·rename_i hm
       rw [if_pos hc,if_neg hm];exact he
     ·cases he
    ·cases he
   ·exact he
   ·cases he
  ·cases he
 case mkslice sz bytes z l c=>
  simp only [eff] at he ⊢;split at he
  ·split at he
   ·rename_i hc
    simp only [zaI,zbI] at he;have:=h.none_new (n:=dst) (by rw [<- he.2];exact List.mem_singleton.2 rfl);rw [this,if_pos hc];simp only [zaI,zbI];exact he
   ·cases he
  ·cases he
 case bytes x=>
  simp only [eff] at he ⊢;split at he
  ·split at he
   ·rename_i hf
    simp only [zaI,zbI] at he;have:=h.none_new (n:=dst) (by rw [<- he.2];exact List.mem_singleton.2 rfl);rw [this,if_pos hf];simp only [zaI,zbI];exact he
   ·cases he
  ·cases he
 case len x=>
  simp only [eff] at he ⊢;rw [oO (x:=ρ x) (hl.sub fun m hm=>hm)];exact he
 case append sz bytes x y=>
  simp only [eff] at he ⊢;rw [oO (x:=ρ y) (hl.sub fun m hm=>List.mem_append_right _ hm)];split at he
  ·split at he
   ·split at he
    ·rename_i hc
     simp only [zaI,zbI] at he;have:=h.none_new (n:=dst) (by rw [<- he.2];exact List.mem_singleton.2 rfl);rw [this,if_pos hc];simp only [zaI,zbI];exact he
    ·cases he
   ·rename_i n h1
    rw [(hx h1 fun m hm=>List.mem_append_left _ hm) _ (by simp [fM])];split at he
    ·split at he
     ·rename_i hc
      simp only [zaI,zbI] at he;have:=h.none_new (n:=dst) (by rw [<- he.2];exact List.mem_cons_of_mem _ (List.mem_singleton.2 rfl));rw [this,if_pos hc];simp only [zaI,zbI];exact he
     ·cases he
    ·cases he
   ·cases he
  ·cases he
 case copy sz x y=>
  simp only [eff] at he ⊢;rw [oO (x:=ρ y) (hl.sub fun m hm=>List.mem_append_right _ hm)];cases hone:de (ρ x) with
  | none=>rw [hone] at he;simp only [Option.bind_none] at he;split at he <;> simp_all
  | some c=>
   rw [hone] at he;have hc:=hx hone fun m hm=>List.mem_append_left _ hm;have hp:oF T' c=oF T c:=by
    cases c <;> try rfl
    case ref n=>simp only [oF,hc n (by simp [fM])]
   simp only [Option.bind_some,hp] at he ⊢;split at he
   ·rename_i rows2 n lo hi h1 h2
    have hn:an T' n=an T n:=by
     refine hc n ?_;cases c with
     | ref k=>
      simp only [oF] at h2;split at h2
      ·simp only [zaI,zbI] at h2;obtain⟨rfl,_,_⟩:=h2;simp [fM]
      ·cases h2
     | sub k a b=>simp only [oF,zaI,zbI] at h2;obtain⟨rfl,_,_⟩:=h2;simp [fM]
     | _=>simp [oF] at h2
    rw [hn];exact he
   ·cases he
 case view sz x lo hi=>
  simp only [eff] at he ⊢;split at he <;> rename_i h1
  ·rename_i n
   rw [(hx h1 fun m hm=>hm) _ (by simp [fM])];exact he
  ·cases he
 case call f as=>
  simp only [eff] at he ⊢;obtain⟨h1,h2⟩:=kr as (T:=T) (T':=T') (ρ:=ρ) hl;rw [h1,h2];split at he
  ·split at he
   ·split at he
    ·exact kS h he
    ·cases he
   ·cases he
  ·rw [wP as _ _ (T:=T) (T':=T') (ρ:=ρ) hl]
   split at he
   ·rename_i ds ns is ms hds
    split at he
    ·split at he
     ·refine Dw (h.sub fun m hm=>?_) he
      rcases List.mem_append.1 hm with hm | hm
      ·exact List.mem_append_left _ (zg as _ _ hds m hm)
      ·exact List.mem_append_right _ hm
     ·cases he
    ·cases he
   ·cases he
 case calld x as=>
  simp only [eff] at he ⊢;obtain⟨h1,h2⟩:=kr as (T:=T) (T':=T') (ρ:=ρ) (hl.sub fun m hm=>by simp only [kX];exact List.mem_append_right _ hm);rw [h1,h2];split at he
  ·rename_i c ds hc hds
   obtain⟨h3,h4⟩:=mU (T:=T) (T':=T') 4 c (hl.sub fun m hm=>by simp only [kX,hc];exact List.mem_append_left _ hm);rw [h3,h4];split at he
   ·split at he
    ·refine kS ?_ he
     simp only [kX,hc] at h;exact h
    ·cases he
   ·cases he
  ·cases he
 case ifc t x=>
  simp only [eff] at he ⊢;cases hv:ρ x with
  | tup l=>rw [hv] at he;cases he
  | val b xs=>
   rw [hv] at he;simp only at he ⊢;rw [gS xs (hl.sub fun m hm=>by simp only [kX,hv];exact hm)];exact he
 case inv m x as=>
  simp only [eff] at he ⊢;obtain⟨h1,h2⟩:=kr as (T:=T) (T':=T') (ρ:=ρ) hl;rw [h1,h2];split at he
  ·split at he
   ·split at he
    ·exact kS h he
    ·cases he
   ·cases he
  ·cases he
 all_goals exact he
def yf:AOp->Bool
 | .pure o=>match o.op with
  | .select _ _=>false
  | _=>true
 | _=>true
theorem aeN {ao:AOp}(h:yf ao=true):avb ao:=by
 cases ao <;> try trivial
 case pure o=>
  intro cs b hc;simp [yf,hc] at h
def tW (ops:Array Oper):Option (Nat × Bool)->Option (Option (Nat × Bool))
 | none=>some none
 | some (j,want)=>((ops[j]?).bind (·.dst)).map fun t=>some (t,want)
def B5 (nt:Nat):Option Nat->Bool
 | none=>true
 | some d=>decide (d < nt)
def ajh (o : Oper) : Oper := { dst := none, op := o.op, type := o.type, pos := "", after := #[], guard := none }
theorem al6 {P:Program}{E:Env}{T:Tab}{ρ:Operand->AV}{dst:Nat}{o:Oper}:eff P E T ρ dst (.pure (ajh o))=eff P E T ρ dst (.pure o):=rfl
def Xw (mvs:List Nat)(dst:Option Nat):AOp->AOp
 | .slice s b x lo hi=>match dst with
  | some d=>if mvs.any fun m=>m == d then .slice s true x lo hi else if mvs.any fun m=>m == d+100000 then .view s x lo hi else .slice s b x lo hi
  | none=>.slice s b x lo hi
 | .pure o=>.pure (ajh o)
 | op=>op
def lR (P:Program)(mvs:List Nat)(nt:Nat)(ops:Array Oper)(o:Oper):Option bp:=
 match tW ops o.guard with
 | some gd=>
  let op:=Xw mvs o.dst ((bU P o).getD .bad)
  if B5 nt o.dst && yf op then some ⟨o.dst,op,gd⟩ else none
 | none=>none
def Eb (P:Program)(o:Oper)(ao:AOp):Prop:=
 ao=.bad\/bU P o=some ao\/(∃ s b x lo hi,bU P o=some (.slice s b x lo hi)/\(ao=.slice s true x lo hi\/ao=.view s x lo hi))\/∃ o',bU P o=some (.pure o')/\ao=.pure (ajh o')
def ew (tmps:List (Nat × AV)):Option (Nat × Bool)->Option Bool
 | none=>some true
 | some (t,b)=>match an tmps t with
  | some (.val false [.d (.v (.bool x))])=>some (if b then x else !x)
  | some (.val false [.und])=>some false
  | _=>none
def xm (tmps:List (Nat × AV))(dst:Option Nat)(y:AV):List (Nat × AV):=
 match dst with
 | some d=>(d,y)::tmps
 | none=>tmps
def na (P:Program)(E:Env)(ao:bp)(σ:St):Option (AV × List (Nat × aL)):=
 match ew σ.tmps ao.guard with
 | some true=>eff P E σ.tab (evO σ.tmps) (ao.dst.getD 9999) ao.op
 | some false=>some (.val false [.und],[])
 | none=>none
def bN (σ:St)(dst:Option Nat)(y:AV)(es:List (Nat × aL)):St:=⟨xm σ.tmps dst y,aputs σ.tab es,σ.sv⟩
def vU (P:Program)(E:Env)(ao:bp)(σ:St):Option St:=
 match na P E ao σ with
 | some (y,es)=>some (bN σ ao.dst y es)
 | none=>none
def uS (g:Gh)(T:Tab):Nat->Prop:=fun b=>∃ n,live T n/\g.blk n=some b
section
variable {w0:fC}{N0:Nat->Prop}{g g':Gh}{T T':Tab}{w w':World}
theorem Mem.rebase (hM:Mem w0 N0 g T w):Mem ⟨w,uS g T⟩ N0 g T w:=
 ⟨.refl,hM.ents,hM.inj,fun n b h1 h2=>⟨.inr ⟨n,h1,h2⟩,(hM.rng n b h1 h2).2⟩,fun b hb=>⟨Nat.lt_of_lt_of_le (hM.n0 b hb).1 hM.below.size,fun ⟨n,h1,h2⟩=>by
  have h3:=hM.n0 b hb;exact (hM.rng n b h1 h2).1.elim (fun h=>by omega) h3.2⟩⟩
theorem Mem.unbase' (hM:Mem w0 N0 g T w){O:Nat->Prop}(hO:∀ b,O b->uS g T b\/w0.w.heap.size<=b)(h:Mem ⟨w,O⟩ N0 g' T' w'):Mem w0 N0 g' T' w':=
 ⟨hM.below.trans ⟨h.below.os,h.below.tape,h.below.output,h.below.size,fun k hk ho=>h.below.block k (Nat.lt_of_lt_of_le hk hM.below.size) fun hk'=>by
   rcases hO k hk' with ⟨n,h1,h2⟩ | h1
   ·exact (hM.rng n k h1 h2).1.elim (fun h=>by omega) ho
   ·omega⟩,
  h.ents,h.inj,fun n b h1 h2=>⟨(h.rng n b h1 h2).1.elim (fun hh=>.inl (Nat.le_trans hM.below.size hh)) fun hh=>by
   rcases hO b hh with ⟨m,h3,h4⟩ | h3
   ·exact (hM.rng m b h3 h4).1
   ·exact .inl h3,(h.rng n b h1 h2).2⟩,hM.n0⟩
theorem Mem.unbase (hM:Mem w0 N0 g T w)(h:Mem ⟨w,uS g T⟩ N0 g' T' w'):Mem w0 N0 g' T' w':=
 ⟨hM.below.trans ⟨h.below.os,h.below.tape,h.below.output,h.below.size,fun k hk ho=>h.below.block k (Nat.lt_of_lt_of_le hk hM.below.size) fun ⟨n,h1,h2⟩=>
   (hM.rng n k h1 h2).1.elim (fun h=>by omega) ho⟩,
  h.ents,h.inj,fun n b h1 h2=>⟨(h.rng n b h1 h2).1.elim (fun hh=>.inl (Nat.le_trans hM.below.size hh)) fun ⟨m,h3,h4⟩=>(hM.rng m b h3 h4).1,(h.rng n b h1 h2).2⟩,hM.n0⟩
theorem Mem.not_owned (hM:Mem w0 N0 g T w){b:Nat}{o:Obj}(hb:w.heap[b]?=some o)(ho:o.isCells=false):¬ uS g T b:=by
 rintro ⟨n,h1,h2⟩
 unfold live at h1;cases he:an T n with
 | none=>rw [he] at h1;exact h1
 | some e=>
  rw [he] at h1;have h0:=hM.ents n e he;cases e with
  | box cs=>
   obtain⟨b',cells,t,k1,k2,_⟩:=h0;rw [h2] at k1;simp only [zaI] at k1;subst k1;rw [hb] at k2;simp only [zaI] at k2;subst k2;simp [Obj.isCells] at ho
  | own sz rows=>
   rcases h0.1 with ⟨_,_,k⟩ | ⟨b',off,cap,cells,t,fz,k1,_,k2,_⟩
   ·rw [h2] at k;cases k
   ·rw [h2] at k1
    simp only [zaI] at k1;subst k1;rw [hb] at k2;simp only [zaI] at k2;subst k2;simp [Obj.isCells] at ho
  | imm rows=>exact h1
  | dead=>exact h1
theorem Mem.others (hM:Mem w0 N0 g T w)(h:Mem ⟨w,uS g T⟩ N0 g' T' w'){b:Nat}{o:Obj}(hb:w.heap[b]?=some o)(ho:o.isCells=false):w'.heap[b]?=some o:=by
 have hlt:b < w.heap.size:=(Array.getElem?_eq_some_iff.1 hb).1;rw [h.below.block b hlt (hM.not_owned hb ho),hb]
theorem aX.cells {N N':Nat->Prop}(hs:w.heap.size<=w'.heap.size)(hh:∀ (b o:Nat) (c:Value),w.cell? ⟨b,o,none⟩=some c->w'.cell? ⟨b,o,none⟩=some c)
  (hn:∀ b,b < w.heap.size->N' b->N b) {d:DC} {v:Value} (h:aX w N d v):aX w' N' d v:=by
 induction h with
 | v h=>exact .v h
 | nan h=>exact .nan h
 | nil=>exact .nil
 | @sl rows b off cap sz f hne hN hb hsz hl hcap hc hd ih=>
  exact .sl f hne (fun h=>hN (hn _ hb h)) (Nat.lt_of_lt_of_le hb hs) hsz hl hcap (fun i j hi hj=>hh _ _ _ (hc i j hi hj)) ih
 | fn hl hd ih=>exact .fn hl ih
 | cref f hN hb hc hd ih=>exact .cref f (fun h=>hN (hn _ hb h)) (Nat.lt_of_lt_of_le hb hs) (fun j hj=>hh _ _ _ (hc j hj)) ih
 | ifc xs hx hl hd ih=>exact .ifc xs hx hl ih
theorem Mem.putObj (hM:Mem w0 N0 g T w){l:Nat}{o o':Obj}(hl:w.heap[l]?=some o)(ho:o.isCells=false)(hown:w0.w.heap.size<=l\/w0.own l):Mem w0 N0 g T (w.putObj l o')/\bg N0 g T w g T (w.putObj l o'):=by
 have hcell:∀ (b o:Nat) (c:Value),w.cell? ⟨b,o,none⟩=some c->(w.putObj l o').cell? ⟨b,o,none⟩=some c:=by
  intro b k c hc;by_cases hb:b=l
  ·subst hb
   simp only [World.cell?,hl] at hc;cases o <;> simp_all [Obj.isCells]
  ·simpa [World.cell?,World.putObj_heap_other hb] using hc
 have hK:bg N0 g T w g T (w.putObj l o'):=⟨fun d v h=>h.cells (by simp) hcell (fun _ _ h=>h),fun _ h=>h,fun _ _=>⟨rfl,rfl,rfl⟩⟩
 have hno:=hM.not_owned hl ho;refine⟨hM.upd ⟨rfl,rfl,rfl,by simp,fun k hk hk'=>World.putObj_heap_other fun e=>?_⟩ hK (fun m e he=>.inl ⟨he,fun b hlv hb=>World.putObj_heap_other fun e=>hno ⟨m,hlv,e ▸ hb⟩⟩) hM.inj (fun n b h1 h2=>by simpa using hM.rng n b h1 h2),hK⟩;subst e;rcases hown with h | h
 ·omega
 ·exact hk' h
theorem Mem.grow (hM:Mem w0 N0 g T w)(h:Below w.heap.size w w'):Mem w0 N0 g T w'/\bg N0 g T w g T w':=by
 have hK:bg N0 g T w g T w':=bg.of h.size (fun b hb _=>h.block b hb) (fun _ _ h=>h) (fun _ h=>h) fun _ _=>⟨rfl,rfl,rfl⟩
 exact⟨hM.upd (.of h hM.below.size) hK (fun m e he=>.inl ⟨he,fun b hlv hb=>h.block b (hM.rng m b hlv hb).2⟩) hM.inj (fun n b h1 h2=>⟨(hM.rng n b h1 h2).1,Nat.lt_of_lt_of_le (hM.rng n b h1 h2).2 h.size⟩),hK⟩
end
def zl (w0:fC)(svv:Array Value)(l:List Deferred)(w:World):Prop:=
 l.Nodup/\(0 < svv.size->l=[])/\∀ d ∈ l,∃ D,d={ target:=.collected D,args:=#[] }/\w0.w.heap.size<=D/\w.heap[D]?=some (.deferred (some []))
def Rel (w0:fC)(N0:Nat->Prop)(nt:Nat)(svv:Array Value)(σ:St)(a:Act)(w:World):Prop:=
 ∃ g,Mem w0 N0 g σ.tab w/\dw w (aB N0 g σ.tab) g σ.tab σ.tmps a.tmps/\a.tmps.size=nt/\zl w0 svv a.defers w/\dw w (aB N0 g σ.tab) g σ.tab σ.sv svv
variable {P:Program}{E:Env}{w0:fC}{w w':World}{N0:Nat->Prop}{g g':Gh}{T T':Tab}{r:Option Nat}{n nt:Nat}{mvs:List Nat}{svv:Array Value}{o:Oper}{a:Act}{σ σ':St}{ops:Array Oper} {ao:bp} {y:AV} {es:List (Nat × aL)}
theorem zl.mono {l:List Deferred}(h:zl w0 svv l w)(hk:∀ (b:Nat) (o:Obj),w.heap[b]?=some o->o.isCells=false->w'.heap[b]?=some o):zl w0 svv l w':=
 ⟨h.1,h.2.1,fun d hd=>by obtain⟨D,h1,h2,h3⟩:=h.2.2 d hd;exact⟨D,h1,h2,hk _ _ h3 rfl⟩⟩
theorem dw.put {tmps:List (Nat × AV)}{vals:Array Value}{N:Nat->Prop}(h:dw w N g T tmps vals){d:Nat}{y:AV}{v:Value}(hd:d < vals.size)(hv:aT w N g T y v) :
  dw w N g T ((d,y)::tmps) (vals.setIfInBounds d v):=by
 intro t x hx;simp only [an] at hx;split at hx
 ·rename_i ht
  simp only [zaI] at hx;subst hx;subst ht;simpa [Array.getD,hd] using hv
 ·rename_i ht
  have:=h t x hx;rw [Array.getD_eq_getD_getElem?,Array.getElem?_setIfInBounds_ne ht,<- Array.getD_eq_getD_getElem?];exact this
theorem Rel.put (hM:Mem w0 N0 g T w)(hs:dw w (aB N0 g T) g T σ.tmps a.tmps)(hsz:a.tmps.size=nt)(hds:zl w0 svv a.defers w){dst:Option Nat}(hd:B5 nt dst=true){y:AV}{v:Value}
  (hv:aT w (aB N0 g T) g T y v) (hs2:dw w (aB N0 g T) g T σ.sv svv):Rel w0 N0 nt svv ⟨xm σ.tmps dst y,T,σ.sv⟩ (a.put dst v) w:=by
 cases dst with
 | none=>exact⟨g,hM,hs,hsz,hds,hs2⟩
 | some d=>
  simp only [B5,decide_eq_true_eq] at hd;exact⟨g,hM,hs.put (by omega) hv,by simpa [Act.put] using hsz,hds,hs2⟩
theorem Bn {mvs:List Nat}{dst:Option Nat}{o:Oper}:Eb P o (Xw mvs dst ((bU P o).getD .bad)):=by
 cases hc:bU P o with
 | none=>exact .inl rfl
 | some op=>
  simp only [Option.getD_some];unfold Xw;split
  ·split
   ·split
    ·exact .inr (.inr (.inl ⟨_,_,_,_,_,hc,.inl rfl⟩))
    ·split
     ·exact .inr (.inr (.inl ⟨_,_,_,_,_,hc,.inr rfl⟩))
     ·exact .inr (.inl hc)
   ·exact .inr (.inl hc)
  ·exact .inr (.inr (.inr ⟨_,hc,rfl⟩))
  ·exact .inr (.inl hc)
theorem kP (h:lR P mvs nt ops o=some ao):Eb P o ao.op/\tW ops o.guard=some ao.guard/\B5 nt o.dst=true/\ao.dst=o.dst/\yf ao.op=true:=by
 unfold lR at h;split at h
 ·rename_i gd h2
  simp only [] at h;split at h
  ·rename_i h3
   simp only [Bool.and_eq_true] at h3;simp only [zaI] at h;subst h;exact⟨Bn,h2,h3.1,rfl,h3.2⟩
  ·cases h
 ·cases h
theorem rp {s:Nat}{b:Bool}{x:Operand}{lo hi:Option Operand}(h:bU P o=some (.slice s b x lo hi)) :
  ∃ t e,o.op=.slice t x lo hi none/\P.underlying t=some (.slice e)/\bL P e=some s:=by
 cases ho:o.op
 case slice t y l u mx=>
  cases mx with
  | some m=>simp [bU,ho] at h
  | none=>
   simp only [bU,ho] at h;split at h
   ·rename_i e hu
    simp only [Option.map_eq_some_iff,AOp.slice.injEq] at h;obtain⟨s',h1,rfl,_,rfl,rfl,rfl⟩:=h;exact⟨t,e,rfl,hu,h1⟩
   ·simp at h
   ·split at h
    ·simp at h
    ·cases h
   ·cases h
 case call c=>
  exfalso;simp only [bU,ho] at h;unfold gv at h
  repeat' split at h
  all_goals simp at h
 all_goals (exfalso;simp only [bU,ho] at h)
 case makeFunc fn first caps=>cases fn <;> simp at h <;> split at h <;> simp at h
 case build t ps=>
  repeat' split at h
  all_goals (try (simp at h;done))
  all_goals (simp only [Option.map_eq_some_iff,Option.bind_eq_some_iff] at h;obtain⟨_,_,_,_,h⟩:=h;cases h)
 all_goals (repeat' split at h)
 all_goals (try (simp at h;done))
 all_goals (try (simp only [Option.map_eq_some_iff] at h;obtain⟨_,_,h⟩:=h;cases h))
theorem WG {ρ:Operand->AV}{dst:Nat}(hE:dy P E)(hM:Mem w0 N0 g T w)(hρ:∀ x,aT w (aB N0 g T) g T (ρ x) (a.eval x)){aop:AOp}(hc:Eb P o aop)
  (he:eff P E T ρ dst aop=some (y,es)):bj r n P o a w (Res w0 N0 g T w y es):=by
 rcases hc with rfl | hc | ⟨s,b,x,lo,hi,hc,rfl | rfl⟩ | ⟨o',hc,rfl⟩
 ·cases he
 ·exact ad0 hE hM hρ hc he
 ·obtain⟨t,e,h1,h2,h3⟩:=rp hc
  exact NG hM hρ h1 h2 h3 he
 ·obtain⟨t,e,h1,h2,h3⟩:=rp hc
  exact ao3 hM hρ h1 h2 h3 he
 ·exact ad0 hE hM hρ hc (by rw [<- al6];exact he)
theorem qT {tmps:List (Nat × AV)}(hs:dw w (aB N0 g T) g T tmps a.tmps)(hsz:a.tmps.size=nt)(hnt:∀ d,((∃ j:Nat,((ops[j]?).bind (·.dst))=some d)->d < nt)){og:Option (Nat × Bool)}{gd:Option (Nat × Bool)}
  (hg:tW ops og=some gd) {b:Bool} (hw:ew tmps gd=some b) {o:Oper} (ho:o.guard=og):Region.wanted o (yielded ops a.tmps)=b:=by
 unfold Region.wanted;rw [ho];cases og with
 | none=>
  simp only [tW,zaI] at hg;subst hg;simp only [ew,zaI] at hw;exact hw
 | some p=>
  obtain⟨j,want⟩:=p;simp only [tW,Option.map_eq_some_iff] at hg;obtain⟨t,ht,rfl⟩:=hg;have htn:=hnt t ⟨j,ht⟩;have hget:a.tmps[t]?=some (a.tmps.getD t undef):=by simp [Array.getD,hsz,htn]
  simp only [yielded,ht,Option.bind_some,hget];simp only [ew] at hw;split at hw
  ·rename_i x hx
   simp only [zaI] at hw;obtain⟨c,h1,h2⟩:=hs t _ hx;simp only [List.cons.injEq,and_true] at h1;subst h1;rw [(Ig h2).1,<- hw];cases x <;> cases want <;> simp
  ·rename_i hx
   simp only [zaI] at hw;obtain⟨c,h1,h2⟩:=hs t _ hx;simp only [List.cons.injEq,and_true] at h1;subst h1;rw [show a.tmps.getD t undef=undef from h2,<- hw];simp [undef]
  ·cases hw
def m7 (nt:Nat)(ops:Array Oper):Bool:=ops.toList.all fun o=>B5 nt o.dst
theorem kq (h:m7 nt ops=true):∀ d,((∃ j:Nat,((ops[j]?).bind (·.dst))=some d)->d < nt):=by
 rintro d ⟨j,hj⟩
 cases ho:ops[j]? with
 | none=>simp [ho] at hj
 | some o=>
  simp only [ho,Option.bind_some] at hj;have:=List.all_eq_true.1 h o (by obtain⟨h1,h2⟩:=Array.getElem?_eq_some_iff.1 ho;rw [<- h2];simp);rw [hj] at this;simpa [B5] using this
theorem MW (hE:dy P E)(hc:lR P mvs nt ops o=some ao)(hds:m7 nt ops=true){i:Nat}(hi:ops[i]?=some o)(hR:Rel w0 N0 nt svv σ a w)(hs:vU P E ao σ=some σ')
  {K:Act->World->Prop} {Q:Exit->Act->World->Prop} (hK:∀ a' w',Rel w0 N0 nt svv σ' a' w'->K a' w'):wpOpIn (Fw r) n P ops Q i K a w:=by
 obtain⟨g,hM,hS,hsz,hdf,hS2⟩:=hR;obtain⟨h1,h2,h3,h4,h5⟩:=kP hc;unfold vU at hs;split at hs
 ·rename_i y es hout
  simp only [zaI] at hs;subst hs;unfold na at hout;split at hout
  ·rename_i hw
   have hwant:=qT hS hsz (kq hds) h2 hw rfl;have hok:=WG (r:=r) (n:=n) hE hM.rebase (fun x=>gI hS x) h1 hout;unfold wpOpIn;simp only [hi];rw [if_pos hwant];refine hok K Q ?_
   rintro v w' ⟨g',hM',hKp,hv⟩
   refine hK _ _ ?_;unfold bN;rw [h4];refine Rel.put (σ:=σ) (w0:=w0) (N0:=N0) (g:=g') (T:=aputs σ.tab es) (hM.unbase hM') (fun t x hx=>hKp.a (hS t x hx)) hsz (zl.mono hdf fun b o=>hM.others hM') h3 hv (fun t x hx=>hKp.a (hS2 t x hx))
  ·rename_i hw
   simp only [zaI,zbI] at hout;obtain⟨rfl,rfl⟩:=hout;have hwant:=qT hS hsz (kq hds) h2 hw rfl;unfold wpOpIn;simp only [hi];rw [if_neg (by rw [hwant];simp)];refine⟨fun _ _=>trivial,hK _ _ ?_⟩;unfold bN;rw [h4];exact Rel.put (σ:=σ) (w0:=w0) (N0:=N0) (g:=g) (T:=aputs σ.tab []) hM hS hsz hdf h3 ⟨_,rfl,rfl⟩ hS2
  ·cases hout
 ·cases hs
def rR (P:Program)(E:Env):List bp->St->Option St
 | [],σ=>some σ
 | ao::l,σ=>match vU P E ao σ with
  | some σ'=>rR P E l σ'
  | none=>none
def cN (P:Program)(mvs:List Nat)(nt:Nat)(ops:Array Oper):List Oper->Option (List bp)
 | []=>some []
 | o::l=>match lR P mvs nt ops o,cN P mvs nt ops l with
  | some ao,some as=>some (ao::as)
  | _,_=>none
theorem We (hE:dy P E)(hds:m7 nt ops=true){Q:Exit->Act->World->Prop}:∀ (l:List Oper) (as:List bp) (k:Nat) (σ:St) (a:Act) (w:World),cN P mvs nt ops l=some as->(∀ j,l[j]?=ops[k+j]?) ->
  Rel w0 N0 nt svv σ a w->rR P E as σ=some σ'->(∀ a' w',Rel w0 N0 nt svv σ' a' w'->Q .normal a' w')->wpOpsIn (Fw r) n P ops Q (List.range' k l.length) a w
 | [],as,k,σ,a,w,hc,hl,hR,hs,hQ=>by
  simp only [cN,zaI] at hc;subst hc;simp only [rR,zaI] at hs;subst hs;exact hQ a w hR
 | o::l,as,k,σ,a,w,hc,hl,hR,hs,hQ=>by
  simp only [cN] at hc;split at hc
  ·rename_i ao as' h1 h2
   simp only [zaI] at hc;subst hc;simp only [rR] at hs;split at hs
   ·rename_i σ1 h3
    have h0:ops[k]?=some o:=by simpa using (hl 0).symm
    rw [List.length_cons,List.range'_succ,wpOpsIn_cons];exact MW hE h1 hds h0 hR h3 fun a' w' hR'=>We hE hds l as' (k+1) σ1 a' w' h2 (fun j=>by have:=hl (j+1);simpa [Nat.add_assoc,Nat.add_comm 1 j] using this) hR' hs hQ
   ·cases hs
  ·cases hc
theorem ZB (hE:dy P E)(hds:m7 nt ops=true){as:List bp}(hc:cN P mvs nt ops ops.toList=some as){id:Nat}{Q:Exit->Act->World->Prop}(hR:Rel w0 N0 nt svv σ a w)(hs:rR P E as σ=some σ')
  (hQ:∀ a' w',Rel w0 N0 nt svv σ' a' w'->Q .normal a' w'):(Code.region id ops false).wpIn (Fw r) n P Q a w:=
 wpIn_region (by
  have:=We (r:=r) (n:=n) hE hds ops.toList as 0 σ a w hc (by simp) hR hs hQ;rw [List.range_eq_range'];simpa using this)
end Go.AM
