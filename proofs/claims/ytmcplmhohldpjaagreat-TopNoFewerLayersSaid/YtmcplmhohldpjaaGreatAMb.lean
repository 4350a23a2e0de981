/- Texts of one kind, put together. -/
import Derived.Test.YtmcplmhohldpjaaGreatAMa
import Derived.Lib.ConvBytes
import Derived.RangeFuncFrom
import Derived.RangeFuncLeaves
import Derived.OrdersIn
namespace Go.AM
open Go.RowKit
variable {P:Program}{E:Env}{w0:fi P}{w w':World}{N0:Nat->Prop}{g g':Gh}{T T':Tab}{r:Option Nat}{n:Nat}{o:Oper}{a:Act}{ρ:Operand->AV}{dst:Nat}
 {y:AV} {es:List (Nat × aD)}
theorem fU (P:Program)(b o:Nat)(t:TypeId)(fz:Nat × Nat):∀ (vs:List Value) (i:Nat) (cur:Array Value) (w:World),w.heap[b]?=some (.cells cur t fz)->o+i+vs.length<=cur.size ->
  (∀ j,j < vs.length->(decide (fz.1<=o+i+j) && decide (o+i+j < fz.2))=false)->(∀ v ∈ vs,v.oneCell'=true) ->
  (storeCells ⟨b,o,none⟩ vs i).run P w=.ok () (w.setRow b (splice cur.toList (o+i) vs).toArray)
 | [],i,cur,w,hg,_,_,_=>by
  simp only [storeCells,splice,List.append_nil,List.length_nil,Nat.add_zero,List.take_append_drop,Array.toArray_toList]
  rw [setRow_self w b cur t fz hg]
  rfl
 | v::rest,i,cur,w,hg,hl,hf,h1=>by
  have hi:o+i < cur.size:=by simp at hl;omega
  have hcell:w.cell? ⟨b,o+i,none⟩=some cur[o+i]:=by simp [World.cell?,hg,hi]
  have hfro:w.frozen? ⟨b,o+i,none⟩=false:=by
   have:=hf 0 (by simp)
   simp only [World.frozen?,hg]
   simpa using this
  have hst:(store ((⟨b,o,none⟩:Addr).add i) v).run P w=.ok () (w.setRow b (cur.setIfInBounds (o+i) v)):=by
   rw [fq,run_store P w _ v _ (h1 v (by simp)),hcell]
   simp [hfro,setCell_eq_setRow w b (o+i) cur t fz v hg]
  have ih:=fU P b o t fz rest (i+1) (cur.setIfInBounds (o+i) v) (w.setRow b (cur.setIfInBounds (o+i) v)) (setRow_heap w b cur _ t fz hg) (by simp at hl ⊢;omega)
   (fun j hj=>by have:=hf (j+1) (by simp;omega);rwa [show o+i+(j+1)=o+(i+1)+j by omega] at this) (fun x hx=>h1 x (by simp [hx]))
  simp only [storeCells,Sem.run_bind,hst,Result.andThen_ok,ih,setRow_setRow]
  congr 2
  have:=list_seg_step cur.toList (o+i) v rest (by simp at hl ⊢;omega)
  simp only [splice,Array.toList_setIfInBounds,List.length_cons]
  rw [show o+(i+1)=o+i+1 by omega]
  rw [this]
theorem jm (w:World)(b:Nat)(cs:Array Value):w.grownBy (w.setRow b cs) (some b):=
 ⟨rfl,rfl,rfl,by simp,fun k _ hk=>setRow_other w b k cs (fun h=>hk (by rw [h]))⟩
theorem qM {t:TypeId}{x z:Operand}(ho:o.op=.store t x z){s b off:Nat}(hs:bH P t=some s)(hx:a.eval x=.pointer (some ⟨b,off,none⟩))(hsz:(a.eval z).cells.size=s){cur:Array Value}{te:TypeId}{fz:Nat × Nat}
  (hg:w.heap[b]?=some (.cells cur te fz)) (hl:off+s<=cur.size) (hf:∀ j,j < s->(decide (fz.1<=off+j) && decide (off+j < fz.2))=false) (h1:∀ v ∈ (a.eval z).cells.toList,v.oneCell'=true) :
  (execOp a.eval o).run P w=.ok .skip (w.setRow b (splice cur.toList off (a.eval z).cells.toList).toArray):=by
 have:=fU P b off te fz (a.eval z).cells.toList 0 cur w hg (by simp [hsz];omega) (fun j hj=>by simpa using hf j (by simpa [hsz] using hj)) h1
 simp only [Nat.add_zero] at this
 simp only [execOp,ho,Instr.storeAt,hx,Instr.sureAddr,Sem.run_bind,Sem.run_pure,Result.andThen_ok,storeVar,cv hs]
 rw [if_neg (by simpa using hsz)]
 simp [this]
theorem TK (hM:Mem w0 N0 g T w)(hρ:∀ x,aJ w (am N0 g T) g T (ρ x) (a.eval x)){t:TypeId}{x z:Operand}{s:Nat}(ho:o.op=.store t x z)(hs:bH P t=some s)
  (he:eff P E T ρ dst (.store s x z)=some (y,es)):aQ r n P o a w (Res w0 N0 g T w y es):=by
 have hd:∀ c,o.op ≠ .defer c:=fun c h=>by rw [ho] at h;cases h
 simp only [eff] at he
 split at he
 ·rename_i ys m off hy hx
  obtain⟨_,b,hb,hv⟩:=aM (hρ x) hx
  split at he
  ·rename_i cs hm
   split at he
   ·rename_i hcond
    obtain⟨h1,h2,h3⟩:=hcond
    simp only [Option.some.injEq,Prod.mk.injEq] at he
    obtain⟨rfl,rfl⟩:=he
    obtain⟨b',cells,t',k1,k2,k3,k4,k5⟩:=hM.box hm
    rw [hb] at k1
    simp only [Option.some.injEq] at k1
    subst k1
    obtain⟨bb,hvz⟩:=i9 (hρ z) hy
    obtain⟨c1,c2,c3⟩:=hvz.cells h3
    have hl:live T m:=by unfold live;rw [hm];trivial
    have hrun:=qM (w:=w) ho hs hv (by rw [c1,h1]) k2 (by omega) (fun j _=>by simp) c3
    have hfit:off+ys.length<=cs.length:=by omega
    obtain⟨q1,q2⟩:=hM.write (e:=.box (splice cs off ys)) hl hb trivial (jm w b _) (by simp) (fun hK=>by
     have hrel:dH w (am N0 g T) g T (splice cs off ys) (splice cells.toList off (a.eval z).cells.toList):=
      dH.splice ⟨by simpa using k3,fun i c x hc hx=>k4 i c x hc (by simpa using hx)⟩ ⟨by simpa using c1,fun i c x hc hx=>c2 i c x hc (by simpa using hx)⟩ hfit
     exact⟨b,(splice cells.toList off (a.eval z).cells.toList).toArray,t',hb,setRow_heap w b cells _ t' _ k2,by rw [List.size_toArray];exact hrel.1,fun i c x hc hx=>hK.c (hrel.2 i c x hc (by rw [List.getElem?_toArray] at hx;exact hx)),kK (HP (xm k5) h3 hfit)⟩)
    exact aQ.skip hd hrun ⟨g,q1,q2,_,rfl,rfl⟩
   ·cases he
  ·cases he
 ·rename_i ys m i off hy hx
  obtain⟨hsome,b,o',len,cap,hsv,hv⟩:=aM (hρ x) hx
  split at he
  ·rename_i ds fs hfz
   split at he
   ·rename_i s' rows hm
    split at he
    ·rename_i hcond
     obtain⟨h1,h2,h3⟩:=hcond
     simp only [Option.some.injEq,Prod.mk.injEq] at he
     obtain⟨rfl,rfl⟩:=he
     obtain⟨bb,hvz⟩:=i9 (hρ z) hy
     have hok:mL ys=true:=by
      refine xm fun j c hc=>?_
      have:∀ {cs:List C} {T:Tab} {ds:List DC} {es:List (Nat × aD)},cF T cs=some (ds,es)->∀ (j:Nat) (c:C),cs[j]?=some c->okC c=true:=by
       intro cs
       induction cs with
       | nil=>intro T ds es _ j c hc;simp at hc
       | cons c0 cr ih=>
        intro T ds es hf j c hc
        simp only [cF] at hf
        split at hf
        ·cases hf
        ·rename_i d e' h3
         split at hf
         ·cases hf
         ·rename_i ds' es' h4
          cases j with
          | zero=>
           simp at hc;subst hc
           cases c0 <;> first | rfl | (simp [gQ] at h3)
          | succ j=>exact ih h4 j c (by simpa using hc)
      exact this hfz j c hc
     obtain⟨c1,c2,c3⟩:=hvz.cells hok
     obtain⟨m1,m2,m3,m4⟩:=g9 hM (xs:=(a.eval z).cells.toList) ⟨by simpa using c1,fun j c u hc hu=>c2 j c u hc (by simpa using hu)⟩ hfz
     obtain⟨hso,hst⟩:=m1.ents m _ hm
     have hl:live (aputs T fs) m:=by unfold live;rw [hm];trivial
     rcases hso with ⟨_,hr,_⟩ | ⟨b',off',cap',cells,t',fz,k1,k2,k3,k4,k5,k6,k7,k8,k9,k10⟩
     ·subst hr;simp at h2
     ·rw [hsv] at k2
      simp only [Value.slice.injEq,Option.some.injEq,Addr.mk.injEq,and_true] at k2
      obtain⟨⟨rfl,rfl⟩,hlen,rfl⟩:=k2
      have hrow:=k8 _ (List.mem_of_getElem? (lm h2))
      have hin:i*s'+s'<=cap*s':=by
       have:(i+1)*s'<=cap*s':=Nat.mul_le_mul_right _ (by omega)
       rwa [Nat.add_mul,Nat.one_mul] at this
      rw [hst] at hv
      have hrun:=qM (w:=w) ho hs hv (by rw [c1,h1]) k3 (by omega) (fun j hj=>k7 _ (by omega) (by omega)) c3
      have hlz:(a.eval z).cells.toList.length=s:=by simp [c1,h1]
      have hfit:o'+i*s'+off+(a.eval z).cells.toList.length<=cells.toList.length:=by rw [hlz];simp;omega
      have hds:ds.length=s:=by rw [m3,h1]
      obtain⟨q1,q2⟩:=m1.write (e:=.own s' (rows.set i (splice (cV rows i) off ds))) hl k1 trivial (jm w b _) (by simp) (fun hK=>by
       refine⟨.inr ⟨b,o',cap,(splice cells.toList (o'+i*s'+off) (a.eval z).cells.toList).toArray,t',fz,k1,by rw [hsv,hlen];simp,setRow_heap w b cells _ t' _ k3,by simpa using k4,k5,by rw [List.size_toArray,eM hfit];simpa using k6,k7,fun r hr=>?_,k9,fun p j r d hr hdd=>?_⟩,hst⟩
       ·rcases List.mem_or_eq_of_mem_set hr with hr | rfl
        ·exact k8 r hr
        ·rw [eM (by omega),hrow]
       ·have hget:(splice cells.toList (o'+i*s'+off) (a.eval z).cells.toList).toArray[o'+p*s'+j]?=if o'+i*s'+off<=o'+p*s'+j/\o'+p*s'+j < o'+i*s'+off+s then (a.eval z).cells.toList[o'+p*s'+j - (o'+i*s'+off)]? else cells[o'+p*s'+j]?:=by
         rw [List.getElem?_toArray,fV hfit,hlz]
         simp only [Array.getElem?_toList]
        rw [hget]
        rw [List.getElem?_set] at hr
        by_cases hp:i=p
        ·subst hp
         simp only [h2,if_true,Option.some.injEq] at hr
         subst hr
         rw [fV (by omega),hds] at hdd
         by_cases hj:off<=j/\j < off+s
         ·rw [if_pos hj] at hdd
          rw [if_pos (by omega),show o'+i*s'+j - (o'+i*s'+off)=j - off by omega]
          obtain⟨u,hu⟩:∃ u,(a.eval z).cells.toList[j - off]?=some u:=⟨(a.eval z).cells.toList[j - off]'(by omega),by simp⟩
          exact⟨u,hu,hK.d _ _ (m4 _ d u hdd hu)⟩
         ·rw [if_neg hj] at hdd
          rw [if_neg (by omega)]
          obtain⟨c,hc,hx⟩:=k10 i j _ d (lm h2) hdd
          exact⟨c,hc,hK.d _ _ hx⟩
        ·simp only [hp,if_false] at hr
         have hjl:j < s':=by rw [<- k8 r (List.mem_of_getElem? hr)];exact (List.getElem?_eq_some_iff.1 hdd).1
         rw [if_neg]
         ·obtain⟨c,hc,hx⟩:=k10 p j r d hr hdd
          exact⟨c,hc,hK.d _ _ hx⟩
         ·intro ⟨e1,e2⟩
          exact Xp (Ne.symm hp) hjl (m:=p*s'+j - i*s') (by omega) (by omega))
      exact aQ.skip hd hrun (Res.trans m2 ⟨g,q1,q2,_,rfl,rfl⟩)
    ·cases he
   ·cases he
  ·cases he
 ·cases he
end Go.AM

namespace Go.AM
open Go.RowKit
variable {P:Program}{E:Env}{w0:fi P}{w w':World}{N0:Nat->Prop}{g g':Gh}{T T':Tab}{r:Option Nat}{n:Nat}{o:Oper}{a:Act}{ρ:Operand->AV}{dst:Nat}
 {y:AV} {es:List (Nat × aD)}
theorem cS.append {N:Nat->Prop}{sz:Nat}{rows rows2:List (List DC)}{A B:List Value}(h:cS w N sz rows A)(k:cS w N sz rows2 B):cS w N sz (rows++rows2) (A++B):=by
 refine⟨by simp [h.1,k.1,Nat.add_mul],fun r hr=>?_,fun i j r d hr hd=>?_⟩
 ·rcases List.mem_append.1 hr with hr | hr
  ·exact h.2.1 r hr
  ·exact k.2.1 r hr
 ·rw [List.getElem?_append] at hr
  split at hr
  ·rename_i hi
   have hj:j < sz:=by rw [<- h.2.1 r (List.mem_of_getElem? hr)];exact (List.getElem?_eq_some_iff.1 hd).1
   obtain⟨c,hc,hx⟩:=h.2.2 i j r d hr hd
   rw [List.getElem?_append_left (by rw [h.1];exact AW hi hj)]
   exact⟨c,hc,hx⟩
  ·rename_i hi
   obtain⟨c,hc,hx⟩:=k.2.2 (i - rows.length) j r d hr hd
   have e:i*sz+j - A.length=(i - rows.length)*sz+j:=by
    rw [h.1]
    have:i*sz=rows.length*sz+(i - rows.length)*sz:=by rw [<- Nat.add_mul];congr 1;omega
    omega
   rw [List.getElem?_append_right (by rw [h.1];have:=Nat.mul_le_mul_right sz (show rows.length<=i by omega);omega),e]
   exact⟨c,hc,hx⟩
theorem cS.one {N:Nat->Prop}{sz:Nat}{rows:List (List DC)}{A:List Value}(h:cS w N sz rows A)(h0:0 < sz):∀ v ∈ A,v.oneCell'=true:=by
 intro v hv
 obtain⟨k,hk⟩:=List.mem_iff_getElem?.1 hv
 have hlt:k < rows.length*sz:=by rw [<- h.1];exact (List.getElem?_eq_some_iff.1 hk).1
 have hi:k / sz < rows.length:=Nat.div_lt_of_lt_mul (by rw [Nat.mul_comm];exact hlt)
 have hj:k % sz < sz:=Nat.mod_lt _ h0
 have hr:rows[k / sz]?=some rows[k / sz]:=by simp [hi]
 have hlen:=h.2.1 _ (List.mem_of_getElem? hr)
 have hd:rows[k / sz][k % sz]?=some (rows[k / sz][k % sz]'(by omega)):=by simp
 obtain⟨c,hc,hx⟩:=h.2.2 _ _ _ _ hr hd
 rw [Nat.mul_comm,Nat.div_add_mod,hk] at hc
 simp only [Option.some.injEq] at hc
 subst hc
 exact hx.one
theorem Cz {N:Nat->Prop}{sz:Nat}{rows:List (List DC)}{b off:Nat}(h0:0 < sz)(hl:∀ r ∈ rows,r.length=sz)
  (hc:∀ (i j:Nat) (r:List DC) (d:DC),rows[i]?=some r->r[j]?=some d->∃ c,w.cell? ⟨b,off+i*sz+j,none⟩=some c/\aH w N d c) :
  ∃ A:Array Value,(loadCells ⟨b,off,none⟩ (rows.length*sz)).run P w=.ok A w/\cS w N sz rows A.toList:=by
 have key:∀ k,k < rows.length*sz->∃ r d,rows[k / sz]?=some r/\r[k % sz]?=some d:=fun k hk=>by
  have hi:k / sz < rows.length:=Nat.div_lt_of_lt_mul (by rw [Nat.mul_comm];exact hk)
  have hj:k % sz < sz:=Nat.mod_lt _ h0
  have hr:rows[k / sz]?=some rows[k / sz]:=by simp [hi]
  have hlen:=hl _ (List.mem_of_getElem? hr)
  exact⟨_,_,hr,by rw [List.getElem?_eq_getElem (by omega)]⟩
 have hcell:∀ k,k < rows.length*sz->∃ c,w.cell? ⟨b,off+k,none⟩=some c:=fun k hk=>by
  obtain⟨r,d,hr,hd⟩:=key k hk
  obtain⟨c,hc,_⟩:=hc _ _ r d hr hd
  rw [Nat.add_assoc,Nat.mul_comm,Nat.div_add_mod] at hc
  exact⟨c,hc⟩
 refine⟨((List.range (rows.length*sz)).map fun k=>(w.cell? ⟨b,off+k,none⟩).getD undef).toArray,?_,by simp,hl,fun i j r d hr hd=>?_⟩
 ·refine run_loadCells w _ _ _ fun j hj=>?_
  obtain⟨c,hc⟩:=hcell j hj
  rw [fq,hc];rfl
 ·have hi:=(List.getElem?_eq_some_iff.1 hr).1
  have hj:j < sz:=by rw [<- hl r (List.mem_of_getElem? hr)];exact (List.getElem?_eq_some_iff.1 hd).1
  obtain⟨c,hc,hx⟩:=hc i j r d hr hd
  refine⟨c,?_,hx⟩
  have hlt:=AW hi hj
  rw [Nat.add_assoc] at hc
  simp [hlt,hc]
theorem fZ (hM:Mem w0 N0 g T w){x:AV}{rows:List (List DC)}{v:Value}{sz:Nat}(h0:0 < sz)(hx:aJ w (am N0 g T) g T x v)(h:kE T x=some rows)(hall:cG sz rows=true) :
  ∃ (ad:Option Addr) (cap:Nat) (A:Array Value),v=.slice ad rows.length cap/\(Builtin.firstCells sz rows.length v).run P w=.ok A w/\cS w (am N0 g T) sz rows A.toList:=by
 obtain⟨ad,cap,hv,hr⟩:=C9 hM hx h
 have hl:=nI hall
 rcases hr with rfl | ⟨b,off,s,rfl,hb,hs,hls,hc⟩
 ·refine⟨ad,cap,#[],hv,?_,by simp,by simp,by simp⟩
  subst hv
  cases ad with
  | none=>rfl
  | some ad=>
   have:=run_loadCells_list (P:=P) w ad [] (by simp)
   simpa [Builtin.firstCells] using this
 ·by_cases hne:rows=[]
  ·subst hne
   refine⟨_,cap,#[],hv,?_,by simp,by simp,by simp⟩
   subst hv
   have:=run_loadCells_list (P:=P) w ⟨b,off,none⟩ [] (by simp)
   simpa [Builtin.firstCells] using this
  ·obtain⟨r0,rest,rfl⟩:=List.exists_cons_of_ne_nil hne
   have:s=sz:=by rw [<- hls r0 (by simp),hl r0 (by simp)]
   subst this
   obtain⟨A,hA,hR⟩:=Cz (P:=P) hs hls hc
   exact⟨_,cap,A,hv,by subst hv;exact hA,hR⟩
theorem fu {t u e:TypeId}{ty:TypeId}{i:TypeInfo}{z:Value}(ht:P.underlying t=some (.slice e))(hu:P.underlying u=some (.slice e))(hi:P.info? e=some i)(hz:rj P e=some z)
  {base:Option Addr} {sLen sCap m:Nat} {x:Value} (hx:(Builtin.lenOf x).run P w=.ok m w) (hneed:sCap < sLen+m) (hbytes:(sLen+m)*i.bytes<=140737488355328)
  {old news:Array Value} (ho:(Builtin.firstCells i.size sLen (.slice base sLen sCap)).run P w.drew=.ok old w.drew) (hn:(Builtin.firstCells i.size m x).run P w.drew=.ok news w.drew) (hmax:sLen+m<=9223372036854775807) :
  (Builtin.append_ #[t,u] ty #[.slice base sLen sCap,x]).run P w=
   .ok (.slice (some ⟨w.heap.size,0,none⟩) (sLen+m) (grownCap w (sLen+m) sCap e)) (w.drew.alloc (.cells (old++news++Builtin.zeroCells z.cells (grownCap w (sLen+m) sCap e - (sLen+m))) e)):=by
 have hfit:=growslice_fits hneed hbytes
 have h1:¬ sLen+m<=sCap:=by omega
 have h2:¬ Builtin.nextslicecap (sLen+m) sCap*i.bytes > 2 ^ 48:=by omega
 have h3:¬ ((sLen+m:Nat):Int) > IntKind.i64.max:=by simp [IntKind.max,IntKind.signed,IntKind.bits];omega
 have hzz:=eO hz w.drew
 simp only [Builtin.append_]
 simp [run_underlying ht,run_underlying hu,sizeOf,typeInfo,hi,hx,h1,h2,Question.forced,ho,hn,hzz,newRow,grownCap]
 simp at h3
 omega
theorem ur {t u e:TypeId}{ty:TypeId}{i:TypeInfo}(ht:P.underlying t=some (.slice e))(hu:P.underlying u=some (.slice e))(hi:P.info? e=some i)
  {b off sLen sCap m:Nat} {x:Value} (hx:(Builtin.lenOf x).run P w=.ok m w) (hneed:sLen+m<=sCap)
  {news:Array Value} (hn:(Builtin.firstCells i.size m x).run P w=.ok news w) {cur:Array Value} {te:TypeId} {fz:Nat × Nat} (hg:w.heap[b]?=some (.cells cur te fz)) (hfit:off+sLen*i.size+news.size<=cur.size)
  (hf:∀ j,j < news.size->(decide (fz.1<=off+sLen*i.size+j) && decide (off+sLen*i.size+j < fz.2))=false) (h1:∀ v ∈ news.toList,v.oneCell'=true) :
  (Builtin.append_ #[t,u] ty #[.slice (some ⟨b,off,none⟩) sLen sCap,x]).run P w=
   .ok (.slice (some ⟨b,off,none⟩) (sLen+m) sCap) (w.setRow b (splice cur.toList (off+sLen*i.size) news.toList).toArray):=by
 have hst:=fU P b (off+sLen*i.size) te fz news.toList 0 cur w hg (by simpa using hfit) (by simpa using hf) h1
 simp only [Nat.add_zero] at hst
 simp [Builtin.append_,run_underlying ht,run_underlying hu,sizeOf,typeInfo,hi,hx,hneed,hn,fq,hst]
theorem lY {t u e:TypeId}{ty:TypeId}{i:TypeInfo}(ht:P.underlying t=some (.slice e))(hu:P.underlying u=some (.slice e))(hi:P.info? e=some i)
  {x:Value} (hx:(Builtin.lenOf x).run P w=.ok 0 w) {news:Array Value} (hn:(Builtin.firstCells i.size 0 x).run P w=.ok news w) :
  (Builtin.append_ #[t,u] ty #[.slice none 0 0,x]).run P w=.ok (.slice none 0 0) w:=by
 simp [Builtin.append_,run_underlying ht,run_underlying hu,sizeOf,typeInfo,hi,hx,hn]
theorem wB {t u e:TypeId}{ty:TypeId}{i:TypeInfo}(ht:P.underlying t=some (.slice e))(hu:P.underlying u=some (.slice e))(hi:P.info? e=some i)
  {x:Value} {base:Option Addr} {sLen sCap:Nat} (hx:(Builtin.lenOf x).run P w=.ok 0 w) (hn:(Builtin.firstCells i.size 0 x).run P w=.ok #[] w) (hle:sLen<=sCap) :
  (Builtin.append_ #[t,u] ty #[.slice base sLen sCap,x]).run P w=.ok (.slice base sLen sCap) w:=by
 cases base with
 | none=>simp [Builtin.append_,run_underlying ht,run_underlying hu,sizeOf,typeInfo,hi,hx,hn,hle]
 | some b=>simp [Builtin.append_,run_underlying ht,run_underlying hu,sizeOf,typeInfo,hi,hx,hn,hle,storeCells]
theorem cR {v:Value}{sz k:Nat}{A:Array Value}(h:(Builtin.firstCells sz k v).run P w=.ok A w):(Builtin.firstCells sz k v).run P w.drew=.ok A w.drew:=by
 unfold Builtin.firstCells at *
 split at h
 ·rename_i ad _ _
  have key:∀ (n i:Nat) (acc:Array Value) (A:Array Value),(loadCellsFrom ad i n acc).run P w=.ok A w->(loadCellsFrom ad i n acc).run P w.drew=.ok A w.drew:=by
   intro n
   induction n with
   | zero=>intro i acc A h;simp only [loadCellsFrom,Sem.run_pure,Result.ok.injEq] at h ⊢;exact⟨h.1,trivial⟩
   | succ n ih=>
    intro i acc A h
    simp only [loadCellsFrom,Sem.run_bind,run_load,World.cell?_drew] at h ⊢
    cases hc:w.cell? (ad.add i) with
    | some x=>simp only [hc,Result.andThen_ok] at h ⊢;exact ih _ _ _ h
    | none=>
     simp only [hc] at h ⊢
     have e:w.drew.farLoad P (ad.add i) (Mode.plain == Mode.atomic)=w.farLoad P (ad.add i) (Mode.plain == Mode.atomic):=rfl
     rw [e]
     cases hf:w.farLoad P (ad.add i) (Mode.plain == Mode.atomic) with
     | ok p=>simp only [hf,Result.andThen_ok] at h ⊢;exact ih _ _ _ h
     | error h'=>simp only [hf,Result.andThen_halt] at h;cases h
  exact key _ _ _ _ h
 ·simp only [Sem.run_pure,Result.ok.injEq] at h ⊢;exact⟨h.1,trivial⟩
 ·simp only [Sem.run_pure,Result.ok.injEq] at h ⊢;exact⟨h.1,trivial⟩
 ·cases h
theorem aH.heap {N:Nat->Prop}{d:DC}{v:Value}(h:aH w N d v)(hs:w'.heap=w.heap):aH w' N d v:=h.mono (by rw [hs];exact Nat.le_refl _) (fun b _ _=>by rw [hs]) (fun _ _ h=>h)
theorem QQ {x y:AV}{l l2:List (Nat × Nat)}(h:aed x y=some (l,l2)):cE x=some (.psl l)/\cE y=some (.psl l2):=by
 unfold aed at h
 split at h
 ·cases h;exact⟨by assumption,by assumption⟩
 ·cases h
theorem me:∀ {l:List (Nat × Nat)} {bs:List Nat} (l2:List (Nat × Nat)) (bs2:List Nat),bs.length=l.length->bq (l++l2) (bs++bs2)=bq l bs++bq l2 bs2
 | [],[],_,_,_=>rfl
 | [],_::_,_,_,h=>by simp at h
 | _::_,[],_,_,h=>by simp at h
 | p::l,b::bs,l2,bs2,h=>by simp only [List.cons_append,bq,me l2 bs2 (l:=l) (bs:=bs) (by simpa using h)]
theorem ni:∀ (l:List (Nat × Nat)) (bs:List Nat),cG 1 (bq l bs)=true
 | [],_=>by simp [bq,cG]
 | _::_,[]=>by simp [bq,cG]
 | p::l,b::bs=>by
  have:=ni l bs
  simp only [cG] at this
  simp [bq,cG,this]
theorem IY (hM:Mem w0 N0 g T w){l l2:List (Nat × Nat)}{v1 v2:Value}(h1:cu w (am N0 g T) g T (.psl l) v1)(h2:cu w (am N0 g T) g T (.psl l2) v2)(_:0 < l2.length)(hlt:l.length < zD)(hge:zD<=l.length+l2.length) :
  ∃ (base ad:Option Addr) (cap2:Nat) (A B:Array Value),v1=.slice base l.length l.length/\v2=.slice ad l2.length cap2/\(Builtin.firstCells 1 l.length v1).run P w=.ok A w/\(Builtin.firstCells 1 l2.length v2).run P w=.ok B w /\
   ∀ (Z:Array Value) (cap:Nat) (te:TypeId),l.length+l2.length<=cap->Res w0 N0 g T w (.val false [.psl (l++l2)]) [] (.slice (some ⟨w.heap.size,0,none⟩) (l.length+l2.length) cap) (w.drew.alloc (.cells (A++B++Z) te)):=by
 obtain⟨bs,⟨q1,qf⟩,q2,q3⟩:=h1
 obtain⟨bs2,⟨r1,_⟩,r2,r3⟩:=h2
 obtain⟨base,hv1⟩:=qf hlt
 have len1:=ew q1
 have len2:=ew r1
 obtain⟨_,_,A,a1,a2,a3⟩:=fZ (P:=P) hM (x:=.val false [.d (.sl (bq l bs))]) (v:=v1) (sz:=1) (by decide) ⟨_,rfl,q3⟩ rfl (ni l bs)
 obtain⟨ad,cap2,B,b1,b2,b3⟩:=fZ (P:=P) hM (x:=.val false [.d (.sl (bq l2 bs2))]) (v:=v2) (sz:=1) (by decide) ⟨_,rfl,r3⟩ rfl (ni l2 bs2)
 rw [len1] at a2
 rw [len2] at b1 b2
 refine⟨base,ad,cap2,A,B,hv1,b1,a2,b2,fun Z cap te hcap=>?_⟩
 have hR:=a3.append b3
 rw [<- me l2 bs2 q1] at hR
 obtain⟨hM1,hK1⟩:=hM.grow0 (w':=w.drew.alloc (.cells (A++B++Z) te)) (((Below.refl _ w).drew).alloc (Nat.le_refl _) _)
 have hl12:(bs++bs2).length=(l++l2).length:=by simp [q1,r1]
 have hrl:(bq (l++l2) (bs++bs2)).length=l.length+l2.length:=by rw [ew hl12];simp
 have hn0:¬ am N0 g T w.heap.size:=fun h=>by have:=lh hM h;omega
 have hsize:(A++B).size=l.length+l2.length:=by
  have:=hR.1
  rw [hrl] at this
  simpa using this
 refine⟨g,hM1,hK1,_,rfl,bs++bs2,⟨hl12,fun h=>by simp at h;omega⟩,fun i p b hp hb=>?_,?_⟩
 ·by_cases hi:i < l.length
  ·rw [List.getElem?_append_left hi] at hp
   rw [List.getElem?_append_left (by omega)] at hb
   exact q2 i p b hp hb
  ·rw [List.getElem?_append_right (by omega)] at hp
   rw [List.getElem?_append_right (by omega),q1] at hb
   exact r2 _ p b hp hb
 ·suffices hDR:aH (w.drew.alloc (.cells (A++B++Z) te)) (am N0 g T) (.sl (bq (l++l2) (bs++bs2))) (.slice (some ⟨w.heap.size,0,none⟩) (bq (l++l2) (bs++bs2)).length cap) by rw [hrl] at hDR;exact hDR
  refine aH.sl (sz:=1) (off:=0) (fun i j=>((A++B)[i+j]?).getD undef) (by rw [hrl];omega) hn0 (by rw [show (w.drew.alloc (.cells (A++B++Z) te)).heap=w.heap.push (.cells (A++B++Z) te) from rfl];simp) (by decide) (fun r hr=>hR.2.1 r hr) (by rw [hrl];exact hcap) (fun i j hi hj=>?_) (fun i j r d hr hd=>?_)
  ·rw [hrl] at hi
   have hlt:i+j < (A++B).size:=by omega
   have hnew:(w.drew.alloc (.cells (A++B++Z) te)).heap[w.heap.size]?=some (.cells (A++B++Z) te (0,0)):=GW w.drew _
   simp only [World.cell?,hnew,Nat.mul_one,Nat.zero_add]
   rw [Array.getElem?_append_left hlt]
   rw [Array.getElem?_eq_getElem hlt]
   rfl
  ·obtain⟨c,hc1,hc2⟩:=hR.2.2 i j r d hr hd
   rw [Nat.mul_one,<- Array.toList_append,Array.getElem?_toList] at hc1
   rw [hc1]
   exact hK1.d _ _ hc2
theorem RJ (hM:Mem w0 N0 g T w)(hρ:∀ x,aJ w (am N0 g T) g T (ρ x) (a.eval x)){c:Call}{p q:Operand}{t u e:TypeId}{i:TypeInfo}{z:Value}(ho:o.op=.call c)(hc:c.callee=.builtin .append)
  (ha:c.args.toList=[p,q]) (hat:c.argTypes.toList=[t,u]) (ht:v8 P t=some e) (hu:v8 P u=some e) (hi:P.info? e=some i) (hz:rj P e=some z) (hzs:z.cells.size=i.size) (h0:0 < i.size)
  (he:eff P E T ρ dst (.append i.size i.bytes p q)=some (y,es)):aQ r n P o a w (Res w0 N0 g T w y es):=by
 have hd:∀ c,o.op ≠ .defer c:=fun c h=>by rw [ho] at h;cases h
 have ha':c.args=#[p,q]:=by rw [<- Array.toArray_toList (xs:=c.args),ha]
 have hat':c.argTypes=#[t,u]:=by rw [<- Array.toArray_toList (xs:=c.argTypes),hat]
 have hexec:∀ {v:Value} {w'':World},(Builtin.append_ #[t,u] o.type #[a.eval p,a.eval q]).run P w=.ok v w''->(execOp a.eval o).run P w=.ok (.value v) w'':=fun h=>by
  simp [execOp,ho,resolve,hc,invoke,builtin,ha',hat',h]
 have ht':=jp ht
 have hu':=jp hu
 have hsz:bH P e=some i.size:=by simp [bH,hi]
 simp only [eff] at he
 split at he
 ·rename_i l l2 hpp
  split at he
  ·rename_i hcond
   obtain⟨hs1,hpos,hlt,hge,hby,hmx⟩:=hcond
   simp only [Option.some.injEq,Prod.mk.injEq] at he
   obtain⟨rfl,rfl⟩:=he
   obtain⟨e1,e2⟩:=QQ hpp
   obtain⟨base,ad,cap2,A,B,k1,k2,k3,k4,k5⟩:=IY (P:=P) hM (aM (hρ p) e1) (aM (hρ q) e2) hpos hlt hge
   have hlen:(Builtin.lenOf (a.eval q)).run P w=.ok l2.length w:=by rw [k2];rfl
   rw [<- hs1] at k3 k4
   have k3':=cR k3
   rw [k1] at k3'
   have hrun:=fu (ty:=o.type) ht' hu' hi hz (base:=base) (sLen:=l.length) (sCap:=l.length) hlen (by omega) hby k3' (cR k4) hmx
   rw [<- k1] at hrun
   exact aQ.value hd (hexec hrun) (k5 _ _ _ (grownCap_ge w (l.length+l2.length) l.length e))
  ·cases he
 split at he
 ·rename_i rows2 hr2
  split at he
  ·rename_i hp
   split at he
   ·rename_i hcond
    obtain⟨hall,hby,hmx,hf⟩:=hcond
    simp only [Option.some.injEq,Prod.mk.injEq] at he
    obtain⟨rfl,rfl⟩:=he
    obtain⟨ad,cap,A,hv,hA,hR⟩:=fZ (P:=P) hM h0 (hρ q) hr2 hall
    have hlen:(Builtin.lenOf (a.eval q)).run P w=.ok rows2.length w:=by rw [hv];rfl
    have hpv:a.eval p=.slice none 0 0:=aM (hρ p) hp
    by_cases hm:rows2.length=0
    ·have hrn:rows2=[]:=List.eq_nil_of_length_eq_zero hm
     subst hrn
     have hrun:=lY (ty:=o.type) ht' hu' hi (x:=a.eval q) (by simpa using hlen) (by simpa using hA)
     rw [<- hpv] at hrun
     have hn:=bU hf
     obtain⟨q1,q2⟩:=hM.create (w':=w) (e:=.own i.size []) (ob:=none) (sv:=.slice none 0 0) (s:=i.size) hn (Below.refl _ _) (fun b hb=>by cases hb) (fun hK=>⟨.inl ⟨by simp [Gh.set],rfl,by simp [Gh.set]⟩,by simp [Gh.set]⟩)
     exact aQ.value hd (hexec hrun) ⟨_,q1,q2,_,rfl,by rw [show aputs T [(dst,aD.own i.size [])]=aput T dst (.own i.size []) from rfl,bg];rfl,by simp [Gh.set,hpv],_,_,_,hpv⟩
    ·have hrun:=fu (ty:=o.type) ht' hu' hi hz (base:=none) (sLen:=0) (sCap:=0) hlen (by omega) (by simpa using hby) (old:=#[]) (by rfl) (cR hA) (by omega)
     rw [<- hpv] at hrun
     have hcapn:=grownCap_ge w (0+rows2.length) 0 e
     have hcapm:=grownCap_le_maxLen w (0+rows2.length) 0 e (by unfold maxLen;omega)
     have hzc:(Builtin.zeroCells z.cells (grownCap w (0+rows2.length) 0 e - (0+rows2.length))).size=(grownCap w (0+rows2.length) 0 e - (0+rows2.length))*i.size:=by rw [size_zeroCells,hzs]
     have hAs:A.size=rows2.length*i.size:=by simpa using hR.1
     refine aQ.value hd (hexec hrun) ?_
     simp only [Nat.zero_add] at hcapn hcapm hzc ⊢
     refine Res.newSlice hM hf rfl hcapn hcapm ?_ h0 hR.2.1 (fun k j r d hr hdd=>?_) (((Below.refl _ w).drew).alloc (Nat.le_refl _) _) rfl
     ·rw [Array.size_append,Array.size_append,hzc,hAs]
      simp only [Array.size_empty,Nat.zero_add]
      rw [<- Nat.add_mul]
      exact Nat.mul_le_mul_right _ (by omega)
     ·obtain⟨c,hcc,hx⟩:=hR.2.2 k j r d hr hdd
      refine⟨c,?_,hx⟩
      rw [Array.getElem?_toList] at hcc
      have hlt:=(Array.getElem?_eq_some_iff.1 hcc).1
      simp only [Array.empty_append]
      rw [Array.getElem?_append_left hlt]
      exact hcc
   ·cases he
  ·rename_i m hp
   obtain⟨hsome,hpv,_⟩:=aM (hρ p) hp
   split at he
   ·rename_i s rows hm
    split at he
    ·rename_i hcond
     obtain⟨rfl,hall,hby,hmx,hf⟩:=hcond
     simp only [Option.some.injEq,Prod.mk.injEq] at he
     obtain⟨rfl,rfl⟩:=he
     obtain⟨ad,cap2,A,hv,hA,hR⟩:=fZ (P:=P) hM h0 (hρ q) hr2 hall
     have hlen:(Builtin.lenOf (a.eval q)).run P w=.ok rows2.length w:=by rw [hv];rfl
     obtain⟨hso,hst⟩:=hM.ents m _ hm
     have hne:dst ≠ m:=fun h=>by subst h;rw [hm] at hf;simp at hf
     have hf1:aj (aput T m .dead) dst=none:=by rw [bt _ _ hne];exact bU hf
     have hAs:A.size=rows2.length*i.size:=by simpa using hR.1
     have hget:∀ X:aD,aj (aputs T [(m,aD.dead),(dst,X)]) dst=some X:=fun X=>bg _ _ _
     -- a new block: the old name is let go first
     have fresh:∀ {base:Option Addr} {sCap:Nat} {old:Array Value},g.sv m=.slice base rows.length sCap->sCap < rows.length+rows2.length->(Builtin.firstCells i.size rows.length (.slice base rows.length sCap)).run P w=.ok old w ->
       cS w (am N0 g T) i.size rows old.toList->aQ r n P o a w (Res w0 N0 g T w (.val false [.ref dst]) [(m,.dead),(dst,.own i.size (rows++rows2))]):=by
      intro base sCap old hsv hcap hold hRo
      have hrun:=fu (ty:=o.type) ht' hu' hi hz (base:=base) (sLen:=rows.length) (sCap:=sCap) hlen hcap hby (cR hold) (cR hA) (by omega)
      rw [<- hsv,<- hpv] at hrun
      have hcapn:=grownCap_ge w (rows.length+rows2.length) sCap e
      have hcapm:=grownCap_le_maxLen w (rows.length+rows2.length) sCap e (by unfold maxLen;omega)
      have hzc:(Builtin.zeroCells z.cells (grownCap w (rows.length+rows2.length) sCap e - (rows.length+rows2.length))).size=(grownCap w (rows.length+rows2.length) sCap e - (rows.length+rows2.length))*i.size:=by rw [size_zeroCells,hzs]
      obtain⟨q1,q2⟩:=hM.retire (n:=m) (e:=.dead) (eN hm) trivial (fun _=>trivial)
      have hRR:=(hRo.append hR).keeps q2
      refine aQ.value hd (hexec hrun) (Res.trans (fs:=[(m,.dead)]) q2 ?_)
      refine Res.newSlice q1 (by rw [hf1];rfl) (by simp) hcapn hcapm ?_ h0 hRR.2.1 (fun k j r d hr hdd=>?_) (((Below.refl _ w).drew).alloc (Nat.le_refl _) _) rfl
      ·have hos:old.size=rows.length*i.size:=by simpa using hRo.1
       rw [Array.size_append,Array.size_append,hzc,hAs,hos,<- Nat.add_mul,<- Nat.add_mul]
       exact Nat.mul_le_mul_right _ (by omega)
      ·obtain⟨c,hcc,hx⟩:=hRR.2.2 k j r d hr hdd
       refine⟨c,?_,hx⟩
       rw [<- Array.toList_append,Array.getElem?_toList] at hcc
       rw [Array.getElem?_append_left (Array.getElem?_eq_some_iff.1 hcc).1]
       exact hcc
     rcases hso with ⟨hsv,hrn,hbn⟩ | ⟨b,off,cap,cells,tt,fz,k1,k2,k3,k4,k5,k6,k7,k8,k9,k10⟩
     ·subst hrn
      by_cases hm0:rows2.length=0
      ·have hrn2:rows2=[]:=List.eq_nil_of_length_eq_zero hm0
       subst hrn2
       have hrun:=lY (ty:=o.type) ht' hu' hi (x:=a.eval q) (by simpa using hlen) (by simpa using hA)
       rw [<- hsv,<- hpv] at hrun
       obtain⟨q1,q2⟩:=hM.move (dst:=dst) (rows':=[]) (v:=.slice none 0 0) hm (bU hf) (w':=w) ⟨rfl,rfl,rfl,Nat.le_refl _,fun _ _ _=>rfl⟩ rfl (fun hK=>.inl ⟨rfl,rfl,hbn⟩)
       refine aQ.value hd (hexec hrun) ⟨_,q1,q2,_,rfl,by simp only [List.append_nil];rw [hget];rfl,by simp [Gh.set,hpv,hsv],_,_,_,by rw [hpv,hsv]⟩
      ·exact fresh hsv (by simp;omega) (by rfl) ⟨by simp,by simp,by simp⟩
     ·by_cases hroom:rows.length+rows2.length<=cap
      ·have hAl:A.toList.length=rows2.length*i.size:=by simpa using hAs
       have hmul:rows.length*i.size+rows2.length*i.size<=cap*i.size:=by rw [<- Nat.add_mul];exact Nat.mul_le_mul_right _ hroom
       have hrun:=ur (w:=w) (ty:=o.type) ht' hu' hi (x:=a.eval q) (b:=b) (off:=off) hlen hroom hA k3 (by omega) (fun j hj=>k7 _ (by omega) (by omega)) (hR.one h0)
       rw [<- k2,<- hpv] at hrun
       have hfit:off+rows.length*i.size+A.toList.length<=cells.toList.length:=by rw [hAl];simp;omega
       obtain⟨q1,q2⟩:=hM.move (dst:=dst) (rows':=rows++rows2) (v:=.slice (some ⟨b,off,none⟩) (rows.length+rows2.length) cap) hm (bU hf) (w':=w.setRow b (splice cells.toList (off+rows.length*i.size) A.toList).toArray) (by rw [k1];exact jm w b _) (by simp) (fun hK=>by
        refine .inr ⟨b,off,cap,(splice cells.toList (off+rows.length*i.size) A.toList).toArray,tt,fz,k1,by simp,setRow_heap w b cells _ tt _ k3,by simpa using hroom,k5,by rw [List.size_toArray,eM hfit];simpa using k6,k7,fun r hr=>?_,k9,fun p j r d hr hdd=>?_⟩
        ·rcases List.mem_append.1 hr with hr | hr
         ·exact k8 r hr
         ·exact hR.2.1 r hr
        ·rw [List.getElem?_toArray,fV hfit,hAl]
         rw [List.getElem?_append] at hr
         split at hr
         ·rename_i hpl
          have hjl:j < i.size:=by rw [<- k8 r (List.mem_of_getElem? hr)];exact (List.getElem?_eq_some_iff.1 hdd).1
          have:=AW hpl hjl
          rw [if_neg (by omega)]
          obtain⟨c,hc',hx⟩:=k10 p j r d hr hdd
          exact⟨c,by simpa using hc',hK.d _ _ hx⟩
         ·rename_i hpl
          have hjl:j < i.size:=by rw [<- hR.2.1 r (List.mem_of_getElem? hr)];exact (List.getElem?_eq_some_iff.1 hdd).1
          have hp2:=(List.getElem?_eq_some_iff.1 hr).1
          have h5:=AW hp2 hjl
          have h6:p*i.size=rows.length*i.size+(p - rows.length)*i.size:=by rw [<- Nat.add_mul];congr 1;omega
          rw [if_pos (by omega),show off+p*i.size+j - (off+rows.length*i.size)=(p - rows.length)*i.size+j by omega]
          obtain⟨c,hc',hx⟩:=hR.2.2 (p - rows.length) j r d hr hdd
          exact⟨c,hc',hK.d _ _ hx⟩)
       exact aQ.value hd (hexec hrun) ⟨_,q1,q2,_,rfl,by rw [hget];rfl,by simp [Gh.set],_,_,_,rfl⟩
      ·obtain⟨B,hB,hRB⟩:=Cz (P:=P) (w:=w) (N:=am N0 g T) (b:=b) (off:=off) k9 k8 (fun p j r d hr hdd=>by obtain⟨c,hc',hx⟩:=k10 p j r d hr hdd;exact⟨c,by simp [World.cell?,k3,hc'],hx⟩)
       exact fresh k2 (by omega) hB hRB
    ·cases he
   ·cases he
  ·rename_i l hp
   split at he
   ·rename_i hem
    simp only [Option.some.injEq,Prod.mk.injEq] at he
    obtain⟨rfl,rfl⟩:=he
    obtain rfl:=List.isEmpty_iff.1 hem
    obtain⟨ad2,cap2,A,hv2,hA,hR⟩:=fZ (P:=P) hM h0 (hρ q) hr2 rfl
    have hlen:(Builtin.lenOf (a.eval q)).run P w=.ok 0 w:=by rw [hv2];rfl
    have hA0:A=#[]:=by have:=hR.1;simpa using this
    subst hA0
    have hcl:=aM (hρ p) hp
    obtain⟨bs,q1,q2,hd'⟩:=hcl
    have hd0:=hd'
    have hpv:∃ ad cap,a.eval p=.slice ad l.length cap/\l.length<=cap:=by
     have hll:=ew q1.1
     generalize a.eval p=v at hd'
     generalize bq l bs=rows at hd' hll
     cases hd' with
     | nil=>rw [<- hll];exact⟨_,_,rfl,Nat.zero_le _⟩
     | sl f hne hN hb hsz hl2 hcap hc hdd=>rw [<- hll];exact⟨_,_,rfl,hcap⟩
    obtain⟨ad,cap,hpv,hcap⟩:=hpv
    have hrun:=wB (P:=P) (w:=w) (ty:=o.type) ht' hu' hi (x:=a.eval q) (base:=ad) hlen (by simpa using hA) hcap
    rw [<- hpv] at hrun
    exact aQ.value hd (hexec hrun) (Res.same hM ⟨_,rfl,bs,q1,q2,hd0⟩)
   ·cases he
  ·rename_i rows hp
   split at he
   ·rename_i hcond
    obtain⟨hall1,hall,_,hby,hmx,hf⟩:=hcond
    simp only [Option.some.injEq,Prod.mk.injEq] at he
    obtain⟨rfl,rfl⟩:=he
    obtain⟨ad,cap,A,hv,hA,hR⟩:=fZ (P:=P) hM h0 (hρ q) hr2 hall
    have hlen:(Builtin.lenOf (a.eval q)).run P w=.ok rows2.length w:=by rw [hv];rfl
    have hcl:aH w (am N0 g T) (.csl rows) (a.eval p):=aM (hρ p) hp
    obtain⟨base,hpv,hsl⟩:∃ base,a.eval p=.slice base rows.length rows.length/\aH w (am N0 g T) (.sl rows) (.slice base rows.length rows.length):=by
     generalize a.eval p=v at hcl
     cases hcl with
     | csl h=>exact⟨_,rfl,h⟩
    obtain⟨_,_,B,_,hB,hRB⟩:=fZ (P:=P) hM (x:=.val false [.d (.sl rows)]) h0 ⟨_,rfl,hsl⟩ rfl hall1
    have hrun:=fu (ty:=o.type) ht' hu' hi hz (base:=base) (sLen:=rows.length) (sCap:=rows.length) hlen (by omega) hby (cR hB) (cR hA) (by omega)
    rw [<- hpv] at hrun
    have hcapn:=grownCap_ge w (rows.length+rows2.length) rows.length e
    have hcapm:=grownCap_le_maxLen w (rows.length+rows2.length) rows.length e (by unfold maxLen;omega)
    have hzc:(Builtin.zeroCells z.cells (grownCap w (rows.length+rows2.length) rows.length e - (rows.length+rows2.length))).size=(grownCap w (rows.length+rows2.length) rows.length e - (rows.length+rows2.length))*i.size:=by rw [size_zeroCells,hzs]
    have hRR:=hRB.append hR
    have hAs:A.size=rows2.length*i.size:=by simpa using hR.1
    have hBs:B.size=rows.length*i.size:=by simpa using hRB.1
    refine aQ.value hd (hexec hrun) ?_
    refine Res.newSlice hM hf (by simp) hcapn hcapm ?_ h0 hRR.2.1 (fun k j r d hr hdd=>?_) (((Below.refl _ w).drew).alloc (Nat.le_refl _) _) rfl
    ·rw [Array.size_append,Array.size_append,hzc,hAs,hBs,<- Nat.add_mul,<- Nat.add_mul]
     exact Nat.mul_le_mul_right _ (by omega)
    ·obtain⟨c,hcc,hx⟩:=hRR.2.2 k j r d hr hdd
     refine⟨c,?_,hx⟩
     rw [<- Array.toList_append,Array.getElem?_toList] at hcc
     rw [Array.getElem?_append_left (Array.getElem?_eq_some_iff.1 hcc).1]
     exact hcc
   ·cases he
  ·cases he
 ·cases he
end Go.AM

namespace Go.AM
open Go.RowKit
variable {P:Program}{E:Env}{w0:fi P}{w w':World}{N0:Nat->Prop}{g g':Gh}{T T':Tab}{r:Option Nat}{n:Nat}{o:Oper}{a:Act}{ρ:Operand->AV}{dst:Nat}
 {y:AV} {es:List (Nat × aD)}
def cZ (N0:Nat->Prop)(g:Gh)(T:Tab)(names:List Nat):Nat->Prop:=fun b=>N0 b\/∃ n,n ∉ names/\live T n/\g.blk n=some b
theorem cA {names:List Nat}{b:Nat}(h:cZ N0 g T names b):am N0 g T b:=by
 rcases h with h | ⟨n,_,h1,h2⟩
 ·exact .inl h
 ·exact .inr ⟨n,h1,h2⟩
theorem aH.less {N N':Nat->Prop}(hn:∀ b,N' b->N b){d:DC}{v:Value}(h:aH w N d v):aH w N' d v:=h.mono (Nat.le_refl _) (fun _ _ _=>rfl) (fun b _ h=>hn b h)
theorem zu (hM:Mem w0 N0 g T w){names:List Nat}{n b:Nat}(hn:n ∈ names)(hl:live T n)(hb:g.blk n=some b):¬ cZ N0 g T names b:=by
 rintro (h | ⟨m,h1,h2,h3⟩)
 ·have h1:=hM.n0 b h
  exact (hM.rng n b hl hb).1.elim (fun h=>by omega) h1.2.1
 ·have:=hM.inj m n b h2 hl h3 hb
  subst this
  exact h1 hn
theorem vk (hM:Mem w0 N0 g T w){names:List Nat}{m:Nat}{rows:List (List DC)}(hm:(∃ s,aj T m=some (.own s rows))\/aj T m=some (.imm rows))(hn:m ∈ names) :
  aH w (cZ N0 g T names) (.sl rows) (g.sv m):=by
 rcases hm with ⟨s,hm⟩ | hm
 ·obtain⟨hs,hst⟩:=hM.ents m _ hm
  have hl:live T m:=by unfold live;rw [hm];trivial
  rcases hs with ⟨hv,hr,_⟩ | ⟨b,off,cap,cells,t,fz,h1,h2,h3,h4,h5,h6,h7,h8,h9,h10⟩
  ·rw [hv,hr];exact .nil
  ·rw [h2]
   by_cases hr:rows=[]
   ·subst hr;exact .nil
   ·have hsz:∀ (i:Nat) (r:List DC),rows[i]?=some r->r.length=s:=fun i r hr=>h8 r (List.mem_of_getElem? hr)
    refine .sl (sz:=s) (fun i j=>(cells[off+i*s+j]?).getD undef) (List.length_pos_iff.2 hr) (zu hM hn hl h1) (hM.rng m b hl h1).2 h9 h8 h4 (fun i j hi hj=>?_) (fun i j r d hr hd=>?_)
    ·obtain⟨r,hr⟩:∃ r,rows[i]?=some r:=⟨rows[i],by simp [hi]⟩
     obtain⟨d,hd⟩:∃ d,r[j]?=some d:=⟨r[j]'(by rw [hsz i r hr];exact hj),by simp⟩
     obtain⟨c,hc,_⟩:=h10 i j r d hr hd
     simp [World.cell?,h3,hc]
    ·obtain⟨c,hc,hx⟩:=h10 i j r d hr hd
     rw [hc]
     exact hx.less fun b hb=>cA hb
 ·exact (hM.ents m _ hm).1.less fun b hb=>cA hb
theorem tE {α β:Type}{f:α->Option β}{l:List α}{r:List β}(h:l.mapM f=some r){i:Nat}{y:β}(hy:r[i]?=some y):∃ x,l[i]?=some x/\f x=some y:=by
 obtain⟨h1,h2⟩:=iQ h
 have hi:i < l.length:=by rw [<- h1];exact (List.getElem?_eq_some_iff.1 hy).1
 obtain⟨y',hy',hf⟩:=h2 i l[i] (by simp [hi])
 rw [hy] at hy'
 simp only [Option.some.injEq] at hy'
 subst hy'
 exact⟨l[i],by simp [hi],hf⟩
theorem qZ (hM:Mem w0 N0 g T w){names:List Nat}:∀ (k:Nat) {c:C} {d:DC} {v:Value},cu w (am N0 g T) g T c v->dh T k c=some d->(∀ m ∈ aX T k c,m ∈ names)->aH w (cZ N0 g T names) d v
 | 0,c,d,v,_,h,_=>by simp [dh] at h
 | k+1,c,d,v,hc,h,hn=>by
  have box:∀ {m:Nat} {cs:List C} {ds:List DC} {b:Nat},aj T m=some (.box cs)->cs.mapM (dh T k)=some ds->(∀ q ∈ cs.flatMap (aX T k),q ∈ names)->m ∈ names->g.blk m=some b ->
    ∀ off,aH w (cZ N0 g T names) (.cref ds off) (.pointer (some ⟨b,0+off,none⟩)):=by
   intro m cs ds b hm hds hq hmn hb off
   obtain⟨b',cells,t,h1,h2,h3,h4,h5⟩:=hM.box hm
   rw [hb] at h1
   simp only [Option.some.injEq] at h1
   subst h1
   have hl:live T m:=by unfold live;rw [hm];trivial
   obtain⟨e1,e2⟩:=iQ hds
   refine .cref (fun j=>(cells[j]?).getD undef) (zu hM hmn hl hb) (hM.rng m b hl hb).2 (fun j hj=>?_) (fun j d hd=>?_)
   ·have:j < cells.size:=by omega
    simp [World.cell?,h2,this]
   ·obtain⟨c,hc,hf⟩:=tE hds hd
    have hlt:j < cells.size:=by rw [h3];exact (List.getElem?_eq_some_iff.1 hc).1
    have:=qZ hM k (h4 j c cells[j] hc (by simp [hlt])) hf (fun q hq'=>hq q (List.mem_flatMap.2 ⟨c,List.mem_of_getElem? hc,hq'⟩))
    simpa [hlt] using this
  cases c with
  | d x=>simp only [dh,Option.some.injEq] at h;subst h;exact aH.less (fun b hb=>cA hb) hc
  | nils=>simp only [dh,Option.some.injEq] at h;subst h;rw [show v=_ from hc];exact .nil
  | und=>simp [dh] at h
  | unk=>simp [dh] at h
  | yld l=>simp [dh] at h
  | sub n lo hi=>simp [dh] at h
  | psl l=>simp [dh] at h
  | pptr n off=>simp [dh] at h
  | ref m=>
   obtain⟨_,rfl,_⟩:=hc
   simp only [dh] at h
   have hmn:m ∈ names:=hn m (by simp [aX])
   split at h
   ·rename_i s rows hm
    simp only [Option.some.injEq] at h;subst h
    exact vk hM (.inl ⟨_,hm⟩) hmn
   ·rename_i rows hm
    simp only [Option.some.injEq] at h;subst h
    exact vk hM (.inr hm) hmn
   ·cases h
  | ptr m off=>
   obtain⟨_,b,hb,rfl⟩:=hc
   simp only [dh] at h
   split at h
   ·rename_i cs hm
    cases hds:cs.mapM (dh T k) with
    | none=>rw [hds] at h;simp at h
    | some ds=>
     rw [hds] at h
     simp only [Option.map_some,Option.some.injEq] at h
     subst h
     have hmn:m ∈ names:=hn m (by simp [aX])
     have:=box hm hds (fun q hq=>hn q (by simp only [aX,hm];exact List.mem_cons_of_mem _ hq)) hmn hb off
     simpa using this
   ·cases h
  | eptr m i off=>
   obtain⟨_,b,o',len,cap,hsv,rfl⟩:=hc
   simp only [dh] at h
   have hmn:m ∈ names:=hn m (by simp [aX])
   have key:∀ rows,((∃ s,aj T m=some (.own s rows))\/aj T m=some (.imm rows))->(rows[i]?).map (fun r=>DC.cref r off)=some d->aH w (cZ N0 g T names) d (.pointer (some ⟨b,o'+i*g.st m+off,none⟩)):=by
    intro rows hm h
    cases hr:rows[i]? with
    | none=>rw [hr] at h;simp at h
    | some r0=>
     rw [hr] at h
     simp only [Option.map_some,Option.some.injEq] at h
     subst h
     have hi:=(List.getElem?_eq_some_iff.1 hr).1
     have hne:rows ≠ []:=fun h=>by subst h;simp at hi
     have h1:=vk hM hm hmn
     obtain⟨b',off',cap',h2,h3,h4,h5,h6⟩:=hM.rows hm hne
     rw [hsv] at h1 h2
     simp only [Value.slice.injEq,Option.some.injEq,Addr.mk.injEq,and_true] at h2
     obtain⟨⟨rfl,rfl⟩,hll,rfl⟩:=h2
     subst hll
     cases h1 with
     | nil=>exact absurd rfl hne
     | @sl _ _ _ _ sz f hne' hN hb hsz hl hcap hcc hdd=>
      have hst:g.st m=sz:=by rw [<- h5 r0 (List.mem_of_getElem? hr),hl r0 (List.mem_of_getElem? hr)]
      rw [hst]
      exact .cref (fun j=>f i j) hN hb (fun j hj=>hcc i j hi (by rw [<- hl r0 (List.mem_of_getElem? hr)];exact hj)) (fun j d hd=>hdd i j r0 d hr hd)
   split at h
   ·rename_i s rows hm;exact key rows (.inl ⟨_,hm⟩) h
   ·rename_i rows hm;exact key rows (.inr hm) h
   ·cases h
  | fn f caps=>
   obtain⟨cs,rfl,h2,h3⟩:=hc
   simp only [dh] at h
   cases hds:caps.mapM (yM (dh T k) T) with
   | none=>rw [hds] at h;simp at h
   | some ds=>
    rw [hds] at h
    simp only [Option.map_some,Option.some.injEq] at h
    subst h
    obtain⟨e1,e2⟩:=iQ hds
    refine .fn (by omega) (fun i d c hd hc=>?_)
    obtain⟨cap,hcap,hf⟩:=tE hds hd
    have hr:=h3 i cap c hcap hc
    cases cap with
    | d x=>simp only [yM,Option.some.injEq] at hf;subst hf;exact aH.less (fun b hb=>cA hb) hr
    | ptr m=>
     obtain⟨_,b,hb,rfl⟩:=hr
     simp only [yM] at hf
     split at hf
     ·rename_i bcs hm
      cases hbs:bcs.mapM (dh T k) with
      | none=>rw [hbs] at hf;simp at hf
      | some ds'=>
       rw [hbs] at hf
       simp only [Option.map_some,Option.some.injEq] at hf
       subst hf
       have hsub:∀ q,q=m\/q ∈ bcs.flatMap (aX T k)->q ∈ names:=fun q hq=>hn q (by
        simp only [aX]
        refine List.mem_flatMap.2 ⟨_,List.mem_of_getElem? hcap,?_⟩
        simp only [hm]
        exact List.mem_cons.2 hq)
       have:=box hm hbs (fun q hq=>hsub q (.inr hq)) (hsub m (.inl rfl)) hb 0
       simpa using this
     ·cases hf
theorem N6 (hM:Mem w0 N0 g T w){names:List Nat}{x:AV}{d:DV}{v:Value}(hx:aJ w (am N0 g T) g T x v)(h:GZ T x=some d)(hn:∀ m ∈ bp T x,m ∈ names):pM w (cZ N0 g T names) d v:=by
 cases x with
 | tup l=>simp [GZ] at h
 | val b cs=>
  simp only [GZ] at h
  cases hds:cs.mapM (dh T 4) with
  | none=>rw [hds] at h;simp at h
  | some ds=>
   rw [hds] at h
   simp only [Option.map_some,Option.some.injEq] at h
   subst h
   obtain⟨e1,e2⟩:=iQ hds
   have hsub:∀ (c:C),c ∈ cs->∀ q ∈ aX T 4 c,q ∈ names:=fun c hc q hq=>hn q (List.mem_flatMap.2 ⟨c,hc,hq⟩)
   cases b with
   | true=>
    obtain⟨xs,rfl,h2,h3⟩:=hx
    refine⟨xs,rfl,by omega,fun i d u hd hu=>?_⟩
    obtain⟨c,hc,hf⟩:=tE hds hd
    exact qZ hM 4 (h3 i c u hc hu) hf (hsub c (List.mem_of_getElem? hc))
   | false=>
    obtain⟨c,rfl,hc⟩:=hx
    obtain⟨y,hy,hf⟩:=e2 0 c rfl
    cases ds with
    | nil=>simp at hy
    | cons d rest=>
     simp at e1 hy
     subst hy;subst e1
     exact⟨d,rfl,qZ hM 4 hc hf (hsub c (by simp))⟩
theorem Bq (hM:Mem w0 N0 g T w)(hρ:∀ x,aJ w (am N0 g T) g T (ρ x) (a.eval x)){names:List Nat}:∀ {args:List Operand} {ds:List DV},iv T ρ args=some ds->(∀ m ∈ args.flatMap (fun x=>bp T (ρ x)),m ∈ names) ->
  ds.length=args.length/\∀ (i:Nat) (d:DV) (v:Value),ds[i]?=some d->(args.map a.eval)[i]?=some v->pM w (cZ N0 g T names) d v
 | [],ds,h,_=>by simp [iv] at h;subst h;simp
 | x::rest,ds,h,hn=>by
  simp only [iv] at h
  split at h
  ·rename_i d ds' h1 h2
   simp only [Option.some.injEq] at h
   subst h
   obtain⟨h3,h4⟩:=Bq hM hρ h2 (fun m hm=>hn m (by simp only [List.flatMap_cons];exact List.mem_append_right _ hm))
   refine⟨by simp [h3],fun i d' v hd hv=>?_⟩
   cases i with
   | zero=>
    simp at hd hv
    subst hd;subst hv
    exact N6 hM (hρ x) h1 (fun m hm=>hn m (by simp only [List.flatMap_cons];exact List.mem_append_left _ hm))
   | succ i=>exact h4 i d' v (by simpa using hd) (by simpa using hv)
  ·cases h
theorem uN:∀ {ns ms:List Nat},I0 ns ms=true->ns.Nodup/\∀ n ∈ ns,n ∉ ms
 | [],_,_=>⟨List.nodup_nil,by simp⟩
 | n::r,ms,h=>by
  simp only [I0,Bool.and_eq_true,Bool.not_eq_true',List.any_eq_false,beq_iff_eq] at h
  obtain⟨⟨h1,h2⟩,h3⟩:=h
  obtain⟨h4,h5⟩:=uN h3
  refine⟨List.nodup_cons.2 ⟨fun hx=>h1 n hx rfl,h4⟩,fun m hm=>?_⟩
  rcases List.mem_cons.1 hm with rfl | hm
  ·exact fun hx=>h2 m hx rfl
  ·exact h5 m hm
def fo (g:Gh):List Nat->List Nat
 | []=>[]
 | n::r=>(g.blk n).getD 0::fo g r
theorem adm {N:Nat->Prop}{c:C}{d:DC}{v:Value}(hc:cu w N g T c v)(h:Ra c=some d):aH w N d v:=by
 unfold Ra at h
 split at h
 ·simp only [Option.some.injEq] at h;subst h;exact hc
 ·simp only [Option.some.injEq] at h;subst h
  rw [show v=_ from hc];exact .nil
 ·cases h
theorem KV {N:Nat->Prop}{d:DC}{v:Value}(h:aH w N d v):fg d=none/\GH d=false:=by cases h <;> exact⟨rfl,rfl⟩
theorem ci.sub {N N':Nat->Prop}{sz:Nat}{rows:List (List DC)}{v:Value}{ob:Option Nat}(hN:∀ b,N' b->N b)(h:ci w N sz rows v ob):ci w N' sz rows v ob:=by
 rcases h with h | ⟨b,off,cap,cells,t,fz,h1,h2,h3,h4,h5,h6,h7,h8,h9,h10⟩
 ·exact .inl h
 ·exact .inr ⟨b,off,cap,cells,t,fz,h1,h2,h3,h4,h5,h6,h7,h8,h9,fun i j r d hr hdd=>by
   obtain⟨c,hc,hx⟩:=h10 i j r d hr hdd
   exact⟨c,hc,hx.less hN⟩⟩
theorem IC (hM:Mem w0 N0 g T w){names:List Nat}:∀ {cs:List C} {xs:List Value} {l:List DC} {is:List Nat},vB T cs=some (l,is)->cs.length=xs.length ->
  (∀ (i:Nat) (c:C) (x:Value),cs[i]?=some c->xs[i]?=some x->cu w (am N0 g T) g T c x)->(∀ n ∈ is,n ∉ names) ->
  (∀ n ∈ is,∃ sz rows,aj T n=some (.own sz rows))/\gn w (cZ N0 g T names) l xs (is.map g.blk)
 | [],[],l,is,h,_,_,_=>by
  simp only [vB,Option.some.injEq,Prod.mk.injEq] at h
  obtain⟨rfl,rfl⟩:=h
  exact⟨by simp,rfl⟩
 | [],_::_,_,_,_,h,_,_=>by simp at h
 | _::_,[],_,_,_,h,_,_=>by simp at h
 | c::cs,x::xs,l,is,h,hl,hr,hn=>by
  simp only [vB] at h
  split at h
  ·rename_i d l1 ds l2 h1 h2
   simp only [Option.some.injEq,Prod.mk.injEq] at h
   obtain⟨rfl,rfl⟩:=h
   obtain⟨i1,i2⟩:=IC hM h2 (by simpa using hl) (fun i c' x' hc hx=>hr (i+1) c' x' (by simpa using hc) (by simpa using hx)) fun n hn'=>hn n (List.mem_append_right _ hn')
   have h0:=hr 0 c x rfl rfl
   have plain:aH w (cZ N0 g T names) d x->l1=[]->(∀ n ∈ l1++l2,∃ sz rows,aj T n=some (.own sz rows))/\gn w (cZ N0 g T names) (d::ds) (x::xs) ((l1++l2).map g.blk):=fun hd he=>by
    subst he
    refine⟨by simpa using i1,?_⟩
    simp only [gn,(KV hd).1,(KV hd).2,List.nil_append]
    exact⟨hd,i2⟩
   unfold Zi at h1
   split at h1
   ·simp only [Option.some.injEq,Prod.mk.injEq] at h1
    obtain⟨rfl,rfl⟩:=h1
    exact plain (aH.less (fun b hb=>cA hb) h0) rfl
   ·simp only [Option.some.injEq,Prod.mk.injEq] at h1
    obtain⟨rfl,rfl⟩:=h1
    refine⟨by simpa using i1,?_⟩
    simp only [gn,fg,GH,if_true,List.nil_append]
    exact⟨h0,i2⟩
   ·rename_i n
    split at h1
    ·rename_i s rows hT
     obtain⟨sz,hsz⟩:∃ sz,sz=s+1:=⟨_,rfl⟩
     simp only [Option.some.injEq,Prod.mk.injEq] at h1
     obtain⟨rfl,rfl⟩:=h1
     have hT:aj T n=some (.own sz rows):=by rw [hT,hsz]
     have hlive:live T n:=by unfold live;rw [hT];trivial
     refine⟨fun m hm=>?_,?_⟩
     ·rcases List.mem_cons.1 hm with rfl | hm
      ·exact⟨sz,rows,hT⟩
      ·exact i1 m hm
     ·simp only [List.cons_append,List.nil_append,List.map_cons,gn,fg]
      have hs:ci w (am N0 g T) sz rows (g.sv n) (g.blk n):=(hM.ents n _ hT).1
      rw [hsz] at hs
      obtain⟨_,hv,_⟩:=h0
      rw [hv]
      exact⟨hs.sub fun b hb=>cA hb,fun b hb=>.inr ⟨n,hn n (by simp),hlive,hb⟩,i2⟩
    ·rename_i rows hT
     simp only [Option.some.injEq,Prod.mk.injEq] at h1
     obtain⟨rfl,rfl⟩:=h1
     have hs:aH w (am N0 g T) (.sl rows) (g.sv n):=(hM.ents n _ hT).1
     obtain⟨_,hv,_⟩:=h0
     exact plain (by rw [hv];exact hs.less fun b hb=>cA hb) rfl
    ·cases h1
   ·cases h1
  ·cases h
theorem TJ {N N':Nat->Prop}{sb:Bool}{n off:Nat}{v:Value}(h:cu w N g T (mC sb n off) v)(hN:∀ b,N' b->N b):∃ b,g.blk n=some b/\Rx w N' sb b off v:=by
 cases sb with
 | false=>
  obtain⟨_,b,hb,hv⟩:=h
  exact⟨b,hb,hv⟩
 | true=>
  obtain⟨bs,⟨h1,hf⟩,h2,h3⟩:=h
  match bs,h1 with
  | [b],_=>exact⟨b,(h2 0 (n,off) b rfl rfl).2,h3.less hN,hf⟩
theorem qP (hM:Mem w0 N0 g T w)(hρ:∀ x,aJ w (am N0 g T) g T (ρ x) (a.eval x)){io:List Nat}{names:List Nat}:∀ {args:List Operand} {k:Nat} {ds:List DV} {ns is ms:List Nat},gW T ρ io k args=some (ds,ns,is,ms) ->
  (∀ m ∈ ms,m ∈ names)->(∀ n ∈ ns++is,n ∉ names) ->
  (∀ n ∈ ns,∃ cs,aj T n=some (.box cs))/\(∀ n ∈ ns,∃ b,g.blk n=some b)/\(∀ n ∈ is,∃ sz rows,aj T n=some (.own sz rows))/\fw w (cZ N0 g T names) ds (args.map a.eval) (fo g ns) (is.map g.blk)
 | [],k,ds,ns,is,ms,h,_,_=>by
  simp only [gW,Option.some.injEq,Prod.mk.injEq] at h
  obtain⟨rfl,rfl,rfl,rfl⟩:=h
  exact⟨by simp,by simp,by simp,rfl,rfl⟩
 | x::rest,k,ds,ns,is,ms,h,hn,hn2=>by
  simp only [gW] at h
  split at h
  ·cases h
  ·rename_i ds' ns' is' ms' hr
   split at h
   ·split at h
    ·rename_i sb n off hx
     obtain⟨c0,hx,hc0⟩:=Option.bind_eq_some_iff.1 hx
     obtain rfl:c0=mC sb n off:=uv hc0
     split at h
     ·rename_i cs hT
      split at h
      ·rename_i l is1 hl
       simp only [Option.some.injEq,Prod.mk.injEq] at h
       obtain⟨rfl,rfl,rfl,rfl⟩:=h
       obtain⟨i1,i2,i4,i3⟩:=qP hM hρ hr hn fun m hm=>hn2 m (by
        rcases List.mem_append.1 hm with hm | hm
        ·exact List.mem_append_left _ (List.mem_cons_of_mem _ hm)
        ·exact List.mem_append_right _ (List.mem_append_right _ hm))
       obtain⟨b,hb,hv⟩:=TJ (aM (hρ x) hx) fun b hb=>cA (names:=names) hb
       obtain⟨b',cells,t,k1,k2,k3,k4,_⟩:=hM.box hT
       rw [hb] at k1
       simp only [Option.some.injEq] at k1
       subst k1
       have hlive:live T n:=by unfold live;rw [hT];trivial
       obtain⟨j1,j2⟩:=IC hM (names:=names) (xs:=cells.toList) hl (by simpa using k3.symm) (fun i c x hc hx=>k4 i c x hc (by simpa using hx)) fun m hm=>hn2 m (List.mem_append_right _ (List.mem_append_left _ hm))
       refine⟨fun m hm=>?_,fun m hm=>?_,fun m hm=>?_,?_⟩
       ·rcases List.mem_cons.1 hm with rfl | hm
        ·exact⟨cs,hT⟩
        ·exact i1 m hm
       ·rcases List.mem_cons.1 hm with rfl | hm
        ·exact⟨b,hb⟩
        ·exact i2 m hm
       ·rcases List.mem_append.1 hm with hm | hm
        ·exact j1 m hm
        ·exact i4 m hm
       ·simp only [List.map_cons,fw,bY,fo,hb,Option.getD_some]
        exact⟨is1.map g.blk,is'.map g.blk,by simp,⟨.inr ⟨n,hn2 n (by simp),hlive,hb⟩,hv,cells,t,k2,j2⟩,i3⟩
      ·cases h
     ·cases h
    ·cases h
   ·split at h
    ·rename_i d hd
     simp only [Option.some.injEq,Prod.mk.injEq] at h
     obtain⟨rfl,rfl,rfl,rfl⟩:=h
     obtain⟨i1,i2,i4,i3⟩:=qP hM hρ hr (fun m hm=>hn m (List.mem_append_right _ hm)) hn2
     have h0:=N6 hM (names:=names) (hρ x) hd fun m hm=>hn m (List.mem_append_left _ hm)
     refine⟨i1,i2,i4,?_⟩
     simp only [List.map_cons,fw,GY h0]
     exact⟨h0,i3⟩
    ·cases h
theorem CH:∀ {ns:List Nat},(∀ n ∈ ns,∃ b,g.blk n=some b)->fo g ns=ns.filterMap g.blk
 | [],_=>rfl
 | n::r,h=>by
  obtain⟨b,hb⟩:=h n (by simp)
  simp only [fo,List.filterMap_cons,hb,Option.getD_some]
  rw [CH fun m hm=>h m (List.mem_cons_of_mem _ hm)]
theorem D3 {ns is:List Nat}(h:∀ n ∈ ns,∃ b,g.blk n=some b):gE (fo g ns) (is.map g.blk)=(ns++is).filterMap g.blk:=by
 unfold gE
 rw [CH h,List.filterMap_append,List.filterMap_map]
 rfl
theorem HK (hM:Mem w0 N0 g T w):∀ {ns:List Nat},ns.Nodup->(∀ n ∈ ns,live T n)->(ns.filterMap g.blk).Nodup
 | [],_,_=>List.nodup_nil
 | n::r,hd,hl=>by
  have ih:=HK hM (List.nodup_cons.1 hd).2 fun m hm=>hl m (List.mem_cons_of_mem _ hm)
  simp only [List.filterMap_cons]
  split
  ·exact ih
  ·rename_i b hb
   refine List.nodup_cons.2 ⟨fun hx=>?_,ih⟩
   obtain⟨m,hm,he⟩:=List.mem_filterMap.1 hx
   have:=hM.inj n m b (hl n (by simp)) (hl m (List.mem_cons_of_mem _ hm)) hb he
   subst this
   exact (List.nodup_cons.1 hd).1 hm
theorem Av (hM:Mem w0 N0 g T w){ns is:List Nat}(hd:(ns++is).Nodup)(hb:∀ n ∈ ns,∃ cs,aj T n=some (.box cs))(hk:∀ n ∈ ns,∃ b,g.blk n=some b)(hi:∀ n ∈ is,∃ sz rows,aj T n=some (.own sz rows)) :
  (gE (fo g ns) (is.map g.blk)).Nodup:=by
 rw [D3 hk]
 refine HK hM hd fun n hn=>?_
 rcases List.mem_append.1 hn with hn | hn
 ·obtain⟨cs,hc⟩:=hb n hn
  unfold live;rw [hc];trivial
 ·obtain⟨sz,rows,hc⟩:=hi n hn
  unfold live;rw [hc];trivial
theorem KA (hM:Mem w0 N0 g T w){ns is:List Nat}(hb:∀ n ∈ ns,∃ cs,aj T n=some (.box cs))(hk:∀ n ∈ ns,∃ b,g.blk n=some b)(hi:∀ n ∈ is,∃ sz rows,aj T n=some (.own sz rows)){b:Nat}(hg:gbP P b) :
  b ∉ gE (fo g ns) (is.map g.blk):=by
 rw [D3 hk]
 intro h
 obtain⟨n,hn,e⟩:=List.mem_filterMap.1 h
 refine hM.gblk (n:=n) ?_ e hg
 rcases List.mem_append.1 hn with hn | hn
 ·obtain⟨cs,hc⟩:=hb n hn
  unfold live;rw [hc];trivial
 ·obtain⟨sz,rows,hc⟩:=hi n hn
  unfold live;rw [hc];trivial
end Go.AM

namespace Go.AM
open Go.RowKit
variable {P:Program}{E:Env}{w0:fi P}{w w':World}{N0:Nat->Prop}{g g':Gh}{T T':Tab}{r:Option Nat}{n:Nat}{o:Oper}{a:Act}{ρ:Operand->AV}{dst:Nat}
 {y:AV} {es:List (Nat × aD)}
theorem cw:∀ (names:List Nat) {T:Tab},Mem w0 N0 g T w->Mem w0 N0 g (aputs T (aU T names)) w/\aT N0 g T w g (aputs T (aU T names)) w /\
  ∀ b,am N0 g (aputs T (aU T names)) b->cZ N0 g T names b
 | [],T,hM=>⟨hM,aT.refl,fun b h=>by
   rcases h with h | ⟨m,h1,h2⟩
   ·exact .inl h
   ·exact .inr ⟨m,by simp,h1,h2⟩⟩
 | n::rest,T,hM=>by
  have step:∀ {e:aD},(match e with | .box _ | .own _ _=>False | _=>True)->∀ b,cZ N0 g (aput T n e) rest b->cZ N0 g T (n::rest) b:=by
   intro e he b hb
   rcases hb with h | ⟨m,h1,h2,h3⟩
   ·exact .inl h
   ·rw [dw] at h2
    by_cases hm:m=n
    ·subst hm
     simp only [if_true] at h2
     cases e <;> simp_all
    ·simp only [hm,if_false] at h2
     exact .inr ⟨m,by simp [hm,h1],h2,h3⟩
  simp only [aU]
  split
  ·rename_i s rows hm
   obtain⟨h1,h2⟩:=hM.freeze hm
   obtain⟨k1,k2,k3⟩:=cw rest h1
   exact⟨k1,h2.trans k2,fun b hb=>step (e:=.imm rows) trivial b (k3 b hb)⟩
  ·rename_i cs hm
   obtain⟨h1,h2⟩:=hM.retire (n:=n) (e:=.dead) (eN hm) trivial (fun _=>trivial)
   obtain⟨k1,k2,k3⟩:=cw rest h1
   exact⟨k1,h2.trans k2,fun b hb=>step (e:=.dead) trivial b (k3 b hb)⟩
  ·rename_i hx hy
   obtain⟨k1,k2,k3⟩:=cw rest hM
   refine⟨k1,k2,fun b hb=>?_⟩
   rcases k3 b hb with h | ⟨m,h1,h2,h3⟩
   ·exact .inl h
   ·refine .inr ⟨m,?_,h2,h3⟩
    simp only [List.mem_cons,not_or]
    refine⟨fun e=>?_,h1⟩
    subst e
    unfold live at h2
    cases hq:aj T m with
    | none=>rw [hq] at h2;exact h2
    | some q=>
     rw [hq] at h2
     cases q with
     | box cs=>exact hy cs hq
     | own s rows=>exact hx s rows hq
     | imm rows=>exact h2
     | dead=>exact h2
structure Imp where
 i:Nat
 j:Nat
 c:RC
 x:Value
def RC.ent:RC->aD
 | .d _=>.dead
 | .own sz rows=>.own sz rows
 | .obj cs _=>.box (cs.map .d)
def RC.cell (n:Nat):RC->C
 | .d x=>.d x
 | .own _ _=>.ref n
 | .obj _ off=>.ptr n off
def RC.wid:RC->Nat
 | .own sz _=>sz
 | _=>0
def RC.new:RC->Bool
 | .d _=>false
 | _=>true
def Imp.name (dst:Nat)(q:Imp):Nat:=dst+640000*q.i+10000*q.j
def Imp.entry (dst:Nat)(q:Imp):Nat × aD:=(q.name dst,q.c.ent)
theorem jh.erel {N:Nat->Prop}{ob:Option Nat}{c:RC}{x:Value}{m:Nat}(hn:c.new=true)(h:jh w N ob c x)(h1:g.blk m=ob)(h2:g.sv m=x)(h3:g.st m=c.wid):pv w N g T m c.ent:=by
 cases c with
 | d y=>cases hn
 | own sz rows=>exact⟨by rw [h1,h2];exact h,h3⟩
 | obj cs off=>
  obtain⟨b,cells,t,e1,e2,e3,e4,e5⟩:=h
  refine⟨b,cells,t,by rw [h1,e1],e3,by simpa using e4,fun i c x hc hx=>?_,fun i c hc=>?_⟩
  ·rw [List.getElem?_map] at hc
   cases hq:cs[i]? with
   | none=>rw [hq] at hc;cases hc
   | some d=>
    rw [hq] at hc
    simp only [Option.map_some,Option.some.injEq] at hc
    subst hc
    exact e5 i d x hq hx
  ·rw [List.getElem?_map] at hc
   cases hq:cs[i]? with
   | none=>rw [hq] at hc;cases hc
   | some d=>
    rw [hq] at hc
    simp only [Option.map_some,Option.some.injEq] at hc
    subst hc
    rfl
theorem jh.crel {N:Nat->Prop}{ob:Option Nat}{c:RC}{x:Value}{m:Nat}(hn:c.new=true)(h:jh w N ob c x)(h1:g.blk m=ob)(h2:g.sv m=x)(h3:(aj T m).isSome):cu w N g T (c.cell m) x/\okC (c.cell m)=true:=by
 cases c with
 | d y=>cases hn
 | own sz rows=>
  refine⟨⟨h3,h2.symm,?_⟩,rfl⟩
  rcases h with ⟨e,_,_⟩ | ⟨b,off,cap,cells,t,fz,_,e,_⟩
  ·exact⟨_,_,_,e⟩
  ·exact⟨_,_,_,e⟩
 | obj cs off=>
  obtain⟨b,cells,t,e1,e2,_⟩:=h
  exact⟨⟨h3,b,by rw [h1,e1],e2⟩,rfl⟩
theorem XJ (i:Nat):∀ (cs:List RC) (j:Nat) (xs:List Value),cs.length=xs.length ->
  ∃ L:List Imp,(bE (dst+640000*i) j cs).2=L.map (Imp.entry dst)/\(bE (dst+640000*i) j cs).1.length=cs.length /\
   ∀ (N:Nat->Prop) (ob:Nat->Nat->Option Nat),(∀ (k:Nat) (c:RC) (x:Value),cs[k]?=some c->xs[k]?=some x->jh w N (ob i (j+k)) c x) ->
   (∀ q ∈ L,q.c.new=true/\jh w N (ob q.i q.j) q.c q.x) /\
   ∀ (k:Nat) (c:C) (x:Value),(bE (dst+640000*i) j cs).1[k]?=some c->xs[k]?=some x->(∃ d,c=.d d/\aH w N d x)\/∃ q ∈ L,c=q.c.cell (q.name dst)/\q.x=x
 | [],j,xs,hl=>⟨[],rfl,rfl,fun N ob h=>⟨by simp,by simp [bE]⟩⟩
 | c::rest,j,[],hl=>by simp at hl
 | c::rest,j,x::xs,hl=>by
  obtain⟨L,h1,h3,h⟩:=XJ i rest (j+1) xs (by simpa using hl)
  cases c with
  | d y=>
   refine⟨L,by simpa [bE] using h1,by simp [bE,h3],fun N ob hr=>?_⟩
   obtain⟨h2,h4⟩:=h N ob (fun k c' x' hc hx=>by have:=hr (k+1) c' x' (by simpa using hc) (by simpa using hx);rwa [show j+(k+1)=j+1+k by omega] at this)
   refine⟨h2,fun k c' x' hc hx=>?_⟩
   cases k with
   | zero=>
    have h0:=hr 0 (.d y) x rfl rfl
    simp [bE] at hc hx
    subst hc;subst hx
    exact .inl ⟨y,rfl,h0⟩
   | succ k=>exact h4 k c' x' (by simpa [bE] using hc) (by simpa using hx)
  | own sz rows=>
   refine⟨⟨i,j,.own sz rows,x⟩::L,by simp [bE,Imp.entry,Imp.name,RC.ent,h1],by simp [bE,h3],fun N ob hr=>?_⟩
   obtain⟨h2,h4⟩:=h N ob (fun k c' x' hc hx=>by have:=hr (k+1) c' x' (by simpa using hc) (by simpa using hx);rwa [show j+(k+1)=j+1+k by omega] at this)
   refine⟨fun q hq=>?_,fun k c' x' hc hx=>?_⟩
   ·rcases List.mem_cons.1 hq with rfl | hq
    ·exact⟨rfl,hr 0 (.own sz rows) x rfl rfl⟩
    ·exact h2 q hq
   ·cases k with
    | zero=>
     simp [bE] at hc hx
     subst hc;subst hx
     exact .inr ⟨_,List.mem_cons_self,rfl,rfl⟩
    | succ k=>
     rcases h4 k c' x' (by simpa [bE] using hc) (by simpa using hx) with h | ⟨q,hq,e⟩
     ·exact .inl h
     ·exact .inr ⟨q,List.mem_cons_of_mem _ hq,e⟩
  | obj cs off=>
   refine⟨⟨i,j,.obj cs off,x⟩::L,by simp [bE,Imp.entry,Imp.name,RC.ent,h1],by simp [bE,h3],fun N ob hr=>?_⟩
   obtain⟨h2,h4⟩:=h N ob (fun k c' x' hc hx=>by have:=hr (k+1) c' x' (by simpa using hc) (by simpa using hx);rwa [show j+(k+1)=j+1+k by omega] at this)
   refine⟨fun q hq=>?_,fun k c' x' hc hx=>?_⟩
   ·rcases List.mem_cons.1 hq with rfl | hq
    ·exact⟨rfl,hr 0 (.obj cs off) x rfl rfl⟩
    ·exact h2 q hq
   ·cases k with
    | zero=>
     simp [bE] at hc hx
     subst hc;subst hx
     exact .inr ⟨_,List.mem_cons_self,rfl,rfl⟩
    | succ k=>
     rcases h4 k c' x' (by simpa [bE] using hc) (by simpa using hx) with h | ⟨q,hq,e⟩
     ·exact .inl h
     ·exact .inr ⟨q,List.mem_cons_of_mem _ hq,e⟩
def HB (w:World)(N:Nat->Prop)(dst:Nat)(L:List Imp)(p:Bool × List C)(v:Value):Prop:=
 ∃ xs:List Value,(if p.1 then v=.agg xs.toArray else xs=[v])/\p.2.length=xs.length /\
  ∀ (k:Nat) (c:C) (x:Value),p.2[k]?=some c->xs[k]?=some x->(∃ d,c=.d d/\aH w N d x)\/∃ q ∈ L,c=q.c.cell (q.name dst)/\q.x=x
theorem HB.more {N:Nat->Prop}{L L':List Imp}{p:Bool × List C}{v:Value}(h:HB w N dst L p v)(hL:∀ q ∈ L,q ∈ L'):HB w N dst L' p v:=by
 obtain⟨xs,h1,h2,h4⟩:=h
 refine⟨xs,h1,h2,fun k c x hc hx=>?_⟩
 rcases h4 k c x hc hx with h | ⟨q,hq,e⟩
 ·exact .inl h
 ·exact .inr ⟨q,hL q hq,e⟩
theorem Ke {N1:Nat->Prop}{ob1:Nat->Nat->Option Nat}:∀ (res:List RV) (i:Nat) (vs:List Value),res.length=vs.length ->
  (∀ (k:Nat) (x:RV) (u:Value),res[k]?=some x->vs[k]?=some u->pW w N1 (ob1 (i+k)) x u) ->
  ∃ L:List Imp,(bf dst i res).2=L.map (Imp.entry dst)/\(bf dst i res).1.length=res.length /\
   ∀ (N:Nat->Prop) (ob:Nat->Nat->Option Nat),(∀ (k:Nat) (x:RV) (u:Value),res[k]?=some x->vs[k]?=some u->pW w N (ob (i+k)) x u) ->
   (∀ q ∈ L,q.c.new=true/\jh w N (ob q.i q.j) q.c q.x) /\
   ∀ (k:Nat) (p:Bool × List C) (u:Value),(bf dst i res).1[k]?=some p->vs[k]?=some u->HB w N dst L p u
 | [],i,vs,hl,_=>⟨[],rfl,rfl,fun N ob h=>⟨by simp,by simp [bf]⟩⟩
 | x::rest,i,[],hl,_=>by simp at hl
 | (b,cs)::rest,i,u::vs,hl,hsh=>by
  obtain⟨L,h1,h3,h⟩:=Ke (ob1:=ob1) rest (i+1) vs (by simpa using hl) (fun k c' x' hc hx=>by have:=hsh (k+1) c' x' (by simpa using hc) (by simpa using hx);rwa [show i+(k+1)=i+1+k by omega] at this)
  have hx:∃ xs:List Value,(if b then u=.agg xs.toArray else xs=[u])/\cs.length=xs.length /\
    ∀ (N:Nat->Prop) (ob:Nat->Option Nat),pW w N ob (b,cs) u->∀ (k:Nat) (c:RC) (x:Value),cs[k]?=some c->xs[k]?=some x->jh w N (ob (0+k)) c x:=by
   have h0:=hsh 0 (b,cs) u rfl rfl
   cases b with
   | true=>
    obtain⟨xs,rfl,e2,_⟩:=h0
    refine⟨xs.toList,by simp,by simpa using e2,fun N ob hr k c x hc hx=>?_⟩
    obtain⟨xs',e1,_,e3⟩:=hr
    simp only [Value.agg.injEq] at e1
    subst e1
    rw [Nat.zero_add]
    exact e3 k c x hc (by simpa using hx)
   | false=>
    obtain⟨c,rfl,_⟩:=h0
    refine⟨[u],by simp,rfl,fun N ob hr k c' x hc hx=>?_⟩
    obtain⟨c'',e1,e2⟩:=hr
    simp only [List.cons.injEq,and_true] at e1
    subst e1
    cases k with
    | zero=>simp at hc hx;subst hc;subst hx;exact e2
    | succ k=>simp at hc
  obtain⟨xs,e1,e2,e3⟩:=hx
  obtain⟨L',k1,k3,k⟩:=XJ (w:=w) (dst:=dst) i cs 0 xs e2
  refine⟨L'++L,by simp [bf,k1,h1],by simp [bf,h3],fun N ob hr=>?_⟩
  obtain⟨m1,m2⟩:=h N ob (fun k c' x' hc hx=>by have:=hr (k+1) c' x' (by simpa using hc) (by simpa using hx);rwa [show i+(k+1)=i+1+k by omega] at this)
  obtain⟨n1,n2⟩:=k N ob (e3 N (ob i) (hr 0 (b,cs) u rfl rfl))
  refine⟨fun q hq=>?_,fun k' p u' hp hu=>?_⟩
  ·rcases List.mem_append.1 hq with hq | hq
   ·exact n1 q hq
   ·exact m1 q hq
  ·cases k' with
   | zero=>
    simp [bf] at hp hu
    subst hp;subst hu
    exact (HB.more ⟨xs,e1,by rw [k3,e2],n2⟩ (fun q hq=>List.mem_append_left _ hq))
   | succ k'=>exact (m2 k' p u' (by simpa [bf] using hp) (by simpa using hu)).more (fun q hq=>List.mem_append_right _ hq)
theorem qp {n:Nat}:∀ {es:List (Nat × aD)},CY n es=true->aj es n=none
 | [],_=>rfl
 | p::r,h=>by
  simp only [CY] at h
  split at h
  ·cases h
  ·rename_i hp
   simp only [aj,hp,if_false]
   exact qp h
theorem qd:∀ {es:List (Nat × aD)} {T:Tab},cO T es=true->∀ m,aj (aputs T es) m=(match aj es m with | some e=>some e | none=>aj T m)/\((aj es m).isSome->aj T m=none)
 | [],T,_,m=>⟨rfl,by simp [aj]⟩
 | (k,e)::r,T,h,m=>by
  simp only [cO,Bool.and_eq_true] at h
  obtain⟨⟨h1,h2⟩,h3⟩:=h
  have hk:=bU h1
  have hfr:cO (aput T k e) r=true:=by
   have:∀ {r:List (Nat × aD)},CY k r=true->cO T r=true->cO (aput T k e) r=true:=by
    intro r
    induction r with
    | nil=>intro _ _;rfl
    | cons p r ih=>
     intro a b
     simp only [CY] at a
     split at a
     ·cases a
     ·rename_i hp
      simp only [cO,Bool.and_eq_true] at b ⊢
      exact⟨⟨by rw [bt _ _ hp];exact b.1.1,b.1.2⟩,ih a b.2⟩
   exact this h2 h3
  obtain⟨i1,i2⟩:=qd hfr m
  simp only [aputs,aj]
  by_cases hm:k=m
  ·subst hm
   simp only [if_true]
   rw [i1,qp h2]
   exact⟨bg _ _ _,fun _=>hk⟩
  ·simp only [hm,if_false]
   rw [i1,bt _ _ (Ne.symm hm)]
   refine⟨rfl,fun hs=>?_⟩
   have:=i2 hs
   rwa [bt _ _ (Ne.symm hm)] at this
theorem gv {L:List Imp}(q:Imp)(hq:q ∈ L):(aj (L.map (Imp.entry dst)) (q.name dst)).isSome:=by
 induction L with
 | nil=>simp at hq
 | cons p r ih=>
  simp only [List.map_cons,Imp.entry,aj]
  split
  ·rfl
  ·rcases List.mem_cons.1 hq with rfl | hq
   ·simp_all
   ·exact ih hq
def dR (dst:Nat)(m:Nat):List Imp->Option Imp
 | []=>none
 | q::r=>if q.name dst=m then some q else dR dst m r
theorem nl {m:Nat}:∀ {L:List Imp},aj (L.map (Imp.entry dst)) m=(dR dst m L).map fun q=>q.c.ent
 | []=>rfl
 | q::r=>by
  simp only [List.map_cons,Imp.entry,aj,dR]
  split
  ·rfl
  ·exact nl
theorem gS {m:Nat}{q:Imp}:∀ {L:List Imp},dR dst m L=some q->q ∈ L/\q.name dst=m
 | [],h=>by simp [dR] at h
 | p::r,h=>by
  simp only [dR] at h
  split at h
  ·simp only [Option.some.injEq] at h;subst h;exact⟨List.mem_cons_self,by assumption⟩
  ·have:=gS h;exact⟨List.mem_cons_of_mem _ this.1,this.2⟩
theorem js {q:Imp}:∀ {L:List Imp} {T:Tab},cO T (L.map (Imp.entry dst))=true->q ∈ L->dR dst (q.name dst) L=some q
 | [],_,_,h=>by simp at h
 | p::r,T,hf,h=>by
  simp only [List.map_cons,cO,Bool.and_eq_true] at hf
  simp only [dR]
  rcases List.mem_cons.1 h with rfl | h
  ·simp
  ·have hne:p.name dst ≠ q.name dst:=fun e=>by
    have h1:=qp hf.1.2
    have h2:=gv (dst:=dst) q h
    simp only [Imp.entry] at h1
    rw [e] at h1
    rw [h1] at h2
    cases h2
   rw [if_neg hne]
   exact js hf.2 h
end Go.AM

namespace Go.AM
set_option linter.unusedVariables false
set_option linter.unusedSimpArgs false
open Go.RowKit
variable {P:Program}{E:Env}{w0:fi P}{w w':World}{N0:Nat->Prop}{g g':Gh}{T T':Tab}{r:Option Nat}{n:Nat}{o:Oper}{a:Act}{ρ:Operand->AV}{dst:Nat}
 {y:AV} {es:List (Nat × aD)}
theorem aH.flat {N N':Nat->Prop}{d:DC}{v:Value}(h:aH w N d v)(hf:kZ d=false):aH w N' d v:=by
 cases h with
 | v h=>exact .v h
 | nan h=>exact .nan h
 | cx h1 h2=>exact .cx h1 h2
 | pt=>exact .pt
 | fn hl hd=>
  rename_i f caps cs
  cases caps with
  | nil=>exact .fn hl (by simp)
  | cons=>simp [kZ] at hf
 | nil=>simp [kZ] at hf
 | sl=>simp [kZ] at hf
 | csl=>simp [kZ] at hf
 | cref=>simp [kZ] at hf
 | ifc=>simp [kZ] at hf
theorem ci.less {N N':Nat->Prop}{sz:Nat}{rows:List (List DC)}{v:Value}{ob:Option Nat}(hd:∀ d v,(∃ r ∈ rows,d ∈ r)->aH w N d v->aH w N' d v)(h:ci w N sz rows v ob):ci w N' sz rows v ob:=by
 rcases h with h | ⟨b,off,cap,cells,t,fz,h1,h2,h3,h4,h5,h6,h7,h8,h9,h10⟩
 ·exact .inl h
 ·exact .inr ⟨b,off,cap,cells,t,fz,h1,h2,h3,h4,h5,h6,h7,h8,h9,fun i j r d hr hdd=>by
   obtain⟨c,hc,hx⟩:=h10 i j r d hr hdd
   exact⟨c,hc,hd d c ⟨r,List.mem_of_getElem? hr,List.mem_of_getElem? hdd⟩ hx⟩⟩
theorem aak {rows:List (List DC)}(h:ju rows=true){d:DC}(hd:∃ r ∈ rows,d ∈ r):kZ d=false:=by
 obtain⟨r,hr,hd⟩:=hd
 have:=List.all_eq_true.1 (List.all_eq_true.1 h r hr) d hd
 simpa using this
theorem jh.less {N N':Nat->Prop}{ob:Option Nat}{c:RC}{v:Value}(hn:(∀ b,N' b->N b)\/eo c=false)(h:jh w N ob c v):jh w N' ob c v:=by
 cases c with
 | obj cs off=>
  obtain⟨b,cells,t,e1,e2,e3,e4,e5⟩:=h
  refine⟨b,cells,t,e1,e2,e3,e4,fun j d x hd hx=>?_⟩
  rcases hn with hn | hn
  ·exact (e5 j d x hd hx).less hn
  ·exact (e5 j d x hd hx).flat (by simpa using List.any_eq_false.1 hn d (List.mem_of_getElem? hd))
 | d x=>
  rcases hn with hn | hn
  ·exact aH.less hn h
  ·exact aH.flat h hn
 | own sz rows=>
  refine ci.less (fun d v hd hx=>?_) h
  rcases hn with hn | hn
  ·exact hx.less hn
  ·simp only [eo,Bool.not_eq_eq_eq_not,Bool.not_false] at hn
   exact hx.flat (aak hn hd)
theorem pW.less {N N':Nat->Prop}{ob:Nat->Option Nat}{x:RV}{v:Value}(hn:(∀ b,N' b->N b)\/x.2.any eo=false)(h:pW w N ob x v):pW w N' ob x v:=by
 obtain⟨b,cs⟩:=x
 have hc:∀ c ∈ cs,(∀ b,N' b->N b)\/eo c=false:=fun c hc=>by
  rcases hn with hn | hn
  ·exact .inl hn
  ·exact .inr (by simpa using List.any_eq_false.1 hn c hc)
 cases b with
 | true=>
  obtain⟨xs,h1,h2,h3⟩:=h
  exact⟨xs,h1,h2,fun j c x hcj hx=>(h3 j c x hcj hx).less (hc c (List.mem_of_getElem? hcj))⟩
 | false=>
  obtain⟨c,h1,h2⟩:=h
  subst h1
  exact⟨c,rfl,h2.less (hc c (by simp))⟩
theorem Ih {N:Nat->Prop}{l:List (Bool × List C)}{vs:Array Value}(hl:l.length=vs.size)(h:∀ (i:Nat) (p:Bool × List C) (x:Value),l[i]?=some p->vs[i]?=some x->gh w N g T p.1 p.2 x) :
  aJ w N g T (IS l) (if h:vs.size=1 then vs[0] else .tuple vs):=by
 unfold IS
 split
 ·rename_i b cs
  have h1:vs.size=1:=by simpa using hl.symm
  rw [dif_pos h1]
  exact h 0 (b,cs) _ rfl (by simp [h1])
 ·rename_i hne
  have h1:¬ vs.size=1:=fun h1=>by
   cases l with
   | nil=>simp at hl;omega
   | cons p rest=>
    cases rest with
    | nil=>exact hne p.1 p.2 rfl
    | cons=>simp at hl;omega
  rw [dif_neg h1]
  exact⟨vs,rfl,hl,h⟩
theorem Jq (hM:Mem w0 N0 g T w){names:List Nat}{res:List RV}{v:Value}(hext:Below w.heap.size w w')(hres:Uj w (cZ N0 g T names) res v w')
  (hc:dN dst T names res=some (y,es)):Res w0 N0 g T w y es v w':=by
 obtain⟨vs,ob,hv,hlen,hrel,hrng,hinj⟩:=hres
 have hfz:∃ frz,(dN dst T names res=if cO (aputs T frz) (bf dst 0 res).2 then some (IS (bf dst 0 res).1,frz++(bf dst 0 res).2) else none)/\Mem w0 N0 g (aputs T frz) w/\aT N0 g T w g (aputs T frz) w /\
   ((∀ b,am N0 g (aputs T frz) b->cZ N0 g T names b)\/res.any (fun r=>r.2.any eo)=false):=by
  cases hne:names.isEmpty with
  | true=>
   have:names=[]:=List.isEmpty_iff.1 hne
   subst this
   obtain⟨k1,k2,k3⟩:=cw [] hM
   exact⟨[],by simp [dN],hM,aT.refl,.inl k3⟩
  | false=>
   cases hvw:res.any (fun r=>r.2.any eo) with
   | true=>
    obtain⟨k1,k2,k3⟩:=cw names hM
    exact⟨aU T names,by simp [dN,hne,hvw],k1,k2,.inl k3⟩
   | false=>exact⟨[],by simp [dN,hne,hvw],hM,aT.refl,.inr rfl⟩
 obtain⟨frz,heq,hM1,hK1,hav⟩:=hfz
 rw [heq] at hc
 split at hc
 ·rename_i hfr
  simp only [Option.some.injEq,Prod.mk.injEq] at hc
  obtain⟨rfl,rfl⟩:=hc
  refine Res.trans hK1 ?_
  obtain⟨L,h1,h3,h4⟩:=Ke (dst:=dst) (ob1:=ob) res 0 vs.toList (by simpa using hlen) (fun k x u hx hu=>by rw [Nat.zero_add];exact hrel k x u hx (by simpa using hu))
  rw [h1] at hfr
  rw [h1]
  have hget:=qd hfr
  have hview:∀ (x:RV),x ∈ res->res.any (fun r=>r.2.any eo)=false->x.2.any eo=false:=fun x hx h=>by simpa using List.any_eq_false.1 h x hx
  let g':Gh:={
           blk:=fun m=>if (aj (aputs T frz) m).isSome then g.blk m else (dR dst m L).bind fun q=>ob q.i q.j
           sv:=fun m=>if (aj (aputs T frz) m).isSome then g.sv m else ((dR dst m L).map Imp.x).getD undef
           st:=fun m=>if (aj (aputs T frz) m).isSome then g.st m else ((dR dst m L).map fun q=>q.c.wid).getD 0 }
  have hnewq:∀ q ∈ L,aj (aputs T frz) (q.name dst)=none:=fun q hq=>(hget (q.name dst)).2 (gv q hq)
  have hblk:∀ q ∈ L,g'.blk (q.name dst)=ob q.i q.j/\g'.sv (q.name dst)=q.x/\g'.st (q.name dst)=q.c.wid:=fun q hq=>by
   simp [g',hnewq q hq,js hfr hq]
  have hfind:∀ m,aj (aputs T frz) m=none->(aj (aputs (aputs T frz) (L.map (Imp.entry dst))) m).isSome->∃ q ∈ L,q.name dst=m/\aj (aputs (aputs T frz) (L.map (Imp.entry dst))) m=some q.c.ent:=fun m hm hs=>by
   have:=(hget m).1
   rw [nl] at this
   cases hq:dR dst m L with
   | none=>rw [hq] at this;simp only [Option.map_none] at this;rw [this,hm] at hs;cases hs
   | some q=>rw [hq] at this;simp only [Option.map_some] at this;exact⟨q,(gS hq).1,(gS hq).2,this⟩
  -- what is avoided behind the call
  have hav2:∀ b,am N0 g' (aputs (aputs T frz) (L.map (Imp.entry dst))) b->am N0 g (aputs T frz) b\/∃ i j,ob i j=some b:=by
   rintro b (hb | ⟨m,hl,hbm⟩)
   ·exact .inl (.inl hb)
   ·cases hm:aj (aputs T frz) m with
    | none=>
     obtain⟨q,hq,rfl,_⟩:=hfind m hm (bT hl)
     rw [(hblk q hq).1] at hbm
     exact .inr ⟨_,_,hbm⟩
    | some e=>
     refine .inl (.inr ⟨m,?_,?_⟩)
     ·unfold live at hl ⊢
      rw [(hget m).1] at hl
      cases hq:aj (L.map (Imp.entry dst)) m with
      | none=>rw [hq] at hl;exact hl
      | some e'=>have:=(hget m).2 (by rw [hq];rfl);rw [hm] at this;cases this
     ·simpa [g',hm] using hbm
  have hrel2:∀ (k:Nat) (x:RV) (u:Value),res[k]?=some x->vs[k]?=some u->pW w' (am N0 g' (aputs (aputs T frz) (L.map (Imp.entry dst)))) (ob k) x u:=fun k x u hx hu=>by
   refine (hrel k x u hx hu).less ?_
   rcases hav with hav | hav
   ·refine .inl fun b hb=>?_
    rcases hav2 b hb with h | h
    ·exact .inl (hav b h)
    ·exact .inr h
   ·exact .inr (hview x (List.mem_of_getElem? hx) hav)
  obtain⟨hSO,hIV⟩:=h4 _ ob (fun k x u hx hu=>by rw [Nat.zero_add];exact hrel2 k x u hx (by simpa using hu))
  obtain⟨q1,q2⟩:=hM1.creates (g':=g') (T':=aputs (aputs T frz) (L.map (Imp.entry dst))) hext (fun m hm=>by
    rw [(hget m).1]
    cases hq:aj (L.map (Imp.entry dst)) m with
    | none=>rfl
    | some e=>have:=(hget m).2 (by rw [hq];rfl);rw [this] at hm;cases hm)
   (fun m hm=>by simp [g',hm])
   (fun m b hm hl hb=>by
    obtain⟨q,hq,rfl,_⟩:=hfind m hm (bT hl)
    rw [(hblk q hq).1] at hb
    exact hrng _ _ b hb)
   (fun m k b hm hk hlm hlk hbm hbk=>by
    obtain⟨q,hq,rfl,_⟩:=hfind m hm (bT hlm)
    obtain⟨p,hp,rfl,_⟩:=hfind k hk (bT hlk)
    rw [(hblk q hq).1] at hbm
    rw [(hblk p hp).1] at hbk
    obtain⟨e1,e2⟩:=hinj _ _ _ _ b hbm hbk
    simp [Imp.name,e1,e2])
   (fun hK m e hm he=>by
    obtain⟨q,hq,rfl,hq'⟩:=hfind m hm (eN he)
    rw [he] at hq'
    simp only [Option.some.injEq] at hq'
    subst hq'
    obtain⟨b1,b2,b3⟩:=hblk q hq
    exact (hSO q hq).2.erel (hSO q hq).1 b1 b2 b3)
  refine⟨g',q1,q2,?_⟩
  rw [hv]
  refine Ih (by rw [h3,hlen]) (fun i p x hp hx=>?_)
  obtain⟨xs,e1,e2,e3⟩:=hIV i p x hp (by simpa using hx)
  have hcell:∀ (k:Nat) (c:C) (u:Value),p.2[k]?=some c->xs[k]?=some u->cu w' (am N0 g' (aputs (aputs T frz) (L.map (Imp.entry dst)))) g' (aputs (aputs T frz) (L.map (Imp.entry dst))) c u:=fun k c u hc hu=>by
   rcases e3 k c u hc hu with ⟨d,rfl,hd⟩ | ⟨q,hq,rfl,hqx⟩
   ·exact hd
   ·obtain⟨b1,b2,b3⟩:=hblk q hq
    subst hqx
    refine ((hSO q hq).2.crel (hSO q hq).1 b1 b2 ?_).1
    rw [(hget _).1]
    have:=gv (dst:=dst) q hq
    cases hz:aj (L.map (Imp.entry dst)) (q.name dst) with
    | none=>rw [hz] at this;cases this
    | some e=>rfl
  obtain⟨b,cs⟩:=p
  cases b with
  | true=>
   simp only [if_true] at e1
   exact⟨xs.toArray,e1,by simpa using e2,fun k c u hc hu=>hcell k c u hc (by simpa using hu)⟩
  | false=>
   simp only [Bool.false_eq_true,if_false] at e1
   subst e1
   obtain⟨c,rfl⟩:∃ c,cs=[c]:=by
    cases cs with
    | nil=>simp at e2
    | cons c rest=>simp at e2;subst e2;exact⟨c,rfl⟩
   exact⟨c,rfl,hcell 0 c x rfl rfl⟩
 ·cases hc
theorem Mem.createsM (hM:Mem w0 N0 g T w){ns is:List Nat}(hext:ux ((ns++is).filterMap g.blk) w w')(hns:∀ n ∈ ns,live T n)(hnb:∀ n ∈ ns,∃ b,g.blk n=some b)(his:∀ n ∈ is,live T n)
  (hT:∀ m,(aj T m).isSome->m ∉ ns->m ∉ is->aj T' m=aj T m) (hT2:∀ n ∈ ns,live T' n) (hT3:∀ n ∈ is,aj T' n=some .dead)
  (hg:∀ m,(aj T m).isSome->g'.blk m=g.blk m/\g'.sv m=g.sv m/\g'.st m=g.st m)
  (hnew:∀ m b,aj T m=none->live T' m->g'.blk m=some b->(w.heap.size<=b\/∃ n ∈ is,g.blk n=some b)/\b < w'.heap.size)
  (hinj:∀ m k b,aj T m=none->aj T k=none->live T' m->live T' k->g'.blk m=some b->g'.blk k=some b->m=k)
  (hE:aT N0 g T w g' T' w'->∀ m e,(aj T m=none\/m ∈ ns)->aj T' m=some e->pv w' (am N0 g' T') g' T' m e) :
  Mem w0 N0 g' T' w'/\aT N0 g T w g' T' w':=by
 have hdead:∀ n ∈ is,¬ live T' n:=fun n hn hl=>by unfold live at hl;rw [hT3 n hn] at hl;exact hl
 have hold:∀ m,(aj T m).isSome->live T' m->live T m:=fun m hm hl=>by
  by_cases hin:m ∈ ns
  ·exact hns m hin
  ·by_cases hii:m ∈ is
   ·exact his m hii
   ·unfold live at hl ⊢;rw [hT m hm hin hii] at hl;exact hl
 have hcase:∀ m,aj T m=none\/(aj T m).isSome:=fun m=>by cases aj T m <;> simp
 have hlv:∀ n ∈ ns++is,live T n:=fun n hn=>(List.mem_append.1 hn).elim (hns n) (his n)
 have hbl:∀ b,b ∈ (ns++is).filterMap g.blk->∃ n ∈ ns++is,g.blk n=some b:=fun b hb=>by
  obtain⟨n,h1,h2⟩:=List.mem_filterMap.1 hb
  exact⟨n,h1,h2⟩
 have hnot:∀ m b,m ∉ ns->m ∉ is->live T m->g.blk m=some b->b ∉ (ns++is).filterMap g.blk:=fun m b hm hi hl hb hx=>by
  obtain⟨n,h1,h2⟩:=hbl b hx
  have:=hM.inj n m b (hlv n h1) hl h2 hb
  subst this
  exact (List.mem_append.1 h1).elim hm hi
 have hK:aT N0 g T w g' T' w':=by
  refine aT.of hext.size (fun b hb ha=>hext.block b hb fun hx=>?_) (fun b hb ha=>?_) (fun m hm=>?_) hg
  ·obtain⟨n,h1,h2⟩:=hbl b hx
   exact ha (.inr ⟨n,hlv n h1,h2⟩)
  ·rcases ha with ha | ⟨m,hl,hbm⟩
   ·exact .inl ha
   ·rcases hcase m with hm | hm
    ·rcases (hnew m b hm hl hbm).1 with h | ⟨n,h1,h2⟩
     ·omega
     ·exact .inr ⟨n,his n h1,h2⟩
    ·exact .inr ⟨m,hold m hm hl,by rw [<- (hg m hm).1];exact hbm⟩
  ·by_cases hin:m ∈ ns
   ·exact bT (hT2 m hin)
   ·by_cases hii:m ∈ is
    ·rw [hT3 m hii];rfl
    ·rw [hT m hm hin hii];exact hm
 have hover:pC w0 w w':=⟨hext.os,hext.tape,hext.output,hext.size,fun k hk ho=>hext.block k (Nat.lt_of_lt_of_le hk hM.below.size) fun hx=>by
  obtain⟨n,h1,h2⟩:=hbl k hx
  exact (hM.rng n k (hlv n h1) h2).1.elim (fun h=>by omega) ho⟩
 have hmix:∀ m k b,aj T m=none->(aj T k).isSome->live T' m->live T' k->g'.blk m=some b->g'.blk k=some b->False:=fun m k b h1 h2 hm hk bm bk=>by
  have hk':=hold k h2 hk
  rw [(hg k h2).1] at bk
  have hr:=(hM.rng k b hk' bk).2
  rcases (hnew m b h1 hm bm).1 with h | ⟨n,n1,n2⟩
  ·omega
  ·have:=hM.inj n k b (his n n1) hk' n2 bk
   subst this
   exact hdead n n1 hk
 refine⟨hM.upd hover hK (fun m e' he'=>?_) (fun m k b hm hk bm bk=>?_) (fun m b hm bm=>?_),hK⟩
 ·rcases hcase m with h | h
  ·exact .inr (hE hK m e' (.inl h) he')
  ·by_cases hin:m ∈ ns
   ·exact .inr (hE hK m e' (.inr hin) he')
   ·by_cases hii:m ∈ is
    ·rw [hT3 m hii] at he'
     simp only [Option.some.injEq] at he'
     subst he'
     exact .inr trivial
    ·rw [hT m h hin hii] at he'
     exact .inl ⟨he',fun b hl hb=>hext.block b (hM.rng m b hl hb).2 (hnot m b hin hii hl hb)⟩
 ·rcases hcase m with h1 | h1 <;> rcases hcase k with h2 | h2
  ·exact hinj m k b h1 h2 hm hk bm bk
  ·exact (hmix m k b h1 h2 hm hk bm bk).elim
  ·exact (hmix k m b h2 h1 hk hm bk bm).elim
  ·rw [(hg m h1).1] at bm
   rw [(hg k h2).1] at bk
   exact hM.inj m k b (hold m h1 hm) (hold k h2 hk) bm bk
 ·rcases hcase m with h1 | h1
  ·have h:=hnew m b h1 hm bm
   refine⟨?_,h.2⟩
   rcases h.1 with h' | ⟨n,n1,n2⟩
   ·exact .inl (Nat.le_trans hM.below.size h')
   ·exact (hM.rng n b (his n n1) n2).1
  ·rw [(hg m h1).1] at bm
   have:=hM.rng m b (hold m h1 hm) bm
   exact⟨this.1,Nat.lt_of_lt_of_le this.2 hext.size⟩
theorem uc:∀ {is:List Nat} {T:Tab} {m:Nat},(m ∈ is->aj (aputs T (DY is)) m=some .dead)/\(m ∉ is->aj (aputs T (DY is)) m=aj T m)
 | [],T,m=>⟨fun h=>by simp at h,fun _=>rfl⟩
 | n::r,T,m=>by
  obtain⟨h1,h2⟩:=uc (is:=r) (T:=aput T n .dead) (m:=m)
  refine⟨fun h=>?_,fun h=>?_⟩
  ·show aj (aputs (aput T n .dead) (DY r)) m=_
   by_cases hr:m ∈ r
   ·exact h1 hr
   ·rw [h2 hr]
    obtain rfl:=(List.mem_cons.1 h).resolve_right hr
    exact bg _ _ _
  ·simp only [List.mem_cons,not_or] at h
   show aj (aputs (aput T n .dead) (DY r)) m=_
   rw [h2 h.2,bt _ _ h.1]
theorem eY:∀ (names:List Nat) {T:Tab} {n:Nat},n ∉ names->aj (aputs T (aU T names)) n=aj T n
 | [],_,_,_=>rfl
 | m::r,T,n,h=>by
  have h1:n ≠ m:=fun e=>h (by simp [e])
  have h2:n ∉ r:=fun e=>h (by simp [e])
  simp only [aU]
  split
  ·simp only [aputs];rw [eY r h2,bt _ _ h1]
  ·simp only [aputs];rw [eY r h2,bt _ _ h1]
  ·exact eY r h2
theorem yR:∀ {ns:List Nat} {l:List (Bool × List C)} {bs:List (Nat × aD)},vP ns l=some bs ->
  l.length=ns.length/\(ns.Nodup->∀ {T:Tab},(∀ m,m ∉ ns->aj (aputs T bs) m=aj T m)/\∀ (k n:Nat),ns[k]?=some n->∃ cs,l[k]?=some (true,cs)/\aj (aputs T bs) n=some (.box cs))
 | [],[],bs,h=>by
  simp only [vP,Option.some.injEq] at h
  subst h
  exact⟨rfl,fun _ T=>⟨fun _ _=>rfl,fun k n h=>by simp at h⟩⟩
 | [],_::_,bs,h=>by simp [vP] at h
 | n::ns,[],bs,h=>by simp [vP] at h
 | n::ns,(false,cs)::r,bs,h=>by simp [vP] at h
 | n::ns,(true,cs)::r,bs,h=>by
  simp only [vP] at h
  split at h
  ·rename_i es he
   simp only [Option.some.injEq] at h
   subst h
   obtain⟨h1,h2⟩:=yR he
   refine⟨by simp [h1],fun hnd T=>?_⟩
   obtain⟨h3,h4⟩:=h2 (List.nodup_cons.1 hnd).2 (T:=aput T n (.box cs))
   refine⟨fun m hm=>?_,fun k m hk=>?_⟩
   ·simp only [List.mem_cons,not_or] at hm
    simp only [aputs]
    rw [h3 m hm.2,bt _ _ hm.1]
   ·cases k with
    | zero=>
     simp only [List.getElem?_cons_zero,Option.some.injEq] at hk
     subst hk
     refine⟨cs,rfl,?_⟩
     simp only [aputs]
     rw [h3 n (List.nodup_cons.1 hnd).1,bg]
    | succ k=>
     obtain⟨cs',e1,e2⟩:=h4 k m (by simpa using hk)
     exact⟨cs',by simpa using e1,e2⟩
  ·cases h
theorem Ho:∀ {bs:List Nat} {us:List Value} {w:World},jG w bs us->us.length=bs.length/\∀ (k b:Nat) (u:Value),bs[k]?=some b->us[k]?=some u->∃ cells t,w.heap[b]?=some (.cells cells t (0,0))/\u=.agg cells
 | [],us,w,h=>by obtain rfl:us=[]:=h;exact⟨rfl,fun k b u hb=>by simp at hb⟩
 | b::bs,[],w,h=>h.elim
 | b::bs,u::us,w,h=>by
  obtain⟨h1,h2⟩:=Ho h.2
  refine⟨by simp [h1],fun k b' u' hb hu=>?_⟩
  cases k with
  | zero=>simp at hb hu;subst hb;subst hu;exact h.1
  | succ k=>exact h2 k b' u' (by simpa using hb) (by simpa using hu)
theorem yG:∀ {ns:List Nat},(fo g ns).length=ns.length/\∀ (k n b:Nat),ns[k]?=some n->g.blk n=some b->(fo g ns)[k]?=some b
 | []=>⟨rfl,fun k n b h=>by simp at h⟩
 | n::ns=>by
  obtain⟨h1,h2⟩:=yG (ns:=ns)
  refine⟨by simp [fo,h1],fun k m b hk hb=>?_⟩
  cases k with
  | zero=>simp at hk;subst hk;simp [fo,hb]
  | succ k=>simp only [fo,List.getElem?_cons_succ];exact h2 k m b (by simpa using hk) hb
theorem wp (hM:Mem w0 N0 g T w){names ns is:List Nat}{res:List RV}{v:Value}{us:List Value}(hext:ux (gE (fo g ns) (is.map g.blk)) w w')(houts:jG w' (fo g ns) us)(hres:xd w (cZ N0 g T names) (is.map g.blk) res us v w')
  (hbox:∀ n ∈ ns,∃ cs,aj T n=some (.box cs)) (hblkn:∀ n ∈ ns,∃ b,g.blk n=some b) (hown:∀ n ∈ is,∃ sz rows,aj T n=some (.own sz rows)) (hdis:∀ n ∈ ns++is,n ∉ names) (hnd':(ns++is).Nodup)
  (hc:dA dst T names ns is res=some (y,es)):Res w0 N0 g T w y es v w':=by
 obtain⟨vs,ob,hv,hlen,hrel,hrng,hinj⟩:=hres
 have hnd:ns.Nodup:=(List.nodup_append.1 hnd').1
 have hni:∀ n ∈ ns,n ∉ is:=fun n h1 h2=>(List.nodup_append.1 hnd').2.2 n h1 n h2 rfl
 have hfz:∃ frz,dA dst T names ns is res=RX T frz (bf dst 0 res).2 (bf dst 0 res).1 ns is/\Mem w0 N0 g (aputs T frz) w/\aT N0 g T w g (aputs T frz) w /\
   ((∀ b,am N0 g (aputs T frz) b->cZ N0 g T names b)\/res.any (fun r=>r.2.any eo)=false)/\∀ n ∈ ns++is,aj (aputs T frz) n=aj T n:=by
  cases hne:names.isEmpty with
  | true=>
   have:names=[]:=List.isEmpty_iff.1 hne
   subst this
   obtain⟨k1,k2,k3⟩:=cw [] hM
   exact⟨[],by simp [dA],hM,aT.refl,.inl k3,fun _ _=>rfl⟩
  | false=>
   cases hvw:res.any (fun r=>r.2.any eo) with
   | true=>
    obtain⟨k1,k2,k3⟩:=cw names hM
    exact⟨aU T names,by simp [dA,hne,hvw],k1,k2,.inl k3,fun n hn=>eY names (hdis n hn)⟩
   | false=>exact⟨[],by simp [dA,hne,hvw],hM,aT.refl,.inr rfl,fun _ _=>rfl⟩
 obtain⟨frz,heq,hM1,hK1,hav,hfn⟩:=hfz
 rw [heq] at hc
 unfold RX at hc
 split at hc
 ·rename_i bs hbs
  split at hc
  ·rename_i hfr
   simp only [Option.some.injEq,Prod.mk.injEq] at hc
   obtain⟨rfl,rfl⟩:=hc
   refine Res.trans hK1 ?_
   rw [D3 hblkn] at hext
   have hus:=Ho houts
   have hbl:=yG (g:=g) (ns:=ns)
   have hun:us.length=ns.length:=by rw [hus.1,hbl.1]
   obtain⟨L,h1,h3,h4⟩:=Ke (dst:=dst) (ob1:=ob) res 0 (vs.toList++us) hlen (fun k x u hx hu=>by rw [Nat.zero_add];exact hrel k x u hx hu)
   rw [h1] at hfr
   rw [h1]
   have hll:(bf dst 0 res).1.length - ns.length=vs.size:=by rw [h3,hlen,List.length_append,hun];simp
   rw [hll] at hbs
   rw [hll]
   obtain⟨hbl1,hbl2⟩:=yR hbs
   obtain⟨hbo',hbi⟩:=hbl2 hnd (T:=aputs (aputs (aputs T frz) (L.map (Imp.entry dst))) (DY is))
   have hbo:∀ m,m ∉ ns->m ∉ is->aj (aputs (aputs (aputs (aputs T frz) (L.map (Imp.entry dst))) (DY is)) bs) m=aj (aputs (aputs T frz) (L.map (Imp.entry dst))) m:=fun m h1 h2=>by rw [hbo' m h1,uc.2 h2]
   have hbd:∀ m,m ∈ is->aj (aputs (aputs (aputs (aputs T frz) (L.map (Imp.entry dst))) (DY is)) bs) m=some .dead:=fun m h=>by rw [hbo' m fun h1=>hni m h1 h,uc.1 h]
   have hget:=qd hfr
   have hview:∀ (x:RV),x ∈ res->res.any (fun r=>r.2.any eo)=false->x.2.any eo=false:=fun x hx h=>by simpa using List.any_eq_false.1 h x hx
   unfold Res
   rw [cU,cU]
   generalize hT3:aputs (aputs (aputs (aputs T frz) (L.map (Imp.entry dst))) (DY is)) bs=T3 at hbo hbi hbd
   have hidx:∀ n ∈ ns,∃ k,ns[k]?=some n:=fun n hn=>List.mem_iff_getElem?.1 hn
   have hboxed:∀ n ∈ ns,∃ cs,aj T3 n=some (.box cs):=fun n hn=>by
    obtain⟨k,hk⟩:=hidx n hn
    obtain⟨cs,_,h⟩:=hbi k n hk
    exact⟨cs,h⟩
   have hsomeT:∀ n ∈ ns,(aj (aputs T frz) n).isSome:=fun n hn=>by
    obtain⟨cs,h⟩:=hbox n hn
    rw [hfn n (List.mem_append_left _ hn),h];rfl
   have hsomeI:∀ n ∈ is,(aj (aputs T frz) n).isSome:=fun n hn=>by
    obtain⟨sz,rows,h⟩:=hown n hn
    rw [hfn n (List.mem_append_right _ hn),h];rfl
   let g':Gh:={
            blk:=fun m=>if (aj (aputs T frz) m).isSome then g.blk m else (dR dst m L).bind fun q=>ob q.i q.j
            sv:=fun m=>if (aj (aputs T frz) m).isSome then g.sv m else ((dR dst m L).map Imp.x).getD undef
            st:=fun m=>if (aj (aputs T frz) m).isSome then g.st m else ((dR dst m L).map fun q=>q.c.wid).getD 0 }
   have hnewq:∀ q ∈ L,aj (aputs T frz) (q.name dst)=none:=fun q hq=>(hget (q.name dst)).2 (gv q hq)
   have hblk:∀ q ∈ L,g'.blk (q.name dst)=ob q.i q.j/\g'.sv (q.name dst)=q.x/\g'.st (q.name dst)=q.c.wid:=fun q hq=>by
    simp [g',hnewq q hq,js hfr hq]
   have hnewns:∀ m,aj (aputs T frz) m=none->m ∉ ns:=fun m hm hn=>by
    have:=hsomeT m hn;rw [hm] at this;cases this
   have hnewis:∀ m,aj (aputs T frz) m=none->m ∉ is:=fun m hm hn=>by
    have:=hsomeI m hn;rw [hm] at this;cases this
   have hfind:∀ m,aj (aputs T frz) m=none->(aj T3 m).isSome->∃ q ∈ L,q.name dst=m/\aj T3 m=some q.c.ent:=fun m hm hs=>by
    have:=(hget m).1
    rw [nl] at this
    rw [hbo m (hnewns m hm) (hnewis m hm)] at hs ⊢
    cases hq:dR dst m L with
    | none=>rw [hq] at this;simp only [Option.map_none] at this;rw [this,hm] at hs;cases hs
    | some q=>rw [hq] at this;simp only [Option.map_some] at this;exact⟨q,(gS hq).1,(gS hq).2,this⟩
   have hsame:∀ m,(aj (aputs T frz) m).isSome->m ∉ ns->m ∉ is->aj T3 m=aj (aputs T frz) m:=fun m hm hn hi=>by
    rw [hbo m hn hi,(hget m).1]
    cases hq:aj (L.map (Imp.entry dst)) m with
    | none=>rfl
    | some e=>have:=(hget m).2 (by rw [hq];rfl);rw [this] at hm;cases hm
   have hlivens:∀ n ∈ ns,live (aputs T frz) n:=fun n hn=>by
    obtain⟨cs,h⟩:=hbox n hn
    unfold live;rw [hfn n (List.mem_append_left _ hn),h];trivial
   have hliveis:∀ n ∈ is,live (aputs T frz) n:=fun n hn=>by
    obtain⟨sz,rows,h⟩:=hown n hn
    unfold live;rw [hfn n (List.mem_append_right _ hn),h];trivial
   have hnois:∀ m b,m ∉ is->live (aputs T frz) m->g.blk m=some b->some b ∉ is.map g.blk:=fun m b hm hl hb hx=>by
    obtain⟨n,hn,he⟩:=List.mem_map.1 hx
    have:=hM1.inj m n b hl (hliveis n hn) hb he
    subst this
    exact hm hn
   have hlive3:∀ n ∈ ns,live T3 n:=fun n hn=>by
    obtain⟨cs,h⟩:=hboxed n hn
    unfold live;rw [h];trivial
   have hav2:∀ b,am N0 g' T3 b->(am N0 g (aputs T frz) b/\some b ∉ is.map g.blk)\/∃ i j,ob i j=some b:=by
    rintro b (hb | ⟨m,hl,hbm⟩)
    ·refine .inl ⟨.inl hb,fun hx=>?_⟩
     obtain⟨n,hn,he⟩:=List.mem_map.1 hx
     have h1:=hM1.n0 b hb
     exact (hM1.rng n b (hliveis n hn) he).1.elim (fun h=>by omega) h1.2.1
    ·cases hm:aj (aputs T frz) m with
     | none=>
      obtain⟨q,hq,rfl,_⟩:=hfind m hm (bT hl)
      rw [(hblk q hq).1] at hbm
      exact .inr ⟨_,_,hbm⟩
     | some e=>
      have hmi:m ∉ is:=fun hi=>by unfold live at hl;rw [hbd m hi] at hl;exact hl
      have hlm:live (aputs T frz) m:=by
       by_cases hn:m ∈ ns
       ·exact hlivens m hn
       ·unfold live at hl ⊢
        rw [hsame m (by rw [hm];rfl) hn hmi] at hl
        exact hl
      have hbg:g.blk m=some b:=by simpa [g',hm] using hbm
      exact .inl ⟨.inr ⟨m,hlm,hbg⟩,hnois m b hmi hlm hbg⟩
   have hrel2:∀ (k:Nat) (x:RV) (u:Value),res[k]?=some x->(vs.toList++us)[k]?=some u->pW w' (am N0 g' T3) (ob k) x u:=fun k x u hx hu=>by
    refine (hrel k x u hx hu).less ?_
    rcases hav with hav | hav
    ·refine .inl fun b hb=>?_
     rcases hav2 b hb with h | h
     ·exact .inl ⟨hav b h.1,h.2⟩
     ·exact .inr h
    ·exact .inr (hview x (List.mem_of_getElem? hx) hav)
   obtain⟨hSO,hIV⟩:=h4 _ ob (fun k x u hx hu=>by rw [Nat.zero_add];exact hrel2 k x u hx hu)
   have hcellG:∀ (p:Bool × List C) (xs:List Value),(∀ (k:Nat) (c:C) (x:Value),p.2[k]?=some c->xs[k]?=some x->(∃ d,c=.d d/\aH w' (am N0 g' T3) d x)\/∃ q ∈ L,c=q.c.cell (q.name dst)/\q.x=x) ->
     ∀ (k:Nat) (c:C) (u:Value),p.2[k]?=some c->xs[k]?=some u->cu w' (am N0 g' T3) g' T3 c u/\okC c=true:=fun p xs e3 k c u hc hu=>by
    rcases e3 k c u hc hu with ⟨d,rfl,hd⟩ | ⟨q,hq,rfl,hqx⟩
    ·exact⟨hd,rfl⟩
    ·obtain⟨b1,b2,b3⟩:=hblk q hq
     subst hqx
     refine (hSO q hq).2.crel (hSO q hq).1 b1 b2 ?_
     rw [hbo _ (hnewns _ (hnewq q hq)) (hnewis _ (hnewq q hq)),(hget _).1]
     have:=gv (dst:=dst) q hq
     cases hz:aj (L.map (Imp.entry dst)) (q.name dst) with
     | none=>rw [hz] at this;cases this
     | some e=>rfl
   obtain⟨q1,q2⟩:=hM1.createsM (ns:=ns) (is:=is) (g':=g') (T':=T3) hext hlivens hblkn hliveis hsame hlive3 hbd
    (fun m hm=>by simp [g',hm])
    (fun m b hm hl hb=>by
     obtain⟨q,hq,rfl,_⟩:=hfind m hm (bT hl)
     rw [(hblk q hq).1] at hb
     refine⟨(hrng _ _ b hb).1.imp id fun h=>?_,(hrng _ _ b hb).2⟩
     obtain⟨n,hn,he⟩:=List.mem_map.1 h
     exact⟨n,hn,he⟩)
    (fun m k b hm hk hlm hlk hbm hbk=>by
     obtain⟨q,hq,rfl,_⟩:=hfind m hm (bT hlm)
     obtain⟨p,hp,rfl,_⟩:=hfind k hk (bT hlk)
     rw [(hblk q hq).1] at hbm
     rw [(hblk p hp).1] at hbk
     obtain⟨e1,e2⟩:=hinj _ _ _ _ b hbm hbk
     simp [Imp.name,e1,e2])
    (fun hK m e hm he=>by
     rcases hm with hm | hn
     ·obtain⟨q,hq,rfl,hq'⟩:=hfind m hm (eN he)
      rw [he] at hq'
      simp only [Option.some.injEq] at hq'
      subst hq'
      obtain⟨b1,b2,b3⟩:=hblk q hq
      exact (hSO q hq).2.erel (hSO q hq).1 b1 b2 b3
     ·obtain⟨k,hk⟩:=hidx m hn
      obtain⟨cs,hcs,hbx⟩:=hbi k m hk
      rw [he] at hbx
      simp only [Option.some.injEq] at hbx
      subst hbx
      obtain⟨b,hb⟩:=hblkn m hn
      have hkl:k < ns.length:=(List.getElem?_eq_some_iff.1 hk).1
      have huk:us[k]?=some us[k]:=by simp
      obtain⟨cells,t,hh,hu⟩:=hus.2 k b us[k] (hbl.2 k m b hk hb) huk
      have hcs':(bf dst 0 res).1[vs.size+k]?=some (true,cs):=by rw [<- hcs,List.getElem?_drop]
      obtain⟨xs,e1,e2,e3⟩:=hIV (vs.size+k) (true,cs) us[k] hcs' (by rw [List.getElem?_append_right (by simp)];simp)
      simp only [if_true,hu,Value.agg.injEq] at e1
      subst e1
      have hcg:=hcellG (true,cs) xs e3
      refine⟨b,xs.toArray,t,by simp only [g',hsomeT m hn,if_true];exact hb,hh,by simpa using e2.symm,fun i c x hc hx=>(hcg i c x hc (by simpa using hx)).1,fun i c hc=>?_⟩
      have hi:i < xs.length:=by rw [<- e2];exact (List.getElem?_eq_some_iff.1 hc).1
      exact (hcg i c xs[i] hc (by simp [hi])).2)
   refine⟨g',q1,q2,?_⟩
   rw [hv]
   have htl:((bf dst 0 res).1.take vs.size).length=vs.size:=by rw [List.length_take,h3,hlen];simp
   refine Ih htl (fun i p x hp hx=>?_)
   rw [List.getElem?_take] at hp
   split at hp
   ·rename_i hi
    obtain⟨xs,e1,e2,e3⟩:=hIV i p x hp (by rw [List.getElem?_append_left (by simpa using hi)];simpa using hx)
    have hcell:=hcellG p xs e3
    obtain⟨b,cs⟩:=p
    cases b with
    | true=>
     simp only [if_true] at e1
     exact⟨xs.toArray,e1,by simpa using e2,fun k c u hc hu=>(hcell k c u hc (by simpa using hu)).1⟩
    | false=>
     simp only [Bool.false_eq_true,if_false] at e1
     subst e1
     obtain⟨c,rfl⟩:∃ c,cs=[c]:=by
      cases cs with
      | nil=>simp at e2
      | cons c rest=>simp at e2;subst e2;exact⟨c,rfl⟩
     exact⟨c,rfl,(hcell 0 c x rfl rfl).1⟩
   ·cases hp
  ·cases hc
 ·cases hc
end Go.AM

namespace Go.AM
open Go.RowKit
variable {P:Program}{E:Env}{w0:fi P}{w w':World}{N0:Nat->Prop}{g g':Gh}{T T':Tab}{r:Option Nat}{n:Nat}{o:Oper}{a:Act}{ρ:Operand->AV}{dst:Nat}
 {y:AV} {es:List (Nat × aD)}
def de (P : Program) (f : FuncId) : Prop := ∃ fn, P.funcs[f]? = some fn ∧ fn.body.isSome = true ∧ (fn.name == "runtime.NumGoroutine") = false
theorem wu {N:Nat->Prop}:∀ {rows:List (List DC)} {ns:List Int},sU rows=some ns->cG 1 rows=true/\rows.length=ns.length/\∀ (i:Nat) (r:List DC),rows[i]?=some r->∃ z,ns[i]?=some z/\r=[.v (.int .u8 z)]
 | [],ns,h=>by simp only [sU,Option.some.injEq] at h;subst h;exact⟨rfl,rfl,by simp⟩
 | r::rs,ns,h=>by
  unfold sU at h
  split at h
  ·rename_i he;cases he
  ·rename_i z r' he
   obtain⟨rfl,rfl⟩:=List.cons.inj he
   obtain⟨ns',h1,rfl⟩:=Option.map_eq_some_iff.1 h
   obtain⟨k1,k2,k3⟩:=wu (N:=N) h1
   refine⟨by simpa [cG] using k1,by simp [k2],fun i r hr=>?_⟩
   cases i with
   | zero=>simp only [List.getElem?_cons_zero,Option.some.injEq] at hr;subst hr;exact⟨z,rfl,rfl⟩
   | succ i=>simpa using k3 i r (by simpa using hr)
  ·cases h
theorem ajZ (hM:Mem w0 N0 g T w)(hρ:∀ x,aJ w (am N0 g T) g T (ρ x) (a.eval x)){src d e:TypeId}{x:Operand}(ho:o.op=.convert src d x)(hs:P.underlying src=some (.slice e))
  (hd:P.underlying d=some .string) (he':P.underlying e=some (.int .u8)) (he:eff P E T ρ dst (.str x)=some (y,es)):aQ r n P o a w (Res w0 N0 g T w y es):=by
 simp only [eff] at he
 split at he
 ·rename_i rows hrows
  split at he
  ·rename_i ns hns
   simp only [Option.some.injEq,Prod.mk.injEq] at he
   obtain⟨rfl,rfl⟩:=he
   obtain⟨k1,k2,k3⟩:=wu (N:=fun _=>False) hns
   obtain⟨ad,cap,A,hv,hA,hR⟩:=fZ (P:=P) hM (by decide) (hρ x) hrows k1
   have hAl:A.toList=ns.map (Value.int .u8):=by
    obtain⟨q1,q2,q3⟩:=hR
    have hln:A.toList.length=ns.length:=by rw [q1,k2,Nat.mul_one]
    apply List.ext_getElem?
    intro i
    rw [List.getElem?_map]
    by_cases hi:i < rows.length
    ·obtain⟨z,hz,hr⟩:=k3 i rows[i] (List.getElem?_eq_getElem hi)
     obtain⟨c,hc,hdc⟩:=q3 i 0 rows[i] (.v (.int .u8 z)) (List.getElem?_eq_getElem hi) (by rw [hr];rfl)
     rw [Nat.mul_one,Nat.add_zero] at hc
     rw [hc,hz]
     cases hdc
     rfl
    ·rw [List.getElem?_eq_none (by omega),List.getElem?_eq_none (by omega)];rfl
   have hrun:(convert src d (a.eval x)).run P w=.ok (.string (W4 ns)) w:=by
    rw [hv,run_convert_bytes_string w src d e ad _ _ hs he' hd]
    cases ad with
    | none=>
     rw [hv] at hA
     have hA0:A=#[]:=by
      have:(Builtin.firstCells 1 rows.length (.slice none rows.length cap)).run P w=.ok #[] w:=rfl
      rw [this] at hA
      simpa using hA.symm
     have hn0:ns=[]:=by
      rw [hA0] at hAl
      simpa using hAl.symm
     subst hn0
     rfl
    | some ad=>
     rw [hv] at hA
     refine run_bytesToString w ad _ _ ns ?_
     rw [<- hAl]
     simpa [Builtin.firstCells] using hA
   exact aQ.value (fun c h=>by rw [ho] at h;cases h) (v:=.string (W4 ns)) (w':=w) (by simp [execOp,ho,hrun]) (Res.same hM ⟨_,rfl,.v rfl⟩)
  ·cases he
 ·cases he
theorem XO (hM:Mem w0 N0 g T w)(hρ:∀ x,aJ w (am N0 g T) g T (ρ x) (a.eval x)){src d e:TypeId}{x:Operand}(ho:o.op=.convert src d x)(hs:P.underlying src=some .string)
  (hd:P.underlying d=some (.slice e)) (he':P.underlying e=some (.int .u8)) (he:eff P E T ρ dst (.bytes x)=some (y,es)):aQ r n P o a w (Res w0 N0 g T w y es):=by
 simp only [eff] at he
 split at he
 ·rename_i s hx
  split at he
  ·rename_i hc
   simp only [Option.some.injEq,Prod.mk.injEq] at he
   obtain⟨rfl,rfl⟩:=he
   have hv:=iN (hρ x) hx
   have hn:aj T dst=none:=by simpa using hc.2
   have hcap:=grownCap_ge w s.size 0 e
   have hmax:=grownCap_le_maxLen w s.size 0 e (by unfold maxLen;exact hc.1)
   have hnew:=Lib.bytesWorld_at_new w e s
   have hsz:(Lib.bytesCells w e s).size=grownCap w s.size 0 e:=by
    simp only [Lib.bytesCells,Array.size_append,Array.size_map,Array.size_replicate]
    change s.size+_=_
    omega
   have hext:Below w.heap.size w (Lib.bytesWorld w e s):=⟨rfl,rfl,rfl,by rw [Lib.bytesWorld_size];omega,fun k hk=>Lib.bytesWorld_at_old w e s k hk⟩
   have hrun:=Lib.run_convert_string_bytes (P:=P) w src d e s hs hd he'
   refine aQ.value (fun c h=>by rw [ho] at h;cases h) (v:=.slice (some ⟨w.heap.size,0,none⟩) s.size (grownCap w s.size 0 e)) (w':=Lib.bytesWorld w e s) (by simp [execOp,ho,hv,hrun]) ?_
   have hlen:(s.data.toList.map fun b=>[DC.v (.int .u8 b.toNat)]).length=s.size:=by simp
   obtain⟨h1,h2⟩:=hM.create (w':=Lib.bytesWorld w e s) (e:=.own 1 (s.data.toList.map fun b=>[.v (.int .u8 b.toNat)])) (ob:=some w.heap.size) (sv:=.slice (some ⟨w.heap.size,0,none⟩) s.size (grownCap w s.size 0 e)) (s:=1) hn hext
    (fun b hb=>by simp at hb;subst hb;rw [Lib.bytesWorld_size];omega) (fun hK=>⟨.inr ⟨w.heap.size,0,grownCap w s.size 0 e,Lib.bytesCells w e s,e,_,by simp [Gh.set],by rw [hlen];simp [Gh.set],hnew,by rw [hlen];exact hcap,hmax,by omega,
     fun j _ hj=>by simp;omega,fun r hr=>by
      obtain⟨b,_,rfl⟩:=List.mem_map.1 hr
      rfl,by omega,fun i j r d hr hdd=>by
      rw [List.getElem?_map] at hr
      cases hq:s.data.toList[i]? with
      | none=>rw [hq] at hr;cases hr
      | some b=>
       rw [hq] at hr
       simp only [Option.map_some,Option.some.injEq] at hr
       subst hr
       cases j with
       | succ j=>simp at hdd
       | zero=>
        simp only [List.getElem?_cons_zero,Option.some.injEq] at hdd
        subst hdd
        refine⟨.int .u8 b.toNat,?_,.v rfl⟩
        have hi:i < s.data.size:=by simpa using (List.getElem?_eq_some_iff.1 hq).1
        have hb:s.data[i]?=some b:=by simpa using hq
        simp only [Lib.bytesCells,Nat.zero_add,Nat.mul_one,Nat.add_zero]
        rw [Array.getElem?_append_left (by simpa using hi),Array.getElem?_map,hb]
        rfl⟩,by simp [Gh.set]⟩)
   exact⟨_,h1,h2,_,rfl,by rw [show aputs T [(dst,_)]=aput T dst _ from rfl,bg];rfl,by simp [Gh.set],_,_,_,rfl⟩
  ·cases he
 ·cases he
def F2 (B:Nat)(N:Nat->Prop)(w w':World):Prop:=w.heap.size<=w'.heap.size/\∀ b,b < B->¬ N b->w'.heap[b]?=w.heap[b]?
def uo:Value->Bool
 | .agg cs=>cs.toList.all plain
 | v=>plain v
structure aW (ob:Option Nat)(w w':World):Prop where
 os:w'.os=w.os
 tape:w'.tape=w.tape
 output:w'.output=w.output
 size:w.heap.size<=w'.heap.size
 block:∀ k,k < w.heap.size->ob ≠ some k->w'.heap[k]?=w.heap[k]?
theorem aW.of {ob:Option Nat}{w w':World}(h:Below w.heap.size w w'):aW ob w w':=⟨h.os,h.tape,h.output,h.size,fun k hk _=>h.block k hk⟩
theorem aW.below {w w':World}(h:aW none w w'):Below w.heap.size w w':=⟨h.os,h.tape,h.output,h.size,fun k hk=>h.block k hk nofun⟩
theorem aW.trans {ob:Option Nat}{a b c:World}(h:aW ob a b)(k:aW ob b c):aW ob a c:=
 ⟨k.os.trans h.os,k.tape.trans h.tape,k.output.trans h.output,Nat.le_trans h.size k.size,fun i hi hb=>(k.block i (Nat.lt_of_lt_of_le hi h.size) hb).trans (h.block i hi hb)⟩
def ro (P:Program)(f:FuncId)(lb:Array Value)(ob:Option Nat)(xs:List (List Value))(w:World)(N:Nat->Prop):Prop:=
 ∀ (l:Nat) (J:Nat->World->Prop) (Jx:World->Prop) (n:Nat),
  (∀ i W W',J i W->aW ob W W'->J i W')->(∀ W W',Jx W->aW ob W W'->Jx W') ->
  (∀ i x W1,xs[i]?=some x->J i W1->YieldAt (Fw none) n P l x.toArray W1 fun e W'=>F2 w.heap.size N W1 W'/\((e=.returned (.bool true)/\J (i+1) W')\/(e=.returned (.bool false)/\Jx W'))) ->
  J 0 w->Calls P f (#[.func (.yield l) #[] #[]]++lb) w fun e W'=>(∃ v,e=.returned v)/\(J xs.length W'\/Jx W')
def xV (P:Program)(f:FuncId)(caps:List DC)(xs:List (List Value)):Prop:=
 (∀ x ∈ xs,∀ v ∈ x,uo v=true) /\
 ∀ (w:World) (N:Nat->Prop) (lb:Array Value),(∀ b,N b->b < w.heap.size)->dZ P w->(∀ b,gbP P b->¬ N b)->caps.length=lb.size ->
  (∀ (i:Nat) (d:DC) (v:Value),caps[i]?=some d->lb[i]?=some v->aH w N d v)->ro P f lb none xs w N
def ad4 (P:Program)(f:FuncId)(vs:List Value)(xs:List (List Value)):Prop:=
 (∀ x ∈ xs,∀ v ∈ x,uo v=true) /\
 ∀ (w:World) (N:Nat->Prop) (b:Nat) (t:TypeId),(∀ b,N b->b < w.heap.size)->dZ P w->(∀ b,gbP P b->¬ N b)->¬ N b->¬ gbP P b->w.heap[b]?=some (.cells vs.toArray t (0,0)) ->
  ro P f #[.pointer (some ⟨b,0,none⟩)] (some b) xs w N
def FrX (B:Nat)(W:World)(y v:Value):Prop:=match y with
 | .tuple cs=>aH W (fun b=>b < B) (.sl (cs.toList.map fun c=>[.v c])) v
 | y=>uo y=true/\v=y
def Xe (P:Program)(f:FuncId)(lb:Array Value)(xs:List (List Value))(w:World)(N:Nat->Prop):Prop:=
 ∀ (l:Nat) (J:Nat->World->Prop) (Jx:World->Prop) (n:Nat),
  (∀ i W W',J i W->aW (some w.heap.size) W W'->J i W')->(∀ W W',Jx W->aW (some w.heap.size) W W'->Jx W') ->
  (∀ (i:Nat) (y x:List Value) (W0 W1:World),xs[i]?=some y->J i W0->w.heap.size < W0.heap.size->aW (some w.heap.size) W0 W1->x.length=y.length->(∀ (j:Nat) (a b:Value),y[j]?=some a->x[j]?=some b->FrX W0.heap.size W1 a b) ->
   YieldAt (Fw none) n P l x.toArray W1 fun e W'=>F2 w.heap.size N W1 W'/\(W'.heap[w.heap.size]?=W1.heap[w.heap.size]?/\W1.heap.size<=W'.heap.size)/\((e=.returned (.bool true)/\J (i+1) W')\/(e=.returned (.bool false)/\Jx W'))) ->
  J 0 w->Calls P f (#[.func (.yield l) #[] #[]]++lb) w fun e W'=>(∃ v,e=.returned v)/\(J xs.length W'\/Jx W')
def sG (P:Program)(f:FuncId)(caps:List DC)(xs:List (List Value)):Prop:=
 ∀ (w:World) (N:Nat->Prop) (lb:Array Value),(∀ b,N b->b < w.heap.size)->dZ P w->(∀ b,gbP P b->¬ N b)->caps.length=lb.size ->
  (∀ (i:Nat) (d:DC) (v:Value),caps[i]?=some d->lb[i]?=some v->aH w N d v)->Xe P f lb xs w N
def fB (P:Program)(f:FuncId)(caps:List DC)(xs:List (List Value)):Prop:=
 (∀ vs:List Value,caps=[.mref (vs.map .v) 0]->ad4 P f vs xs)/\((∀ cs o,caps ≠ [.mref cs o])->xV P f caps xs\/sG P f caps xs)
theorem fB.data {P:Program}{f:FuncId}{caps:List DC}{xs:List (List Value)}(hc:∀ cs o,caps ≠ [.mref cs o])(h:xV P f caps xs):fB P f caps xs:=⟨fun _ e=>(hc _ _ e).elim,fun _=>.inl h⟩
theorem fB.fresh {P:Program}{f:FuncId}{caps:List DC}{xs:List (List Value)}(hc:∀ cs o,caps ≠ [.mref cs o])(h:sG P f caps xs):fB P f caps xs:=⟨fun _ e=>(hc _ _ e).elim,fun _=>.inr h⟩
def asz (P:Program)(f g:FuncId):Prop:=
 ∀ (s:ByteArray) (w:World),Calls P f #[.string s] w fun e w'=>∃ t:TypeId,e=.returned (.func (.func g) #[] #[.pointer (some ⟨w.heap.size,0,none⟩)])/\Below w.heap.size w w' /\
  w'.heap[w.heap.size]?=some (.cells #[.string s] t (0,0))
def LU (P:Program)(f:FuncId)(offs:List Nat):Prop:=
 ∀ (b off:Nat) (w:World) (N:Nat->Prop),(∀ b,N b->b < w.heap.size)->dZ P w->(∀ b,gbP P b->¬ N b)->Calls P f #[.pointer (some ⟨b,off,none⟩)] w fun e w'=>
  ∃ v,e=.returned v/\Below w.heap.size w w'/\aH w' N (.sl (offs.map fun k=>[.pt b (off+k)])) v/\xh offs.length v
def zY (P:Program)(f:FuncId)(lb:Array Value)(ob:Option Nat)(X:Nat->World->List Value->Prop)(m:Nat)(w:World)(N:Nat->Prop):Prop:=
 ∀ (l:Nat) (J:Nat->World->Prop) (Jx:World->Prop) (n:Nat),
  (∀ i W W',J i W->aW ob W W'->J i W')->(∀ W W',Jx W->aW ob W W'->Jx W')->(∀ i W1,i < m->J i W1->∃ x,X i W1 x) ->
  (∀ i x W1,i < m->X i W1 x->J i W1->YieldAt (Fw none) n P l x.toArray W1 fun e W'=>F2 w.heap.size N W1 W'/\((e=.returned (.bool true)/\J (i+1) W')\/(e=.returned (.bool false)/\Jx W'))) ->
  J 0 w->Calls P f (#[.func (.yield l) #[] #[]]++lb) w fun e W'=>(∃ v,e=.returned v)/\(J m W'\/Jx W')
theorem ro.gen {P:Program}{f:FuncId}{lb:Array Value}{ob:Option Nat}{xs:List (List Value)}{w:World}{N:Nat->Prop}(h:ro P f lb ob xs w N) :
  zY P f lb ob (fun i _ x=>xs[i]?=some x) xs.length w N:=fun l J Jx n a b _ d e=>
 h l J Jx n a b (fun i x W1 hx hJ=>d i x W1 (List.getElem?_eq_some_iff.1 hx).1 hx hJ) e
def ahf (a:Option Addr)(L sz:Nat)(i:Nat)(W:World)(x:List Value):Prop:=
 ∃ b o cells t fz,a=some ⟨b,o,none⟩/\W.heap[b]?=some (.cells cells t fz)/\o+(L / 2+1+i)*sz+sz<=cells.size /\
  x=[.int .i64 ((L / 2+1+i:Nat):Int),.agg (cells.extract (o+(L / 2+1+i)*sz) (o+(L / 2+1+i)*sz+sz))]
def ajU (P:Program)(f:FuncId)(sz:Nat):Prop:=
 ∀ (a:Option Addr) (L cap b:Nat) (t:TypeId) (w:World) (N:Nat->Prop),(∀ b,N b->b < w.heap.size)->L<=maxLen->¬ N b->w.heap[b]?=some (.cells #[.slice a L cap] t (0,0)) ->
  zY P f #[.pointer (some ⟨b,0,none⟩)] (some b) (ahf a L sz) (L - (L / 2+1)) w N
def atp (P:Program)(f g:FuncId):Prop:=
 ∀ (a:Option Addr) (l c:Nat) (w:World),Calls P f #[.slice a l c] w fun e w'=>∃ t:TypeId,e=.returned (.func (.func g) #[] #[.pointer (some ⟨w.heap.size,0,none⟩)])/\Below w.heap.size w w' /\
  w'.heap[w.heap.size]?=some (.cells #[.slice a l c] t (0,0))
def agZ (P:Program)(f g:FuncId):Prop:=
 ∀ (a b c d:Int) (cs:Array Value) (w:World) (Q:Ending->World->Prop),(∀ e W,Q e W->∃ v,e=.returned v) ->
  (∀ w',Below w.heap.size w w'->Calls P g (#[.agg #[.int .i64 a,.int .i64 b,.int .i64 c,.int .i64 d]]++cs) w' Q) ->
  Calls P f #[.agg #[.int .i64 a,.int .i64 b,.int .i64 c,.int .i64 d],.int .i64 0,.func (.func g) #[] cs] w Q
def lA (P:Program)(f:FuncId)(offs:List Nat):Prop:=match QM offs with
 | some g=>agZ P f g
 | none=>match YH offs with
 | some g=>asz P f g
 | none=>match SI offs with
  | some g=>if g < 2000000 then atp P f (g - 1000000) else ajU P f (offs.getD 1 0)/\de P f
  | none=>LU P f offs
theorem lA.of {P:Program}{f:FuncId}{offs:List Nat}(hi:YH offs=none)(hl:SI offs=none)(h:LU P f offs)(hf:QM offs=none:=by rfl):lA P f offs:=by unfold lA;rw [hf,hi,hl];exact h
structure eZ (P:Program)(E:Env):Prop where
 call:∀ f ds res,E f ds=some res->dc P f ds res/\de P f
 seq:∀ f caps xs,E.seq f caps=some xs->fB P f caps xs/\de P f
 ptrs:∀ f offs,E.ptrs f=some offs->lA P f offs
theorem v9 {b m off:Nat}:∀ (offs:List Nat),bq (offs.map fun k=>(m,off+k)) (List.replicate offs.length b)=offs.map fun k=>[.pt b (off+k)]
 | []=>rfl
 | k::r=>by simp only [List.map_cons,List.length_cons,List.replicate_succ,bq,v9 r]
theorem ZH (hM:Mem w0 N0 g T w){offs:List Nat}{m b off:Nat}{v:Value}(hs:(aj T m).isSome)(hb:g.blk m=some b)(hbl:Below w.heap.size w w')(hd:aH w' (am N0 g T) (.sl (offs.map fun k=>[.pt b (off+k)])) v)(hf:xh offs.length v) :
  Res w0 N0 g T w (.val false [.psl (offs.map fun k=>(m,off+k))]) [] v w':=by
 obtain⟨hM1,hK1⟩:=hM.grow0 hbl
 have hl:(List.replicate offs.length b).length=(offs.map fun k=>(m,off+k)).length:=by simp
 refine⟨g,hM1,hK1,_,rfl,List.replicate offs.length b,⟨hl,by simpa using hf⟩,fun i p c hp hc=>?_,by rw [v9];exact hd⟩
 rw [List.getElem?_map] at hp
 cases hq:offs[i]? with
 | none=>rw [hq] at hp;cases hp
 | some k=>
  rw [hq] at hp
  simp only [Option.map_some,Option.some.injEq] at hp
  subst hp
  have:=List.eq_of_mem_replicate (List.mem_of_getElem? hc)
  subst this
  exact⟨hs,hb⟩
theorem aiF (hM:Mem w0 N0 g T w)(hf:(aj T dst).isNone=true){s:ByteArray}{gf t:Nat}(hbl:Below w.heap.size w w')(hnew:w'.heap[w.heap.size]?=some (.cells #[.string s] t (0,0))) :
  Res w0 N0 g T w (.val false [.fn gf [.ptr dst]]) [(dst,.box [.d (.v (.string s))])] (.func (.func gf) #[] #[.pointer (some ⟨w.heap.size,0,none⟩)]) w':=by
 have hn:=bU hf
 have hlt:=(Array.getElem?_eq_some_iff.1 hnew).1
 obtain⟨h1,h2⟩:=hM.create (w':=w') (e:=.box [.d (.v (.string s))]) (ob:=some w.heap.size) (sv:=undef) (s:=0) hn hbl
  (fun b hb=>by simp at hb;subst hb;exact⟨Nat.le_refl _,hlt⟩) (fun hK=>⟨w.heap.size,#[.string s],t,by simp [Gh.set],hnew,rfl,fun i c x hci hxi=>by
   match i with
   | 0=>
    simp at hci hxi;subst hci;subst hxi
    exact aH.v rfl
   | i+1=>simp at hci,fun i c hc=>by
   match i with
   | 0=>simp at hc;subst hc;rfl
   | i+1=>simp at hc⟩)
 refine⟨_,h1,h2,_,rfl,#[.pointer (some ⟨w.heap.size,0,none⟩)],rfl,rfl,fun i c x hc hx=>?_⟩
 match i with
 | 0=>
  simp at hc hx;subst hc;subst hx
  exact⟨by rw [show aputs T [(dst,aD.box [.d (.v (.string s))])]=aput T dst (.box [.d (.v (.string s))]) from rfl,bg];rfl,w.heap.size,by simp [Gh.set],rfl⟩
 | i+1=>simp at hc
theorem ajG (hM:Mem w0 N0 g T w)(hf:(aj T dst).isNone=true){sa:Option Addr}{sl sc m gf t:Nat}(hs:(aj T m).isSome)(hv:.slice sa sl sc=g.sv m)(hbl:Below w.heap.size w w')(hnew:w'.heap[w.heap.size]?=some (.cells #[.slice sa sl sc] t (0,0))) :
  Res w0 N0 g T w (.val false [.fn gf [.ptr dst]]) [(dst,.box [.ref m])] (.func (.func gf) #[] #[.pointer (some ⟨w.heap.size,0,none⟩)]) w':=by
 have hn:=bU hf
 have hmd:m ≠ dst:=fun e=>by rw [e,hn] at hs;cases hs
 have hlt:=(Array.getElem?_eq_some_iff.1 hnew).1
 obtain⟨h1,h2⟩:=hM.create (w':=w') (e:=.box [.ref m]) (ob:=some w.heap.size) (sv:=undef) (s:=0) hn hbl
  (fun b hb=>by simp at hb;subst hb;exact⟨Nat.le_refl _,hlt⟩) (fun hK=>⟨w.heap.size,#[.slice sa sl sc],t,by simp [Gh.set],hnew,rfl,fun i c x hci hxi=>by
   match i with
   | 0=>
    simp at hci hxi;subst hci;subst hxi
    exact⟨by rw [bt _ _ hmd];exact hs,by simp [Gh.set,hmd,hv],_,_,_,rfl⟩
   | i+1=>simp at hci,fun i c hc=>by
   match i with
   | 0=>simp at hc;subst hc;rfl
   | i+1=>simp at hc⟩)
 refine⟨_,h1,h2,_,rfl,#[.pointer (some ⟨w.heap.size,0,none⟩)],rfl,rfl,fun i c x hc hx=>?_⟩
 match i with
 | 0=>
  simp at hc hx;subst hc;subst hx
  exact⟨by rw [show aputs T [(dst,aD.box [.ref m])]=aput T dst (.box [.ref m]) from rfl,bg];rfl,w.heap.size,by simp [Gh.set],rfl⟩
 | i+1=>simp at hc
theorem Hi (hM:Mem w0 N0 g T w)(hd:∀ c,o.op ≠ .defer c){f:FuncId}{vs:Array Value}{ds:List DV}{res:List RV}{names:List Nat}(hrun:(execOp a.eval o).run P w=.ok (.enter f vs) w)
  (hC:dc P f ds res) (hargs:iI w (cZ N0 g T names) ds vs) (hout:dN dst T names res=some (y,es)):aQ r n P o a w (Res w0 N0 g T w y es):=
 aQ.enter hd hrun ((hC.plain (fun _ hb=>lh hM (cA hb)) hargs hM.laid fun _ hb h=>hM.gav hb (cA h)).mono fun _ _ ⟨v,he,hext,hres⟩=>⟨v,he,Jq hM hext hres hout⟩)
theorem iw {f : FuncId} {fn : Func} (hf : P.funcs[f]? = some fn) (hb : fn.body.isSome = true) (hn : (fn.name == "runtime.NumGoroutine") = false) (args : Array Value) (w : World) :
  (callFunc f args).run P w=.ok (.enter f args) w:=by
 have h1 : ¬ fn.name = "runtime.NumGoroutine" := by simpa using hn
 have h2:¬ fn.body=none:=by cases hq:fn.body <;> simp_all
 simp [callFunc,hf,h1,h2]
theorem Jy {N:Nat->Prop}{x:AV}{v:Value}(h:aJ w N g T x v)(hp:Jr x=true):∃ a b c d:Int,v=.agg #[.int .i64 a,.int .i64 b,.int .i64 c,.int .i64 d]:=by
 unfold Jr at hp
 split at hp
 ·rename_i a b c d
  obtain⟨xs,rfl,hl,hx⟩:=h
  match xs,hl,hx with
  | ⟨[x0,x1,x2,x3]⟩,_,hx=>
   have h0:=hx 0 _ x0 rfl rfl
   have h1:=hx 1 _ x1 rfl rfl
   have h2:=hx 2 _ x2 rfl rfl
   have h3:=hx 3 _ x3 rfl rfl
   cases h0;cases h1;cases h2;cases h3
   exact⟨a,b,c,d,rfl⟩
 ·cases hp
theorem akU (hE:eZ P E)(hM:Mem w0 N0 g T w)(hρ:∀ x,aJ w (am N0 g T) g T (ρ x) (a.eval x))(hd:∀ c,o.op ≠ .defer c){f gf:FuncId}{args:Array Operand}{vs:Array Value}
  (hrun:(execOp a.eval o).run P w=.ok (.enter f vs) w) (hvs:vs=args.map a.eval) (hF:agZ P f gf) (he:AN E T ρ dst gf args.toList=some (y,es)):aQ r n P o a w (Res w0 N0 g T w y es):=by
 unfold AN at he
 split at he
 ·rename_i x nn c hargs
  have ha':args=#[x,nn,c]:=by rw [<- Array.toArray_toList (xs:=args),hargs]
  split at he
  ·rename_i caps hc
   unfold fwC at hc
   split at hc
   ·rename_i g' caps' hn hcl
    split at hc
    ·rename_i hg
     obtain⟨rfl,hp⟩:=hg
     simp only [Option.some.injEq] at hc
     subst hc
     have h1:=iN (hρ nn) hn
     obtain⟨cs,h2,h3,h4⟩:=aM (hρ c) hcl
     obtain⟨u1,u2,u3,u4,hx⟩:=Jy (hρ x) hp
     refine aQ.enter hd hrun ?_
     rw [hvs,ha',List.map_toArray,List.map_cons,List.map_cons,List.map_cons,List.map_nil,h1,h2,hx]
     refine hF u1 u2 u3 u4 cs w _ (fun _ _ ⟨v,h,_⟩=>⟨v,h⟩) fun w' hbl=>?_
     obtain⟨hM1,hK1⟩:=hM.grow0 hbl
     have hρ':∀ y,aJ w' (am N0 g T) g T (HT (ρ x) caps' y) ((⟨#[.agg #[.int .i64 u1,.int .i64 u2,.int .i64 u3,.int .i64 u4]]++cs,[]⟩:Act).eval y):=fun y=>by
      have hunk:∀ v,aJ w' (am N0 g T) g T (.val false [.unk]) v:=fun v=>⟨.unk,rfl,trivial⟩
      cases y with
      | tmp t=>
       match t with
       | 0=>
        have e:(⟨#[.agg #[.int .i64 u1,.int .i64 u2,.int .i64 u3,.int .i64 u4]]++cs,[]⟩:Act).eval (.tmp 0)=a.eval x:=by
         rw [hx];simp only [Act.eval]
         rw [Array.getD_eq_getD_getElem?,Array.getElem?_append_left (by simp)];rfl
        rw [e];exact hK1.a (hρ x)
       | t+1=>
        simp only [HT,List.getElem?_cons_succ,List.getElem?_map]
        cases hq:caps'[t]? with
        | none=>exact hunk _
        | some k=>
         have ht:t < cs.size:=h3 ▸ (List.getElem?_eq_some_iff.1 hq).1
         have e:(⟨#[.agg #[.int .i64 u1,.int .i64 u2,.int .i64 u3,.int .i64 u4]]++cs,[]⟩:Act).eval (.tmp (t+1))=cs[t]:=by
          simp only [Act.eval]
          rw [Array.getD_eq_getD_getElem?,Array.getElem?_append_right (by simp)]
          simp [ht]
         rw [e]
         have hk:=h4 t k cs[t] hq (by simp [ht])
         cases k with
         | ptr m=>
          obtain⟨k1,b,k2,k3⟩:=hk
          exact hK1.a ⟨_,rfl,k1,b,k2,k3⟩
         | d d=>exact hK1.a (x:=.val false [.d d]) ⟨_,rfl,hk⟩
      | const v=>exact hunk _
      | global v=>exact hunk _
      | func v=>exact hunk _
     unfold Lb at he
     split at he
     ·rename_i ds ns is ms hds
      split at he
      ·rename_i hns
       split at he
       ·rename_i res hres
        obtain⟨n1,n2⟩:=uN hns
        obtain⟨i1,i2,i4,i3⟩:=qP hM1 hρ' (names:=ms) hds (fun m hm=>hm) n2
        have hv:(Kg caps'.length).map (⟨#[.agg #[.int .i64 u1,.int .i64 u2,.int .i64 u3,.int .i64 u4]]++cs,[]⟩:Act).eval=(#[(.agg #[.int .i64 u1,.int .i64 u2,.int .i64 u3,.int .i64 u4]:Value)]++cs).toList:=by
         apply List.ext_getElem?
         intro i
         simp only [Kg,List.map_map,List.getElem?_map]
         by_cases hi:i < caps'.length+1
         ·rw [List.getElem?_range hi]
          have:i < (#[(.agg #[.int .i64 u1,.int .i64 u2,.int .i64 u3,.int .i64 u4]:Value)]++cs).size:=by simp;omega
          simp only [Option.map_some,Function.comp,Act.eval,Array.getElem?_toList]
          rw [Array.getElem?_eq_getElem this,Array.getD_eq_getD_getElem?,Array.getElem?_eq_getElem this];rfl
         ·rw [List.getElem?_eq_none (by simp;omega),Option.map_none,List.getElem?_eq_none (by simp;omega)]
        rw [hv] at i3
        refine ((hE.call _ ds res hres).1 w' _ (cZ N0 g T ms) (fo g ns) (is.map g.blk) (fun _ hb=>lh hM1 (cA hb)) (Av hM1 n1 i1 i2 i4) (by simpa using i3) hM1.laid fun b hb=>⟨fun h=>hM1.gav hb (cA h),KA hM1 i1 i2 i4 hb⟩).mono ?_
        rintro e w'' ⟨v,us,hv,hbm,hou,hrm⟩
        obtain⟨g2,q1,q2,q3⟩:=wp hM1 hbm hou hrm i1 i2 i4 n2 n1 he
        exact⟨v,hv,g2,q1,hK1.trans q2,q3⟩
       ·cases he
      ·cases he
     ·cases he
    ·cases hc
   ·cases hc
  ·cases he
 ·cases he
theorem af1 (hE:eZ P E)(hM:Mem w0 N0 g T w)(hρ:∀ x,aJ w (am N0 g T) g T (ρ x) (a.eval x)){c:Call}{f:FuncId}{fn:Func}(ho:o.op=.call c)(hc:c.callee=.value (.func f))(hf:P.funcs[f]?=some fn)
  (hb : fn.body.isSome = true) (hn : (fn.name == "runtime.NumGoroutine") = false) (he : eff P E T ρ dst (.call f c.args.toList) = some (y, es)) : aQ r n P o a w (Res w0 N0 g T w y es) := by
 have hd:∀ c,o.op ≠ .defer c:=fun c h=>by rw [ho] at h;cases h
 have hrun:(execOp a.eval o).run P w=.ok (.enter f (c.args.map a.eval)) w:=by
  have hev:a.eval (.func f)=.func (.func f) #[] #[]:=rfl
  simp only [execOp,ho,resolve,hc,hev]
  simp [Deferred.ofValue,invoke,iw hf hb hn]
 simp only [eff] at he
 split at he
 ·rename_i offs hofs
  have hpo:=hE.ptrs f offs hofs
  unfold lA at hpo
  split at he
  ·rename_i gf hfw
   rw [hfw] at hpo
   exact akU hE hM hρ hd hrun rfl hpo he
  rename_i hfw
  rw [hfw] at hpo
  have hpt:=he
  unfold An at hpt
  split at hpt
  ·rename_i x hargs
   have ha':c.args=#[x]:=by rw [<- Array.toArray_toList (xs:=c.args),hargs]
   split at hpt
   rotate_left
   ·rename_i gf hit
    rw [hit] at hpo
    split at hpt
    ·rename_i s hx
     split at hpt
     ·rename_i hf
      simp only [Option.some.injEq,Prod.mk.injEq] at hpt
      obtain⟨rfl,rfl⟩:=hpt
      refine aQ.enter hd hrun ?_
      rw [ha',List.map_toArray,List.map_cons,List.map_nil,iN (hρ x) hx]
      refine (hpo s w).mono ?_
      rintro e w' ⟨t,rfl,hbl,hnew⟩
      exact⟨_,rfl,aiF hM hf hbl hnew⟩
     ·cases hpt
    ·cases hpt
   rename_i hit
   rw [hit] at hpo
   split at hpt
   rotate_left
   ·rename_i gf hlv
    rw [hlv] at hpo
    split at hpt
    ·rename_i m hx
     split at hpt
     ·rename_i hlt
      simp only [hlt.1,if_true] at hpo
      simp only [Option.some.injEq,Prod.mk.injEq] at hpt
      obtain⟨rfl,rfl⟩:=hpt
      obtain⟨hs,hv,sa,sl,sc,hsv⟩:=aM (hρ x) hx
      refine aQ.enter hd hrun ?_
      rw [ha',List.map_toArray,List.map_cons,List.map_nil,hsv]
      refine (hpo sa sl sc w).mono ?_
      rintro e w' ⟨t,rfl,hbl,hnew⟩
      exact⟨_,rfl,ajG hM hlt.2 hs (hsv.symm.trans hv) hbl hnew⟩
     ·cases hpt
    ·cases hpt
   rename_i hlv
   rw [hlv] at hpo
   split at hpt
   ·rename_i m off hx
    simp only [Option.some.injEq,Prod.mk.injEq] at hpt
    obtain⟨rfl,rfl⟩:=hpt
    obtain⟨hs,b,hb,hv⟩:=aM (hρ x) hx
    have hcall:=hpo b off w (am N0 g T) (fun _ hb=>lh hM hb) hM.laid fun b hb h=>hM.gav hb h
    refine aQ.enter hd hrun ?_
    rw [ha',List.map_toArray,List.map_cons,List.map_nil,hv]
    refine hcall.mono ?_
    rintro e w' ⟨v,rfl,h1,h2,h3⟩
    exact⟨_,rfl,ZH hM hs hb h1 h2 h3⟩
   ·cases hpt
  ·cases hpt
 split at he
 ·split at he
  ·rename_i ds hds
   split at he
   ·rename_i res hres
    obtain⟨h1,h2⟩:=Bq hM hρ (names:=c.args.toList.flatMap fun x=>bp T (ρ x)) hds (fun m hm=>hm)
    exact Hi hM hd (f:=f) (vs:=c.args.map a.eval) hrun (hE.call f ds res hres).1 ⟨by simp [h1],fun i d v hdi hv=>h2 i d v hdi (by rw [<- Array.getElem?_toList] at hv;simpa using hv)⟩ he
   ·cases he
  ·cases he
 ·split at he
  ·rename_i ds ns is ms hds
   split at he
   ·rename_i hns
    split at he
    ·rename_i res hres
     obtain⟨n1,n2⟩:=uN hns
     obtain⟨i1,i2,i4,i3⟩:=qP hM hρ (names:=ms) hds (fun m hm=>hm) n2
     refine aQ.enter hd hrun (((hE.call f ds res hres).1 w (c.args.map a.eval) (cZ N0 g T ms) (fo g ns) (is.map g.blk) (fun _ hb=>lh hM (cA hb)) (Av hM n1 i1 i2 i4) (by simpa using i3) hM.laid fun b hb=>⟨fun h=>hM.gav hb (cA h),KA hM i1 i2 i4 hb⟩).mono ?_)
     rintro e w' ⟨v,us,hv,hbm,hou,hrm⟩
     exact⟨v,hv,wp hM hbm hou hrm i1 i2 i4 n2 n1 he⟩
    ·cases he
   ·cases he
  ·cases he
theorem Ts (hE:eZ P E)(hM:Mem w0 N0 g T w)(hρ:∀ x,aJ w (am N0 g T) g T (ρ x) (a.eval x)){c:Call}{x:Operand}(ho:o.op=.call c)(hc:c.callee=.value x)
  (he:eff P E T ρ dst (.calld x c.args.toList)=some (y,es)):aQ r n P o a w (Res w0 N0 g T w y es):=by
 have hd:∀ c,o.op ≠ .defer c:=fun c h=>by rw [ho] at h;cases h
 simp only [eff] at he
 split at he
 ·rename_i k ds hk hds
  split at he
  ·rename_i f caps hcd
   split at he
   ·rename_i res hres
    obtain⟨h1,h2⟩:=Bq hM hρ (names:=aX T 4 k++c.args.toList.flatMap fun x=>bp T (ρ x)) hds (fun m hm=>List.mem_append_right _ hm)
    have h3:=qZ hM (names:=aX T 4 k++c.args.toList.flatMap fun x=>bp T (ρ x)) 4 (aM (hρ x) hk) hcd (fun m hm=>List.mem_append_left _ hm)
    generalize hv:a.eval x=v at h3
    cases h3 with
    | @fn _ _ cs hl hdd=>
     obtain⟨hC,fn,hf,hb,hn⟩:=hE.call f _ _ hres
     refine Hi hM hd (f:=f) (vs:=c.args.map a.eval++cs) ?_ hC ⟨by simp [h1,hl],fun i d v hdi hvi=>?_⟩ he
     ·simp only [execOp,ho,resolve,hc,hv]
      simp [Deferred.ofValue,invoke,iw hf hb hn]
     ·rw [<- Array.getElem?_toList,Array.toList_append,Array.toList_map] at hvi
      rw [List.getElem?_append] at hdi hvi
      simp only [List.length_map] at hvi
      rw [<- h1] at hvi
      split at hdi
      ·rename_i hi
       rw [if_pos hi] at hvi
       exact h2 i d v hdi hvi
      ·rename_i hi
       rw [if_neg hi] at hvi
       rw [List.getElem?_map] at hdi
       cases hq:caps[i - ds.length]? with
       | none=>rw [hq] at hdi;cases hdi
       | some d'=>
        rw [hq] at hdi
        simp only [Option.map_some,Option.some.injEq] at hdi
        subst hdi
        exact⟨d',rfl,hdd _ d' v hq (by simpa using hvi)⟩
   ·cases he
  ·cases he
 ·cases he
theorem aiJ (hM:Mem w0 N0 g T w)(hρ:∀ x,aJ w (am N0 g T) g T (ρ x) (a.eval x)){t:TypeId}{x:Operand}(ho:o.op=.makeInterface t x){d:TypeDesc}(hu:P.underlying t=some d)(hi:∀ ms,d ≠ .interface ms)
  (he:eff P E T ρ dst (.ifc t x)=some (y,es)):aQ r n P o a w (Res w0 N0 g T w y es):=by
 have hd:∀ c,o.op ≠ .defer c:=fun c h=>by rw [ho] at h;cases h
 have hx:=hρ x
 simp only [eff] at he
 split at he
 ·rename_i b cs hv
  rw [hv] at hx
  split at he
  ·rename_i ds es' hf
   simp only [Option.some.injEq,Prod.mk.injEq] at he
   obtain⟨rfl,rfl⟩:=he
   obtain⟨xs,hxs,hcr⟩:∃ xs,ahr b xs (a.eval x)/\dH w (am N0 g T) g T cs xs:=by
    cases b with
    | true=>
     obtain⟨xs,h1,h2,h3⟩:=hx
     exact⟨xs.toList,by rw [h1];rfl,by simpa using h2.symm,fun i c u hc hu=>h3 i c u hc (by simpa using hu)⟩
    | false=>
     obtain⟨c,h1,h2⟩:=hx
     subst h1
     exact⟨[a.eval x],rfl,rfl,fun i c' u hc hu=>by
      cases i with
      | zero=>simp at hc hu;subst hc;subst hu;exact h2
      | succ i=>simp at hc⟩
   obtain⟨m1,m2,m3,m4⟩:=g9 hM hcr hf
   have hrun:(execOp a.eval o).run P w=.ok (.value (.iface t (a.eval x))) w:=by
    simp only [execOp,ho,Instr.makeInterface,Sem.run_bind,run_underlying hu,Result.andThen_ok]
    cases d <;> first | rfl | exact absurd rfl (hi _)
   exact aQ.value hd hrun ⟨g,m1,m2,_,rfl,.ifc xs hxs (m3.trans hcr.1.symm) m4⟩
  ·cases he
 ·cases he
theorem wF {ao:AOp}(h:cI P o=some ao):(∀ c,o.op ≠ .defer c)/\∀ cs b,o.op ≠ .select cs b:=by
 unfold cI at h
 constructor
 ·intro c hc;rw [hc] at h;cases h
 ·intro cs b hc;rw [hc] at h;cases h
theorem zI (hE:eZ P E)(hM:Mem w0 N0 g T w)(hρ:∀ x,aJ w (am N0 g T) g T (ρ x) (a.eval x)){c:Call}{ao:AOp}(ho:o.op=.call c)(hc:jH P o c=some ao)
  (he:eff P E T ρ dst ao=some (y,es)):aQ r n P o a w (Res w0 N0 g T w y es):=by
 have hpure:eff P E T ρ dst (.pure o)=some (y,es)->aQ r n P o a w (Res w0 N0 g T w y es):=fun he=>
  qO hM hρ (fun cs b h=>by rw [ho] at h;cases h) (fun c h=>by rw [ho] at h;cases h) he
 unfold jH at hc
 split at hc
 ·rename_i f hcal
  split at hc
  ·rename_i fn hf
   split at hc
   ·rename_i hcond
    simp only [Option.some.injEq] at hc
    subst hc
    exact af1 hE hM hρ ho hcal hf hcond.1 hcond.2 he
   ·simp only [Option.some.injEq] at hc
    subst hc
    exact hpure he
  ·cases hc
 ·rename_i x _ hcal
  simp only [Option.some.injEq] at hc
  subst hc
  exact Ts hE hM hρ ho hcal he
 ·rename_i hcal
  split at hc
  ·rename_i x t ha ht
   split at hc
   ·rename_i e hu
    simp only [Option.some.injEq] at hc
    subst hc
    exact alq hM hρ ho hcal ha ht hu he
   ·simp only [Option.some.injEq] at hc
    subst hc
    exact hpure he
   ·simp only [Option.some.injEq] at hc
    subst hc
    exact hpure he
   ·cases hc
  ·cases hc
 ·rename_i hcal
  split at hc
  ·rename_i p q t u ha hat
   split at hc
   ·rename_i e e' ht hu
    split at hc
    ·rename_i i z hi hz
     split at hc
     ·rename_i hcond
      obtain⟨rfl,hzs,h0⟩:=hcond
      simp only [Option.some.injEq] at hc
      subst hc
      exact RJ hM hρ ho hcal ha hat ht hu hi hz hzs h0 he
     ·cases hc
    ·cases hc
   ·cases hc
  ·cases hc
 all_goals first
  | (simp only [Option.some.injEq] at hc;subst hc;exact hpure he)
  | cases hc
theorem XS (hE:eZ P E)(hM:Mem w0 N0 g T w)(hρ:∀ x,aJ w (am N0 g T) g T (ρ x) (a.eval x)){ao:AOp}(hc:cI P o=some ao)
  (he:eff P E T ρ dst ao=some (y,es)):aQ r n P o a w (Res w0 N0 g T w y es):=by
 have hpl:=wF hc
 unfold cI at hc
 split at hc
 ·rename_i x ho;simp only [Option.some.injEq] at hc;subst hc;exact ahu hM hρ (.inl ho) he
 ·rename_i x ho;simp only [Option.some.injEq] at hc;subst hc;exact ahu hM hρ (.inr ho) he
 ·rename_i c p q ho;simp only [Option.some.injEq] at hc;subst hc;exact ads hM hρ ho he
 ·rename_i e ho
  cases hz:pH P e with
  | none=>rw [hz] at hc;cases hc
  | some cs=>rw [hz] at hc;simp only [Option.map_some,Option.some.injEq] at hc;subst hc;exact SH hM ho hz he
 ·rename_i t x ho;simp only [Option.some.injEq] at hc;subst hc;exact aim hM hρ ho he
 ·rename_i t parts ho
  split at hc
  ·rename_i fs z hu hz
   cases hp:iy P fs.toList with
   | none=>rw [hp] at hc;cases hc
   | some places=>
    rw [hp] at hc
    simp only [Option.bind_some] at hc
    cases hps:(parts.toList.mapM fun p=>(places[p.1]?).map fun q=>(q.1,q.2,p.2)) with
    | none=>rw [hps] at hc;cases hc
    | some ps=>rw [hps] at hc;simp only [Option.map_some,Option.some.injEq] at hc;subst hc;exact wz hM hρ ho hu hz hp hps he
  ·rename_i len e z hu hz
   cases hs:bH P e with
   | none=>rw [hs] at hc;cases hc
   | some s=>rw [hs] at hc;simp only [Option.map_some,Option.some.injEq] at hc;subst hc;exact Bf hM hρ ho hu hz hs he
  ·cases hc
 ·rename_i t len parts ho
  split at hc
  ·rename_i e hu
   split at hc
   ·rename_i s z hs hz
    split at hc
    ·rename_i hcond
     obtain⟨h1,h2,h3⟩:=hcond
     simp only [Option.some.injEq] at hc;subst hc
     exact Sb hM hρ ho hu hs hz h1 h2 h3 he
    ·cases hc
   ·cases hc
  ·cases hc
 ·rename_i t x ho
  split at hc
  ·rename_i d s hu hs
   split at hc
   ·rename_i hd
    simp only [Option.some.injEq] at hc;subst hc
    exact Mw hM hρ ho hu hs (k:=s) (by simp [hd]) (by rw [hd];exact he)
   ·rename_i hd
    simp only [Option.some.injEq] at hc;subst hc
    have hd':bX d=false:=by simpa using hd
    exact Mw hM hρ ho hu hs (k:=1) (by simp [hd']) (by rw [hd'];exact he)
  ·cases hc
 ·rename_i t x z ho
  cases hs:bH P t with
  | none=>rw [hs] at hc;cases hc
  | some s=>rw [hs] at hc;simp only [Option.map_some,Option.some.injEq] at hc;subst hc;exact TK hM hρ ho hs he
 ·rename_i x ho;simp only [Option.some.injEq] at hc;subst hc;exact R6 hM hρ ho he
 ·rename_i t x f ho
  split at hc
  ·rename_i fs hu
   split at hc
   ·rename_i fd hf
    split at hc
    ·rename_i s hs
     split at hc
     ·rename_i h0
      simp only [Option.some.injEq] at hc;subst hc
      exact TQ hM hρ ho hu hf hs h0 he
     ·cases hc
    ·cases hc
   ·cases hc
  ·cases hc
 ·rename_i t x i ho
  split at hc
  ·rename_i e hu
   cases hs:bH P e with
   | none=>rw [hs] at hc;cases hc
   | some s=>rw [hs] at hc;simp only [Option.map_some,Option.some.injEq] at hc;subst hc;exact yh hM hρ ho hu hs he
  ·rename_i len e hu
   cases hs:bH P e with
   | none=>rw [hs] at hc;cases hc
   | some s=>rw [hs] at hc;simp only [Option.map_some,Option.some.injEq] at hc;subst hc;exact zL hM hρ ho hu hs he
  ·cases hc
 ·rename_i t x f ho
  split at hc
  ·rename_i fs hu
   split at hc
   ·rename_i fd hf
    split at hc
    ·rename_i d s hd hs
     split at hc
     ·rename_i hdd
      simp only [Option.some.injEq] at hc;subst hc
      exact GB hM hρ ho hu hf hd hs (q:=s) (by simp [hdd]) (by rw [hdd];exact he)
     ·rename_i hdd
      simp only [Option.some.injEq] at hc;subst hc
      have hd':bX d=false:=by simpa using hdd
      exact GB hM hρ ho hu hf hd hs (q:=1) (by simp [hd']) (by rw [hd'];exact he)
    ·cases hc
   ·cases hc
  ·cases hc
 ·rename_i t x i ho
  split at hc
  ·rename_i len e hu
   split at hc
   ·rename_i d s hd hs
    split at hc
    ·rename_i hdd
     simp only [Option.some.injEq] at hc;subst hc
     exact HM hM hρ ho hu hd hs (q:=s) (by simp [hdd]) rfl (by rw [hdd];exact he)
    ·rename_i hdd
     split at hc
     ·rename_i hs1
      simp only [Option.some.injEq] at hc;subst hc
      have hd':bX d=false:=by simpa using hdd
      exact HM hM hρ ho hu hd hs (q:=1) (by simp [hd']) hs1.symm (by rw [hd'];exact he)
     ·cases hc
   ·cases hc
  ·simp only [Option.some.injEq] at hc;subst hc;exact qO hM hρ hpl.2 hpl.1 he
  ·cases hc
 ·rename_i t x lo hi ho
  split at hc
  ·rename_i e hu
   cases hs:bH P e with
   | none=>rw [hs] at hc;cases hc
   | some s=>rw [hs] at hc;simp only [Option.map_some,Option.some.injEq] at hc;subst hc;exact Hs hM hρ ho hu hs he
  ·simp only [Option.some.injEq] at hc;subst hc;exact qO hM hρ hpl.2 hpl.1 he
  ·rename_i n e hu
   split at hc
   ·cases hs:bH P e with
    | none=>rw [hs] at hc;cases hc
    | some s=>rw [hs] at hc;simp only [Option.map_some,Option.some.injEq] at hc;subst hc;exact Q7 hM hρ ho hu hs he
   ·cases hc
  ·cases hc
 ·rename_i x i ho;simp only [Option.some.injEq] at hc;subst hc;exact JD hM hρ ho he
 ·rename_i t x ho
  split at hc
  ·cases hc
  ·rename_i d hu hni
   simp only [Option.some.injEq] at hc;subst hc
   exact aiJ hM hρ ho hni (fun ms h=>hu ms h) he
  ·cases hc
 ·rename_i f first caps ho
  split at hc
  ·rename_i h0
   simp only [Option.some.injEq] at hc;subst hc
   exact af4 hM hρ ho h0 he
  ·cases hc
 ·rename_i op t x z u ho
  split at hc
  ·split at hc
   ·simp only [Option.some.injEq] at hc;subst hc;exact WK hM hρ ho he
   ·cases hc
  ·cases hc
  ·cases hc
  ·simp only [Option.some.injEq] at hc;subst hc;exact WK hM hρ ho he
 ·simp only [Option.some.injEq] at hc;subst hc;exact qO hM hρ hpl.2 hpl.1 he
 ·rename_i src d x ho
  split at hc
  ·rename_i e h1 h2
   split at hc
   ·rename_i h3
    simp only [Option.some.injEq] at hc;subst hc
    exact XO hM hρ ho h1 h2 (Cr h3) he
   ·cases hc
  ·rename_i e h1 h2
   split at hc
   ·rename_i h3
    simp only [Option.some.injEq] at hc;subst hc
    exact ajZ hM hρ ho h1 h2 (Cr h3) he
   ·cases hc
  ·simp only [Option.some.injEq] at hc;subst hc;exact qO hM hρ hpl.2 hpl.1 he
 ·rename_i c ho;exact zI hE hM hρ ho hc he
 ·cases hc
end Go.AM

namespace Go.AM
variable {P:Program}{E:Env}{T T':Tab}{ρ ρ':Operand->AV}{dst:Nat}
def f9:AOp->List Operand
 | .mv x | .box x | .load _ _ x | .faddr _ x | .field _ _ _ x | .extract _ x | .len x | .nilchk x | .bytes x | .str x | .aslice _ _ x | .ifc _ x=>[x]
 | .pick c a b=>[c,a,b]
 | .alloc _ | .bad=>[]
 | .build _ ps=>ps.map fun p=>p.2.2
 | .bslice _ _ _ ps=>ps.map fun p=>p.2
 | .store _ x y | .append _ _ x y | .copy _ x y | .bin _ _ x y | .eqagg _ x y | .mkslice _ _ _ x y=>[x,y]
 | .iaddr _ _ x i | .index _ _ _ x i=>[x,i]
 | .slice _ _ x lo hi | .view _ x lo hi=>x::(lo.toList++hi.toList)
 | .mkfn _ cs=>cs
 | .call _ as=>as
 | .calld x as=>x::as
 | .inv _ x as=>x::as
 | .pure o=>o.op.operands.toList
theorem pK:∀ (ps:List (Nat × Nat × Operand)) (cs:List C),(∀ x ∈ ps.map (fun p=>p.2.2),ρ x=ρ' x)->gP ρ cs ps=gP ρ' cs ps
 | [],cs,_=>rfl
 | (off,sz,x)::r,cs,h=>by
  simp only [gP,h x (by simp)]
  split
  ·split
   ·exact pK r _ fun y hy=>h y (by simp only [List.map_cons,List.mem_cons];exact .inr hy)
   ·rfl
  ·rfl
theorem mJ {sz:Nat}:∀ (ps:List (Nat × Operand)) (T:Tab) (rows:List (List DC)) (es:List (Nat × aD)),(∀ x ∈ ps.map (·.2),ρ x=ρ' x)->dW ρ sz T rows es ps=dW ρ' sz T rows es ps
 | [],_,_,_,_=>rfl
 | (i,x)::r,T,rows,es,h=>by
  simp only [dW,h x (by simp)]
  split
  ·split
   ·split
    ·exact mJ r _ _ _ fun y hy=>h y (by simp only [List.map_cons,List.mem_cons];exact .inr hy)
    ·rfl
   ·rfl
  ·rfl
theorem vK:∀ (ps:List (Nat × Operand)) (k:Nat),(∀ x ∈ ps.map (·.2),ρ x=ρ' x)->wm ρ k ps=wm ρ' k ps
 | [],_,_=>rfl
 | (i,x)::r,k,h=>by
  simp only [wm,h x (by simp)]
  rw [vK r (k+1) fun y hy=>h y (by simp only [List.map_cons,List.mem_cons];exact .inr hy)]
theorem IT {g:Nat}(as:List Operand)(h:∀ x ∈ as,ρ x=ρ' x):AN E T ρ dst g as=AN E T ρ' dst g as:=by
 unfold AN
 split
 ·rename_i x n c
  have h1:=h x (by simp)
  simp only [fwC,h x (by simp),h n (by simp),h c (by simp)]
 ·rfl
theorem Hy {offs:List Nat}(as:List Operand)(h:∀ x ∈ as,ρ x=ρ' x):An offs T ρ dst as=An offs T ρ' dst as:=by
 unfold An
 split
 ·rw [h _ (by simp)]
 ·rfl
theorem wd:∀ (cs:List Operand),(∀ x ∈ cs,ρ x=ρ' x)->sA ρ cs=sA ρ' cs
 | [],_=>rfl
 | x::r,h=>by simp only [sA,h x (by simp),wd r fun y hy=>h y (List.mem_cons_of_mem _ hy)]
theorem jI:∀ (cs:List Operand),(∀ x ∈ cs,ρ x=ρ' x)->iv T ρ cs=iv T ρ' cs
 | [],_=>rfl
 | x::r,h=>by simp only [iv,h x (by simp),jI r fun y hy=>h y (List.mem_cons_of_mem _ hy)]
theorem vS:∀ (cs:List Operand) (io:List Nat) (k:Nat),(∀ x ∈ cs,ρ x=ρ' x)->gW T ρ io k cs=gW T ρ' io k cs
 | [],_,_,_=>rfl
 | x::r,io,k,h=>by simp only [gW,h x (by simp),vS r io (k+1) fun y hy=>h y (List.mem_cons_of_mem _ hy)]
theorem bS {α β:Type}{f f':α->List β}:∀ (l:List α),(∀ x ∈ l,f x=f' x)->l.flatMap f=l.flatMap f'
 | [],_=>rfl
 | x::r,h=>by simp only [List.flatMap_cons,h x (by simp),bS r fun y hy=>h y (List.mem_cons_of_mem _ hy)]
theorem yv {α:Type}{f f':α->Bool}:∀ (l:List α),(∀ x ∈ l,f x=f' x)->l.all f=l.all f'
 | [],_=>rfl
 | x::r,h=>by simp only [List.all_cons,h x (by simp),yv r fun y hy=>h y (List.mem_cons_of_mem _ hy)]
theorem iz {d:Int}(x:Option Operand)(h:∀ y ∈ x.toList,ρ y=ρ' y):bw ρ d x=bw ρ' d x:=by
 cases x with
 | none=>rfl
 | some y=>simp only [bw,h y (by simp)]
def agW:AOp->Prop
 | .pure o=>∀ cs b,o.op ≠ .select cs b
 | _=>True
theorem BH {op:Op}(h:∀ x ∈ op.operands,ρ x=ρ' x):cM P op ρ=cM P op ρ':=by
 cases op
 case convert s d x=>simp only [cM,h x (by simp [Op.operands])]
 case call c=>
  simp only [cM]
  split
  ·rename_i f x hc ha
   have hx:ρ x=ρ' x:=h x (by
    have:x ∈ c.args.toList:=by rw [ha];simp
    simp only [Op.operands,Call.operands,hc]
    simp [Array.mem_toList_iff.1 this])
   rw [hx]
  ·rfl
 all_goals rfl
theorem Gi {op:Op}(h:∀ x ∈ op.operands,ρ x=ρ' x):gl P op ρ=gl P op ρ':=by
 cases op
 case convert s d x=>simp only [gl,h x (by simp [Op.operands])]
 case call c=>
  simp only [gl]
  split
  all_goals first | rfl | skip
  all_goals
   rename_i x hc ha
   have hx:ρ x=ρ' x:=h x (by
    have:x ∈ c.args.toList:=by rw [ha];simp
    simp only [Op.operands,Call.operands,hc]
    simp [Array.mem_toList_iff.1 this])
   rw [hx]
 all_goals rfl
theorem Sy (ao:AOp)(hn:agW ao)(h:∀ x ∈ f9 ao,ρ x=ρ' x):eff P E T ρ dst ao=eff P E T ρ' dst ao:=by
 cases ao
 case alloc z=>rfl
 case bad=>rfl
 case build z ps=>simp only [eff,pK ps z h]
 case bslice s n z ps=>simp only [eff,mJ ps _ _ _ h,vK ps _ h]
 case mkfn f cs=>simp only [eff,wd cs h]
 case call f as=>simp only [eff,IT as h,Hy as h,jI as h,vS as _ _ h,bS (f:=fun x=>bp T (ρ x)) (f':=fun x=>bp T (ρ' x)) as fun x hx=>by rw [h x hx]]
 case calld x as=>
  have h':∀ y ∈ as,ρ y=ρ' y:=fun y hy=>h y (List.mem_cons_of_mem _ hy)
  simp only [eff,h x (by simp [f9]),jI as h',bS (f:=fun x=>bp T (ρ x)) (f':=fun x=>bp T (ρ' x)) as fun y hy=>by rw [h' y hy]]
 case inv m x as=>
  have h':∀ y ∈ as,ρ y=ρ' y:=fun y hy=>h y (List.mem_cons_of_mem _ hy)
  simp only [eff,h x (by simp [f9]),jI as h',bS (f:=fun x=>bp T (ρ x)) (f':=fun x=>bp T (ρ' x)) as fun y hy=>by rw [h' y hy]]
 case pure o=>
  have e0:∀ x,ρ x=ρ' x->ej ρ x=ej ρ' x:=fun x hx=>by cases x <;> simp [ej,hx]
  have e1:=yv (f:=fun x=>(ej ρ x).isSome) (f':=fun x=>(ej ρ' x).isSome) o.op.operands.toList fun x hx=>by rw [e0 x (h x hx)]
  have e2:=execOp_congr (ρ:=fun x=>(ej ρ x).getD undef) (ρ':=fun x=>(ej ρ' x).getD undef) o hn fun x hx=>by simp only [e0 x (h x (by simpa [f9] using hx))]
  have e3:=BH (P:=P) (op:=o.op) (ρ:=ρ) (ρ':=ρ') fun x hx=>h x (by simpa [f9] using hx)
  have e4:=Gi (P:=P) (op:=o.op) (ρ:=ρ) (ρ':=ρ') fun x hx=>h x (by simpa [f9] using hx)
  simp only [eff,e1,e2,e3,e4]
 case slice s m x lo hi=>
  have hl:∀ d,bw ρ d lo=bw ρ' d lo:=fun d=>iz lo fun y hy=>h y (by simp [f9];exact .inr (.inl (by simpa using hy)))
  have hh:∀ d,bw ρ d hi=bw ρ' d hi:=fun d=>iz hi fun y hy=>h y (by simp [f9];exact .inr (.inr (by simpa using hy)))
  simp only [eff,h x (by simp [f9]),hl,hh]
 case view s x lo hi=>
  have hl:∀ d,bw ρ d lo=bw ρ' d lo:=fun d=>iz lo fun y hy=>h y (by simp [f9];exact .inr (.inl (by simpa using hy)))
  have hh:∀ d,bw ρ d hi=bw ρ' d hi:=fun d=>iz hi fun y hy=>h y (by simp [f9];exact .inr (.inr (by simpa using hy)))
  simp only [eff,h x (by simp [f9]),hl,hh]
 case iaddr s arr x i=>cases arr <;> simp only [eff,h x (by simp [f9]),h i (by simp [f9])]
 case pick c a b=>simp only [eff,h c (by simp [f9]),h a (by simp [f9]),h b (by simp [f9])]
 all_goals simp_all [eff,f9]
def ct (l:List Nat)(T T':Tab):Prop:=∀ n ∈ l,aj T' n=aj T n
theorem ct.sub {l l':List Nat}(h:ct l T T')(hs:∀ n ∈ l',n ∈ l):ct l' T T':=fun n hn=>h n (hs n hn)
theorem ct.aput {l:List Nat}(h:ct l T T')(n:Nat)(e:aD):ct l (aput T n e) (aput T' n e):=by
 intro m hm
 rw [cC,cC]
 split
 ·rfl
 ·exact h m hm
theorem ct.aputs {l:List Nat}:∀ (es:List (Nat × aD)) {T T':Tab},ct l T T'->ct l (aputs T es) (aputs T' es)
 | [],_,_,h=>h
 | (n,e)::r,_,_,h=>ct.aputs r (h.aput n e)
def fI:C->List Nat
 | .ref n | .eptr n _ _ | .ptr n _ | .sub n _ _=>[n]
 | _=>[]
def jM:AV->List Nat
 | .val _ cs=>cs.flatMap fI
 | .tup _=>[]
theorem R7 {x:AV}{c:C}(h:cE x=some c):jM x=fI c:=by
 unfold cE at h
 split at h
 ·simp only [Option.some.injEq] at h;subst h;simp [jM]
 ·cases h
theorem wo {x:AV}{cs:List C}(h:gA x=some cs):jM x=cs.flatMap fI:=by
 cases x with
 | val b l=>simp only [gA,Option.some.injEq] at h;subst h;rfl
 | tup l=>cases h
theorem ii {α β:Type}{f f':α->Option β}:∀ (l:List α),(∀ x ∈ l,f x=f' x)->l.mapM f=l.mapM f'
 | [],_=>rfl
 | x::r,h=>by simp only [List.mapM_cons,h x (by simp),ii r fun y hy=>h y (List.mem_cons_of_mem _ hy)]
theorem RN (T:Tab)(k:Nat)(b:Bool)(n off:Nat):aX T (k+1) (mC b n off)=n::(match aj T n with | some (.box cs)=>cs.flatMap (aX T k) | _=>[]):=by
 cases b
 ·rfl
 ·simp only [aX,mC,List.flatMap_cons,List.flatMap_nil,List.append_nil]
  rfl
theorem jr:∀ (k:Nat) (c:C),ct (aX T k c) T T'->dh T' k c=dh T k c/\aX T' k c=aX T k c
 | 0,_,_=>⟨rfl,rfl⟩
 | k+1,c,h=>by
  cases c with
  | d x=>exact⟨rfl,rfl⟩
  | nils=>exact⟨rfl,rfl⟩
  | und=>exact⟨rfl,rfl⟩
  | unk=>exact⟨rfl,rfl⟩
  | yld l=>exact⟨rfl,rfl⟩
  | sub n lo hi=>exact⟨rfl,rfl⟩
  | pptr n off=>exact⟨rfl,rfl⟩
  | psl l=>
   refine⟨rfl,?_⟩
   simp only [aX]
   refine bS l fun p hp=>?_
   have hsub:∀ m ∈ p.1::(match aj T p.1 with | some (.box cs)=>cs.flatMap (aX T k) | _=>[]),m ∈ aX T (k+1) (.psl l):=fun m hm=>by
    simp only [aX];exact List.mem_flatMap.2 ⟨p,hp,hm⟩
   have h1:=h p.1 (hsub p.1 (by simp))
   rw [h1]
   cases he:aj T p.1 with
   | none=>rfl
   | some e=>
    cases e with
    | box cs=>
     have ih:∀ c ∈ cs,aX T' k c=aX T k c:=fun c hc=>
      (jr k c (h.sub fun m hm=>hsub m (by simp only [he];exact List.mem_cons_of_mem _ (List.mem_flatMap.2 ⟨c,hc,hm⟩)))).2
     simp only [bS cs fun c hc=>ih c hc]
    | _=>rfl
  | ref n=>exact⟨by simp only [dh,h n (by simp [aX])],rfl⟩
  | eptr n i off=>exact⟨by simp only [dh,h n (by simp [aX])],rfl⟩
  | ptr n off=>
   have h1:=h n (by simp [aX])
   simp only [dh,aX,h1]
   cases he:aj T n with
   | none=>exact⟨rfl,rfl⟩
   | some e=>
    cases e with
    | box cs=>
     have ih:∀ c ∈ cs,dh T' k c=dh T k c/\aX T' k c=aX T k c:=fun c hc=>
      jr k c (h.sub fun m hm=>by simp only [aX,he];exact List.mem_cons_of_mem _ (List.mem_flatMap.2 ⟨c,hc,hm⟩))
     exact⟨by simp only [ii cs fun c hc=>(ih c hc).1],by simp only [bS cs fun c hc=>(ih c hc).2]⟩
    | _=>exact⟨rfl,rfl⟩
  | fn f caps=>
   have ih:∀ c ∈ caps,yM (dh T' k) T' c=yM (dh T k) T c /\
     (match c with | .ptr n=>n::(match aj T' n with | some (.box cs)=>cs.flatMap (aX T' k) | _=>[]) | .d _=>[])=
     (match c with | .ptr n=>n::(match aj T n with | some (.box cs)=>cs.flatMap (aX T k) | _=>[]) | .d _=>[]):=by
    intro c hc
    cases c with
    | d x=>exact⟨rfl,rfl⟩
    | ptr n=>
     have hsub:∀ m ∈ n::(match aj T n with | some (.box cs)=>cs.flatMap (aX T k) | _=>[]),m ∈ aX T (k+1) (.fn f caps):=fun m hm=>by
      simp only [aX];exact List.mem_flatMap.2 ⟨.ptr n,hc,hm⟩
     have h1:=h n (hsub n (by simp))
     simp only [yM,h1]
     cases he:aj T n with
     | none=>exact⟨rfl,rfl⟩
     | some e=>
      cases e with
      | box cs=>
       have ih:∀ c ∈ cs,dh T' k c=dh T k c/\aX T' k c=aX T k c:=fun c hc=>
        jr k c (h.sub fun m hm=>hsub m (by simp only [he];exact List.mem_cons_of_mem _ (List.mem_flatMap.2 ⟨c,hc,hm⟩)))
       exact⟨by simp only [ii cs fun c hc=>(ih c hc).1],by simp only [bS cs fun c hc=>(ih c hc).2]⟩
      | _=>exact⟨rfl,rfl⟩
   refine⟨by simp only [dh,ii caps fun c hc=>(ih c hc).1],?_⟩
   simp only [aX]
   exact bS caps fun c hc=>(ih c hc).2
theorem yC {x:AV}(h:ct (bp T x) T T'):GZ T' x=GZ T x/\bp T' x=bp T x:=by
 cases x with
 | tup l=>exact⟨rfl,rfl⟩
 | val b cs=>
  have ih:∀ c ∈ cs,dh T' 4 c=dh T 4 c/\aX T' 4 c=aX T 4 c:=fun c hc=>jr 4 c (h.sub fun m hm=>List.mem_flatMap.2 ⟨c,hc,hm⟩)
  exact⟨by simp only [GZ,ii cs fun c hc=>(ih c hc).1],by simp only [bp,bS cs fun c hc=>(ih c hc).2]⟩
theorem jE:∀ (cs:List Operand),ct (cs.flatMap fun x=>bp T (ρ x)) T T' ->
  iv T' ρ cs=iv T ρ cs/\(cs.flatMap fun x=>bp T' (ρ x))=cs.flatMap fun x=>bp T (ρ x)
 | [],_=>⟨rfl,rfl⟩
 | x::r,h=>by
  obtain⟨h1,h2⟩:=yC (x:=ρ x) (h.sub fun m hm=>by simp only [List.flatMap_cons];exact List.mem_append_left _ hm)
  obtain⟨h3,h4⟩:=jE r (h.sub fun m hm=>by simp only [List.flatMap_cons];exact List.mem_append_right _ hm)
  exact⟨by simp only [iv,h1,h3],by simp only [List.flatMap_cons,h2,h4]⟩
theorem JH {c:C}(h:ct (aX T 3 c) T T'):Zi T' c=Zi T c:=by
 cases c with
 | ref n=>simp only [Zi,h n (by simp [aX])]
 | _=>rfl
theorem wq:∀ (cs:List C),ct (cs.flatMap (aX T 3)) T T'->vB T' cs=vB T cs
 | [],_=>rfl
 | c::r,h=>by
  simp only [vB,JH (h.sub fun m hm=>by simp only [List.flatMap_cons];exact List.mem_append_left _ hm),wq r (h.sub fun m hm=>by simp only [List.flatMap_cons];exact List.mem_append_right _ hm)]
theorem lw:∀ (cs:List Operand) (io:List Nat) (k:Nat),ct (cs.flatMap fun x=>bp T (ρ x)) T T'->gW T' ρ io k cs=gW T ρ io k cs
 | [],_,_,_=>rfl
 | x::r,io,k,h=>by
  have hx:ct (bp T (ρ x)) T T':=h.sub fun m hm=>by simp only [List.flatMap_cons];exact List.mem_append_left _ hm
  obtain⟨h1,h2⟩:=yC (x:=ρ x) hx
  have h3:=lw r io (k+1) (h.sub fun m hm=>by simp only [List.flatMap_cons];exact List.mem_append_right _ hm)
  have hv:∀ c,cE (ρ x)=some c->ρ x=.val false [c]:=fun c ho=>by
   unfold cE at ho
   split at ho
   ·rename_i c hc
    simp only [Option.some.injEq] at ho
    subst ho
    exact hc
   ·cases ho
  have hn:∀ b n off,cE (ρ x)=some (mC b n off)->∀ m ∈ n::(match aj T n with | some (.box cs)=>cs.flatMap (aX T 3) | _=>[]),m ∈ bp T (ρ x):=fun b n off ho m hm=>by
   rw [hv _ ho]
   have e:=RN T 3 b n off
   refine List.mem_flatMap.2 ⟨mC b n off,by simp,?_⟩
   exact e ▸ hm
  simp only [gW,h1,h2,h3]
  split
  ·rfl
  ·split
   ·split
    ·rename_i b n off ho
     obtain⟨c0,ho,hc0⟩:=Option.bind_eq_some_iff.1 ho
     obtain rfl:c0=mC b n off:=uv hc0
     rw [hx n (hn b n off ho n (by simp))]
     split
     ·rename_i cs hT
      rw [wq cs (hx.sub fun m hm=>hn b n off ho m (by rw [hT];exact List.mem_cons_of_mem _ hm))]
     ·rfl
    ·rfl
   ·rfl
theorem mS:∀ (cs:List Operand) (io:List Nat) (k:Nat) {ds:List DV} {ns is ms:List Nat},gW T ρ io k cs=some (ds,ns,is,ms)->∀ m ∈ ms,m ∈ cs.flatMap fun x=>bp T (ρ x)
 | [],_,_,ds,ns,is,ms,h=>by simp only [gW,Option.some.injEq,Prod.mk.injEq] at h;obtain⟨_,_,_,rfl⟩:=h;simp
 | x::r,io,k,ds,ns,is,ms,h=>by
  simp only [gW] at h
  split at h
  ·cases h
  ·rename_i ds' ns' is' ms' hr
   have ih:=mS r io (k+1) hr
   split at h
   ·split at h
    ·split at h
     ·split at h
      ·simp only [Option.some.injEq,Prod.mk.injEq] at h
       obtain⟨_,_,_,rfl⟩:=h
       exact fun m hm=>by simp only [List.flatMap_cons];exact List.mem_append_right _ (ih m hm)
      ·cases h
     ·cases h
    ·cases h
   ·split at h
    ·simp only [Option.some.injEq,Prod.mk.injEq] at h
     obtain⟨_,_,_,rfl⟩:=h
     intro m hm
     simp only [List.flatMap_cons]
     rcases List.mem_append.1 hm with hm | hm
     ·exact List.mem_append_left _ hm
     ·exact List.mem_append_right _ (ih m hm)
    ·cases h
theorem BG {c:C}(h:ct (fI c) T T'):gQ T' c=gQ T c:=by
 cases c with
 | ref n=>simp only [gQ,h n (by simp [fI])]
 | fn f caps=>cases caps <;> rfl
 | _=>rfl
theorem gw:∀ (cs:List C) {T T':Tab},ct (cs.flatMap fI) T T'->cF T' cs=cF T cs
 | [],_,_,_=>rfl
 | c::r,T,T',h=>by
  simp only [cF,BG (h.sub fun m hm=>by simp only [List.flatMap_cons];exact List.mem_append_left _ hm)]
  cases gQ T c with
  | none=>rfl
  | some p=>
   simp only []
   rw [gw r ((h.sub fun m hm=>by simp only [List.flatMap_cons];exact List.mem_append_right _ hm).aputs p.2)]
theorem pP {sz:Nat}:∀ (ps:List (Nat × Operand)) {T T':Tab} (rows:List (List DC)) (es:List (Nat × aD)),ct (ps.flatMap fun p=>jM (ρ p.2)) T T' ->
  dW ρ sz T' rows es ps=dW ρ sz T rows es ps
 | [],_,_,_,_,_=>rfl
 | (i,x)::r,T,T',rows,es,h=>by
  simp only [dW]
  cases hx:gA (ρ x) with
  | none=>rfl
  | some xs=>
   simp only []
   rw [gw xs (h.sub fun m hm=>by simp only [List.flatMap_cons,wo hx];exact List.mem_append_left _ hm)]
   cases cF T xs with
   | none=>rfl
   | some p=>
    simp only []
    split
    ·exact pP r _ _ ((h.sub fun m hm=>by simp only [List.flatMap_cons];exact List.mem_append_right _ hm).aputs p.2)
    ·rfl
theorem jC {x:AV}(h:ct (jM x) T T'):kE T' x=kE T x:=by
 unfold kE
 split
 ·rfl
 ·rfl
 ·rename_i n;rw [h n (by simp [jM,fI])]
 ·rename_i n lo hi;rw [h n (by simp [jM,fI])]
 ·rfl
theorem dG:∀ (l:List Nat) {T T':Tab},ct l T T'->aU T' l=aU T l
 | [],_,_,_=>rfl
 | n::r,T,T',h=>by
  have h':ct r T T':=h.sub fun m hm=>List.mem_cons_of_mem _ hm
  simp only [aU,h n (by simp)]
  split
  ·rw [dG r (h'.aput n _)]
  ·rw [dG r (h'.aput n _)]
  ·exact dG r h'
theorem jk:∀ (es:List (Nat × aD)) {T T':Tab},ct (es.map (·.1)) T T'->cO T' es=cO T es
 | [],_,_,_=>rfl
 | p::r,T,T',h=>by
  simp only [cO,h p.1 (by simp),jk r (h.sub fun m hm=>by simp only [List.map_cons];exact List.mem_cons_of_mem _ hm)]
theorem j7 {base:Nat}{names:List Nat}{res:List RV}{y:AV}{es:List (Nat × aD)}(h:ct (names++es.map (·.1)) T T')(hc:dN base T names res=some (y,es)) :
  dN base T' names res=some (y,es):=by
 unfold dN at hc ⊢
 rw [dG names (h.sub fun m hm=>List.mem_append_left _ hm)]
 simp only [] at hc ⊢
 generalize hf:(if names.isEmpty=true then ([]:List (Nat × aD)) else if (res.any fun r=>r.2.any eo)=true then aU T names else [])=frz at hc ⊢
 have hag:ct ((bf base 0 res).2.map (·.1)) (aputs T frz) (aputs T' frz):=by
  split at hc
  ·simp only [Option.some.injEq,Prod.mk.injEq] at hc
   refine (h.sub fun m hm=>List.mem_append_right _ ?_).aputs frz
   rw [<- hc.2,List.map_append]
   exact List.mem_append_right _ hm
  ·cases hc
 rw [jk _ hag]
 exact hc
theorem od {base:Nat}{names ns is:List Nat}{res:List RV}{y:AV}{es:List (Nat × aD)}(h:ct (names++es.map (·.1)) T T')(hc:dA base T names ns is res=some (y,es)) :
  dA base T' names ns is res=some (y,es):=by
 unfold dA at hc ⊢
 rw [dG names (h.sub fun m hm=>List.mem_append_left _ hm)]
 simp only [] at hc ⊢
 generalize hf:(if names.isEmpty=true then ([]:List (Nat × aD)) else if (res.any fun r=>r.2.any eo)=true then aU T names else [])=frz at hc ⊢
 unfold RX at hc ⊢
 split at hc
 ·rename_i bs hbs
  have hag:ct ((bf base 0 res).2.map (·.1)) (aputs T frz) (aputs T' frz):=by
   split at hc
   ·simp only [Option.some.injEq,Prod.mk.injEq] at hc
    refine (h.sub fun m hm=>List.mem_append_right _ ?_).aputs frz
    rw [<- hc.2,List.map_append,List.map_append]
    exact List.mem_append_right _ (List.mem_append_left _ hm)
   ·cases hc
  rw [jk _ hag]
  exact hc
 ·cases hc
def kg (T:Tab)(ρ:Operand->AV):AOp->List Nat
 | .load _ _ x | .len x | .str x | .iaddr _ none x _ | .slice _ _ x _ _ | .view _ x _ _=>jM (ρ x)
 | .store _ x y | .append _ _ x y | .copy _ x y=>jM (ρ x)++jM (ρ y)
 | .bslice _ _ _ ps=>ps.flatMap fun p=>jM (ρ p.2)
 | .ifc _ x=>jM (ρ x)
 | .inv _ _ as=>as.flatMap fun x=>bp T (ρ x)
 | .call _ as=>as.flatMap fun x=>bp T (ρ x)
 | .calld x as=>(match cE (ρ x) with | some c=>aX T 4 c | none=>[])++as.flatMap fun x=>bp T (ρ x)
 | _=>[]
theorem ct.none_new {l:List Nat}{es:List (Nat × aD)}(h:ct (l++es.map (·.1)) T T'){n:Nat}{e:aD}(hn:(n,e) ∈ es):aj T' n=aj T n:=
 h n (List.mem_append_right _ (List.mem_map.2 ⟨_,hn,rfl⟩))
theorem WY {g:Nat}{x n c:Operand}{caps:List Cap}(h:fwC ρ g x n c=some caps):ρ c=.val false [.fn g caps]:=by
 unfold fwC at h
 split at h
 ·rename_i g' caps' hn hc
  split at h
  ·rename_i hg
   obtain⟨rfl,_⟩:=hg
   simp only [Option.some.injEq] at h
   subst h
   unfold cE at hc
   split at hc
   ·rename_i c0 hq
    simp only [Option.some.injEq] at hc
    subst hc
    rw [hq]
   ·cases hc
  ·cases h
 ·cases h
theorem Jw {x:AV}{g:Nat}{caps:List Cap}{m:Nat}(h:m ∈ (Kg caps.length).flatMap fun y=>bp T (HT x caps y)):m ∈ bp T x++bp T (.val false [.fn g caps]):=by
 obtain⟨y,hy,hm⟩:=List.mem_flatMap.1 h
 obtain⟨t,ht,rfl⟩:=List.mem_map.1 hy
 match t with
 | 0=>exact List.mem_append_left _ hm
 | t+1=>
  refine List.mem_append_right _ ?_
  simp only [HT,List.getElem?_cons_succ,List.getElem?_map] at hm
  cases hq:caps[t]? with
  | none=>rw [hq] at hm;simp [bp,aX] at hm
  | some k=>
   rw [hq] at hm
   have hk:k ∈ caps:=List.mem_of_getElem? hq
   cases k with
   | ptr n=>
    simp only [Option.map_some,alI,bp,List.flatMap_cons,List.flatMap_nil,List.append_nil] at hm ⊢
    exact List.mem_flatMap.2 ⟨.ptr n,hk,hm⟩
   | d d=>simp [alI,bp,aX] at hm
theorem J0 {g:Nat}(as:List Operand){y:AV}{es:List (Nat × aD)}(hl:ct (as.flatMap fun x=>bp T (ρ x)) T T')(h:ct ((as.flatMap fun x=>bp T (ρ x))++es.map (·.1)) T T')
  (he:AN E T ρ dst g as=some (y,es)):AN E T' ρ dst g as=some (y,es):=by
 unfold AN at he ⊢
 split at he
 ·rename_i x n c
  split at he
  ·rename_i caps hc
   have hcc:=WY hc
   have hin:∀ m ∈ (Kg caps.length).flatMap fun y=>bp T (HT (ρ x) caps y),m ∈ [x,n,c].flatMap fun x=>bp T (ρ x):=fun m hm=>by
    rcases List.mem_append.1 (Jw (g:=g) hm) with h1 | h1
    ·exact List.mem_flatMap.2 ⟨x,by simp,h1⟩
    ·exact List.mem_flatMap.2 ⟨c,by simp,by rw [hcc];exact h1⟩
   unfold Lb at he ⊢
   rw [lw (Kg caps.length) _ _ (T:=T) (T':=T') (ρ:=HT (ρ x) caps) (hl.sub hin)]
   split at he
   ·rename_i ds ns is ms hds
    split at he
    ·split at he
     ·refine od (h.sub fun m hm=>?_) he
      rcases List.mem_append.1 hm with hm | hm
      ·exact List.mem_append_left _ (hin m (mS _ _ _ hds m hm))
      ·exact List.mem_append_right _ hm
     ·cases he
    ·cases he
   ·cases he
  ·cases he
 ·cases he
theorem JO {ao:AOp}{y:AV}{es:List (Nat × aD)}(h:ct (kg T ρ ao++es.map (·.1)) T T')(he:eff P E T ρ dst ao=some (y,es)):eff P E T' ρ dst ao=some (y,es):=by
 have hl:ct (kg T ρ ao) T T':=h.sub fun m hm=>List.mem_append_left _ hm
 have hx:∀ {x:AV} {c:C},cE x=some c->(∀ m ∈ jM x,m ∈ kg T ρ ao)->ct (fI c) T T':=fun h1 h2=>hl.sub fun m hm=>h2 m (by rw [R7 h1];exact hm)
 cases ao
 case alloc z=>
  simp only [eff] at he ⊢
  split at he
  ·rename_i hf
   simp only [Option.some.injEq,Prod.mk.injEq] at he
   have:=h.none_new (n:=dst) (e:=.box z) (by rw [<- he.2];simp)
   rw [this,if_pos hf]
   simp only [Option.some.injEq,Prod.mk.injEq];exact he
  ·cases he
 case box x=>
  simp only [eff] at he ⊢
  split at he
  ·rename_i cs hcs
   split at he
   ·rename_i hf
    simp only [Option.some.injEq,Prod.mk.injEq] at he
    have:=h.none_new (n:=dst) (e:=.box cs) (by rw [<- he.2];simp)
    rw [this,if_pos hf]
    simp only [Option.some.injEq,Prod.mk.injEq];exact he
   ·cases he
  ·cases he
 case bslice s n z ps=>
  simp only [eff] at he ⊢
  have hb:ct (ps.flatMap fun p=>jM (ρ p.2)) T T':=hl
  rw [pP ps _ _ hb]
  split at he
  ·rename_i rows es' hgo
   split at he
   ·rename_i hf
    simp only [Option.some.injEq,Prod.mk.injEq] at he
    have ha:ct [dst] T T':=h.sub fun m hm=>by
     simp only [List.mem_singleton] at hm
     refine List.mem_append_right _ ?_
     rw [<- he.2,hm];simp
    have:=(ha.aputs es') dst (by simp)
    rw [this,if_pos hf]
    simp only [Option.some.injEq,Prod.mk.injEq];exact he
   ·cases he
  ·exact he
 case load agg sz x=>
  simp only [eff] at he ⊢
  split at he <;> rename_i h1
  ·rw [(hx h1 fun m hm=>hm) _ (by simp [fI])];exact he
  ·rw [(hx h1 fun m hm=>hm) _ (by simp [fI])];exact he
  ·exact he
  ·exact he
  ·cases he
 case store sz x y=>
  simp only [eff] at he ⊢
  split at he
  ·rename_i h1 h2
   rw [(hx h2 fun m hm=>List.mem_append_left _ hm) _ (by simp [fI])];exact he
  ·rename_i ys n i off h1 h2
   have hys:ct (ys.flatMap fI) T T':=hl.sub fun m hm=>List.mem_append_right _ (by rw [wo h1];exact hm)
   rw [gw ys hys]
   split at he
   ·rename_i ds es' hf
    have ha:ct [n] T T':=(hx h2 fun m hm=>List.mem_append_left _ hm).sub fun m hm=>by simpa [fI] using hm
    rw [(ha.aputs es') n (by simp)]
    exact he
   ·cases he
  ·cases he
 case iaddr sz arr x i=>
  cases arr with
  | none=>
   simp only [eff] at he ⊢
   split at he <;> rename_i h0 h1
   ·exact he
   ·rw [(hx h1 fun m hm=>hm) _ (by simp [fI])];exact he
   ·exact he
   ·cases he
  | some len=>exact he
 case slice sz mv x lo hi=>
  simp only [eff] at he ⊢
  split at he <;> rename_i h1
  ·exact he
  ·exact he
  ·rename_i n
   rw [(hx h1 fun m hm=>hm) _ (by simp [fI])]
   split at he
   ·rename_i s rows h2
    split at he
    ·rename_i l hh h3 h4
     split at he
     ·rename_i hc
      split at he
      ·rename_i hm
       split at he
       ·rename_i hf
        simp only [Option.some.injEq,Prod.mk.injEq] at he
        have:=h.none_new (n:=dst) (e:=.own s ((rows.take hh.toNat).drop l.toNat)) (by rw [<- he.2];simp)
        rw [this]
        rw [if_pos hc,if_pos hm,if_pos hf]
        simp only [Option.some.injEq,Prod.mk.injEq];exact he
       ·cases he
      ·rename_i hm
       rw [if_pos hc,if_neg hm]
       exact he
     ·cases he
    ·cases he
   ·exact he
   ·cases he
  ·cases he
 case mkslice sz bytes z l c=>
  simp only [eff] at he ⊢
  split at he
  ·split at he
   ·rename_i hc
    simp only [Option.some.injEq,Prod.mk.injEq] at he
    have:=h.none_new (n:=dst) (by rw [<- he.2];exact List.mem_singleton.2 rfl)
    rw [this,if_pos hc]
    simp only [Option.some.injEq,Prod.mk.injEq];exact he
   ·cases he
  ·cases he
 case str x=>
  simp only [eff] at he ⊢
  rw [jC (x:=ρ x) (hl.sub fun m hm=>hm)];exact he
 case bytes x=>
  simp only [eff] at he ⊢
  split at he
  ·split at he
   ·rename_i hf
    simp only [Option.some.injEq,Prod.mk.injEq] at he
    have:=h.none_new (n:=dst) (by rw [<- he.2];exact List.mem_singleton.2 rfl)
    rw [this,if_pos hf]
    simp only [Option.some.injEq,Prod.mk.injEq];exact he
   ·cases he
  ·cases he
 case len x=>
  simp only [eff] at he ⊢
  split at he
  ·exact he
  ·rw [jC (x:=ρ x) (hl.sub fun m hm=>hm)];exact he
 case append sz bytes x y=>
  simp only [eff] at he ⊢
  rw [jC (x:=ρ y) (hl.sub fun m hm=>List.mem_append_right _ hm)]
  split at he
  ·exact he
  split at he
  ·split at he
   ·split at he
    ·rename_i hc
     simp only [Option.some.injEq,Prod.mk.injEq] at he
     have:=h.none_new (n:=dst) (by rw [<- he.2];exact List.mem_singleton.2 rfl)
     rw [this,if_pos hc]
     simp only [Option.some.injEq,Prod.mk.injEq];exact he
    ·cases he
   ·rename_i n h1
    rw [(hx h1 fun m hm=>List.mem_append_left _ hm) _ (by simp [fI])]
    split at he
    ·split at he
     ·rename_i hc
      simp only [Option.some.injEq,Prod.mk.injEq] at he
      have:=h.none_new (n:=dst) (by rw [<- he.2];exact List.mem_cons_of_mem _ (List.mem_singleton.2 rfl))
      rw [this,if_pos hc]
      simp only [Option.some.injEq,Prod.mk.injEq];exact he
     ·cases he
    ·cases he
   ·exact he
   ·split at he
    ·rename_i hc
     simp only [Option.some.injEq,Prod.mk.injEq] at he
     have:=h.none_new (n:=dst) (by rw [<- he.2];exact List.mem_singleton.2 rfl)
     rw [this,if_pos hc]
     simp only [Option.some.injEq,Prod.mk.injEq];exact he
    ·cases he
   ·cases he
  ·cases he
 case copy sz x y=>
  simp only [eff] at he ⊢
  rw [jC (x:=ρ y) (hl.sub fun m hm=>List.mem_append_right _ hm)]
  cases hone:cE (ρ x) with
  | none=>rw [hone] at he;simp only [Option.bind_none] at he;split at he <;> simp_all
  | some c=>
   rw [hone] at he
   have hc:=hx hone fun m hm=>List.mem_append_left _ hm
   have hp:vH T' c=vH T c:=by
    cases c <;> try rfl
    case ref n=>simp only [vH,hc n (by simp [fI])]
   simp only [Option.bind_some,hp] at he ⊢
   split at he
   ·rename_i rows2 n lo hi h1 h2
    have hn:aj T' n=aj T n:=by
     refine hc n ?_
     cases c with
     | ref k=>
      simp only [vH] at h2
      split at h2
      ·simp only [Option.some.injEq,Prod.mk.injEq] at h2;obtain⟨rfl,_,_⟩:=h2;simp [fI]
      ·cases h2
     | sub k a b=>simp only [vH,Option.some.injEq,Prod.mk.injEq] at h2;obtain⟨rfl,_,_⟩:=h2;simp [fI]
     | _=>simp [vH] at h2
    rw [hn]
    exact he
   ·cases he
 case view sz x lo hi=>
  simp only [eff] at he ⊢
  split at he <;> rename_i h1
  ·rename_i n
   rw [(hx h1 fun m hm=>hm) _ (by simp [fI])]
   exact he
  ·cases he
 case call f as=>
  simp only [eff] at he ⊢
  obtain⟨h1,h2⟩:=jE as (T:=T) (T':=T') (ρ:=ρ) hl
  rw [h1,h2]
  split at he
  ·split at he
   ·exact J0 as hl (h.sub fun m hm=>hm) he
   unfold An at he ⊢
   split at he
   ·split at he
    ·split at he
     ·exact he
     ·split at he
      ·split at he
       ·rename_i hf
        simp only [Option.some.injEq,Prod.mk.injEq] at he
        have:=h.none_new (n:=dst) (by rw [<- he.2];exact List.mem_singleton.2 rfl)
        rw [this,if_pos hf]
        simp only [Option.some.injEq,Prod.mk.injEq];exact he
       ·cases he
      ·cases he
    ·split at he
     ·split at he
      ·rename_i hf
       simp only [Option.some.injEq,Prod.mk.injEq] at he
       have:=h.none_new (n:=dst) (by rw [<- he.2];exact List.mem_singleton.2 rfl)
       rw [this,if_pos hf]
       simp only [Option.some.injEq,Prod.mk.injEq];exact he
      ·cases he
     ·cases he
   ·cases he
  split at he
  ·split at he
   ·split at he
    ·exact j7 h he
    ·cases he
   ·cases he
  ·rw [lw as _ _ (T:=T) (T':=T') (ρ:=ρ) hl]
   split at he
   ·rename_i ds ns is ms hds
    split at he
    ·split at he
     ·refine od (h.sub fun m hm=>?_) he
      rcases List.mem_append.1 hm with hm | hm
      ·exact List.mem_append_left _ (mS as _ _ hds m hm)
      ·exact List.mem_append_right _ hm
     ·cases he
    ·cases he
   ·cases he
 case calld x as=>
  simp only [eff] at he ⊢
  obtain⟨h1,h2⟩:=jE as (T:=T) (T':=T') (ρ:=ρ) (hl.sub fun m hm=>by simp only [kg];exact List.mem_append_right _ hm)
  rw [h1,h2]
  split at he
  ·rename_i c ds hc hds
   obtain⟨h3,h4⟩:=jr (T:=T) (T':=T') 4 c (hl.sub fun m hm=>by simp only [kg,hc];exact List.mem_append_left _ hm)
   rw [h3,h4]
   split at he
   ·split at he
    ·refine j7 ?_ he
     simp only [kg,hc] at h
     exact h
    ·cases he
   ·cases he
  ·cases he
 case ifc t x=>
  simp only [eff] at he ⊢
  cases hv:ρ x with
  | tup l=>rw [hv] at he;cases he
  | val b xs=>
   rw [hv] at he
   simp only at he ⊢
   rw [gw xs (hl.sub fun m hm=>by simp only [kg,hv];exact hm)]
   exact he
 case inv m x as=>
  simp only [eff] at he ⊢
  obtain⟨h1,h2⟩:=jE as (T:=T) (T':=T') (ρ:=ρ) hl
  rw [h1,h2]
  split at he
  ·split at he
   ·split at he
    ·exact j7 h he
    ·cases he
   ·cases he
  ·cases he
 all_goals exact he
end Go.AM

namespace Go.AM
open Go.RowKit
def va:AOp->Bool
 | .pure o=>match o.op with
  | .select _ _=>false
  | _=>true
 | _=>true
theorem aaV {ao:AOp}(h:va ao=true):agW ao:=by
 cases ao <;> try trivial
 case pure o=>
  intro cs b hc
  simp [va,hc] at h
def tY (ops:Array Oper):Option (Nat × Bool)->Option (Option (Nat × Bool))
 | none=>some none
 | some (j,want)=>((ops[j]?).bind (·.dst)).map fun t=>some (t,want)
def CK (nt:Nat):Option Nat->Bool
 | none=>true
 | some d=>decide (d < nt)
def YW (o : Oper) : Oper := { dst := none, op := o.op, type := o.type, pos := "", after := #[], guard := none }
theorem VW {P:Program}{E:Env}{T:Tab}{ρ:Operand->AV}{dst:Nat}{o:Oper}:eff P E T ρ dst (.pure (YW o))=eff P E T ρ dst (.pure o):=rfl
def LN (mvs:List Nat)(dst:Option Nat):AOp->AOp
 | .slice s b x lo hi=>match dst with
  | some d=>if mvs.any fun m=>m == d then .slice s true x lo hi else if mvs.any fun m=>m == d+100000 then .view s x lo hi else .slice s b x lo hi
  | none=>.slice s b x lo hi
 | .pure o=>.pure (YW o)
 | op=>op
def nJ (P:Program)(mvs:List Nat)(nt:Nat)(ops:Array Oper)(o:Oper):Option bz:=
 match tY ops o.guard with
 | some gd=>
  let op:=LN mvs o.dst ((cI P o).getD .bad)
  if CK nt o.dst && va op then some ⟨o.dst,op,gd⟩ else none
 | none=>none
def Ay (P:Program)(o:Oper)(ao:AOp):Prop:=
 ao=.bad\/cI P o=some ao\/(∃ s b x lo hi,cI P o=some (.slice s b x lo hi)/\(ao=.slice s true x lo hi\/ao=.view s x lo hi))\/∃ o',cI P o=some (.pure o')/\ao=.pure (YW o')
def gX (tmps:List (Nat × AV)):Option (Nat × Bool)->Option Bool
 | none=>some true
 | some (t,b)=>match aj tmps t with
  | some (.val false [.d (.v (.bool x))])=>some (if b then x else !x)
  | some (.val false [.und])=>some false
  | _=>none
def ZU (tmps:List (Nat × AV))(dst:Option Nat)(y:AV):List (Nat × AV):=
 match dst with
 | some d=>(d,y)::tmps
 | none=>tmps
def lE (P:Program)(E:Env)(ao:bz)(σ:St):Option (AV × List (Nat × aD)):=
 match gX σ.tmps ao.guard with
 | some true=>eff P E σ.tab (evO σ.tmps) (ao.dst.getD 9999) ao.op
 | some false=>some (.val false [.und],[])
 | none=>none
def eI (σ:St)(dst:Option Nat)(y:AV)(es:List (Nat × aD)):St:=⟨ZU σ.tmps dst y,aputs σ.tab es,σ.sv⟩
def tP (P:Program)(E:Env)(ao:bz)(σ:St):Option St:=
 match lE P E ao σ with
 | some (y,es)=>some (eI σ ao.dst y es)
 | none=>none
def ib (g:Gh)(T:Tab):Nat->Prop:=fun b=>∃ n,live T n/\g.blk n=some b
section
variable {P:Program}{w0:fi P}{N0:Nat->Prop}{g g':Gh}{T T':Tab}{w w':World}
def Mem.base (hM:Mem w0 N0 g T w):fi P:=⟨w,ib g T,hM.laid,fun _ hb ⟨_,h1,h2⟩=>hM.gblk h1 h2 hb⟩
theorem Mem.rebase (hM:Mem w0 N0 g T w):Mem hM.base N0 g T w:=
 ⟨.refl,hM.ents,hM.inj,fun n b h1 h2=>⟨.inr ⟨n,h1,h2⟩,(hM.rng n b h1 h2).2⟩,fun b hb=>⟨Nat.lt_of_lt_of_le (hM.n0 b hb).1 hM.below.size,fun ⟨n,h1,h2⟩=>by
  have h3:=hM.n0 b hb
  exact (hM.rng n b h1 h2).1.elim (fun h=>by omega) h3.2.1,(hM.n0 b hb).2.2⟩⟩
theorem Mem.unbase (hM:Mem w0 N0 g T w)(h:Mem hM.base N0 g' T' w'):Mem w0 N0 g' T' w':=
 ⟨hM.below.trans ⟨h.below.os,h.below.tape,h.below.output,h.below.size,fun k hk ho=>h.below.block k (Nat.lt_of_lt_of_le hk hM.below.size) fun ⟨n,h1,h2⟩=>
   (hM.rng n k h1 h2).1.elim (fun h=>by omega) ho⟩,
  h.ents,h.inj,fun n b h1 h2=>⟨(h.rng n b h1 h2).1.elim (fun hh=>.inl (Nat.le_trans hM.below.size hh)) fun ⟨m,h3,h4⟩=>(hM.rng m b h3 h4).1,(h.rng n b h1 h2).2⟩,hM.n0⟩
theorem Mem.not_owned (hM:Mem w0 N0 g T w){b:Nat}{o:Obj}(hb:w.heap[b]?=some o)(ho:o.isCells=false):¬ ib g T b:=by
 rintro ⟨n,h1,h2⟩
 unfold live at h1
 cases he:aj T n with
 | none=>rw [he] at h1;exact h1
 | some e=>
  rw [he] at h1
  have h0:=hM.ents n e he
  cases e with
  | box cs=>
   obtain⟨b',cells,t,k1,k2,_⟩:=h0
   rw [h2] at k1
   simp only [Option.some.injEq] at k1
   subst k1
   rw [hb] at k2
   simp only [Option.some.injEq] at k2
   subst k2
   simp [Obj.isCells] at ho
  | own sz rows=>
   rcases h0.1 with ⟨_,_,k⟩ | ⟨b',off,cap,cells,t,fz,k1,_,k2,_⟩
   ·rw [h2] at k;cases k
   ·rw [h2] at k1
    simp only [Option.some.injEq] at k1
    subst k1
    rw [hb] at k2
    simp only [Option.some.injEq] at k2
    subst k2
    simp [Obj.isCells] at ho
  | imm rows=>exact h1
  | dead=>exact h1
theorem Mem.others (hM:Mem w0 N0 g T w)(h:Mem hM.base N0 g' T' w'){b:Nat}{o:Obj}(hb:w.heap[b]?=some o)(ho:o.isCells=false):w'.heap[b]?=some o:=by
 have hlt:b < w.heap.size:=(Array.getElem?_eq_some_iff.1 hb).1
 exact (h.below.block b hlt (hM.not_owned hb ho)).trans hb
theorem aH.cells {N N':Nat->Prop}(hs:w.heap.size<=w'.heap.size)(hh:∀ (b o:Nat) (c:Value),w.cell? ⟨b,o,none⟩=some c->w'.cell? ⟨b,o,none⟩=some c)
  (hn:∀ b,b < w.heap.size->N' b->N b) {d:DC} {v:Value} (h:aH w N d v):aH w' N' d v:=by
 induction h with
 | v h=>exact .v h
 | nan h=>exact .nan h
 | cx h1 h2=>exact .cx h1 h2
 | pt=>exact .pt
 | nil=>exact .nil
 | csl _ ih=>exact .csl ih
 | @sl rows b off cap sz f hne hN hb hsz hl hcap hc hd ih=>
  exact .sl f hne (fun h=>hN (hn _ hb h)) (Nat.lt_of_lt_of_le hb hs) hsz hl hcap (fun i j hi hj=>hh _ _ _ (hc i j hi hj)) ih
 | fn hl hd ih=>exact .fn hl ih
 | cref f hN hb hc hd ih=>exact .cref f (fun h=>hN (hn _ hb h)) (Nat.lt_of_lt_of_le hb hs) (fun j hj=>hh _ _ _ (hc j hj)) ih
 | ifc xs hx hl hd ih=>exact .ifc xs hx hl ih
theorem Mem.putObj (hM:Mem w0 N0 g T w){l:Nat}{o o':Obj}(hl:w.heap[l]?=some o)(ho:o.isCells=false)(hown:w0.w.heap.size<=l\/w0.own l):Mem w0 N0 g T (w.putObj l o')/\aT N0 g T w g T (w.putObj l o'):=by
 have hcell:∀ (b o:Nat) (c:Value),w.cell? ⟨b,o,none⟩=some c->(w.putObj l o').cell? ⟨b,o,none⟩=some c:=by
  intro b k c hc
  by_cases hb:b=l
  ·subst hb
   simp only [World.cell?,hl] at hc
   cases o <;> simp_all [Obj.isCells]
  ·simpa [World.cell?,World.putObj_heap_other hb] using hc
 have hK:aT N0 g T w g T (w.putObj l o'):=⟨fun d v h=>h.cells (by simp) hcell (fun _ _ h=>h),fun _ h=>h,fun _ _=>⟨rfl,rfl,rfl⟩⟩
 have hno:=hM.not_owned hl ho
 refine⟨hM.upd ⟨rfl,rfl,rfl,by simp,fun k hk hk'=>World.putObj_heap_other fun e=>?_⟩ hK (fun m e he=>.inl ⟨he,fun b hlv hb=>World.putObj_heap_other fun e=>hno ⟨m,hlv,e ▸ hb⟩⟩) hM.inj (fun n b h1 h2=>by simpa using hM.rng n b h1 h2),hK⟩
 subst e
 rcases hown with h | h
 ·omega
 ·exact hk' h
theorem Mem.grow (hM:Mem w0 N0 g T w)(h:Below w.heap.size w w'):Mem w0 N0 g T w'/\aT N0 g T w g T w':=by
 have hK:aT N0 g T w g T w':=aT.of h.size (fun b hb _=>h.block b hb) (fun _ _ h=>h) (fun _ h=>h) fun _ _=>⟨rfl,rfl,rfl⟩
 exact⟨hM.upd (.of h hM.below.size) hK (fun m e he=>.inl ⟨he,fun b hlv hb=>h.block b (hM.rng m b hlv hb).2⟩) hM.inj (fun n b h1 h2=>⟨(hM.rng n b h1 h2).1,Nat.lt_of_lt_of_le (hM.rng n b h1 h2).2 h.size⟩),hK⟩
end
def pQ {P:Program}(w0:fi P)(svv:Array Value)(l:List Deferred)(w:World):Prop:=
 l.Nodup/\(0 < svv.size->l=[])/\∀ d ∈ l,∃ D,d={ target:=.collected D,args:=#[] }/\w0.w.heap.size<=D/\w.heap[D]?=some (.deferred (some []))
def Rel {P:Program}(w0:fi P)(N0:Nat->Prop)(nt:Nat)(svv:Array Value)(σ:St)(a:Act)(w:World):Prop:=
 ∃ g,Mem w0 N0 g σ.tab w/\di w (am N0 g σ.tab) g σ.tab σ.tmps a.tmps/\a.tmps.size=nt/\pQ w0 svv a.defers w/\di w (am N0 g σ.tab) g σ.tab σ.sv svv
variable {P:Program}{E:Env}{w0:fi P}{w w':World}{N0:Nat->Prop}{g g':Gh}{T T':Tab}{r:Option Nat}{n nt:Nat}{mvs:List Nat}{svv:Array Value}{o:Oper}{a:Act}{σ σ':St}{ops:Array Oper}
 {ao:bz} {y:AV} {es:List (Nat × aD)}
theorem pQ.mono {l:List Deferred}(h:pQ w0 svv l w)(hk:∀ (b:Nat) (o:Obj),w.heap[b]?=some o->o.isCells=false->w'.heap[b]?=some o):pQ w0 svv l w':=
 ⟨h.1,h.2.1,fun d hd=>by obtain⟨D,h1,h2,h3⟩:=h.2.2 d hd;exact⟨D,h1,h2,hk _ _ h3 rfl⟩⟩
theorem di.put {tmps:List (Nat × AV)}{vals:Array Value}{N:Nat->Prop}(h:di w N g T tmps vals){d:Nat}{y:AV}{v:Value}(hd:d < vals.size)(hv:aJ w N g T y v) :
  di w N g T ((d,y)::tmps) (vals.setIfInBounds d v):=by
 intro t x hx
 simp only [aj] at hx
 split at hx
 ·rename_i ht
  simp only [Option.some.injEq] at hx
  subst hx;subst ht
  simpa [Array.getD,hd] using hv
 ·rename_i ht
  have:=h t x hx
  rw [Array.getD_eq_getD_getElem?,Array.getElem?_setIfInBounds_ne ht,<- Array.getD_eq_getD_getElem?]
  exact this
theorem Rel.put (hM:Mem w0 N0 g T w)(hs:di w (am N0 g T) g T σ.tmps a.tmps)(hsz:a.tmps.size=nt)(hds:pQ w0 svv a.defers w){dst:Option Nat}(hd:CK nt dst=true){y:AV}{v:Value}
  (hv:aJ w (am N0 g T) g T y v) (hs2:di w (am N0 g T) g T σ.sv svv):Rel w0 N0 nt svv ⟨ZU σ.tmps dst y,T,σ.sv⟩ (a.put dst v) w:=by
 cases dst with
 | none=>exact⟨g,hM,hs,hsz,hds,hs2⟩
 | some d=>
  simp only [CK,decide_eq_true_eq] at hd
  exact⟨g,hM,hs.put (by omega) hv,by simpa [Act.put] using hsz,hds,hs2⟩
theorem AA {mvs:List Nat}{dst:Option Nat}{o:Oper}:Ay P o (LN mvs dst ((cI P o).getD .bad)):=by
 cases hc:cI P o with
 | none=>exact .inl rfl
 | some op=>
  simp only [Option.getD_some]
  unfold LN
  split
  ·split
   ·split
    ·exact .inr (.inr (.inl ⟨_,_,_,_,_,hc,.inl rfl⟩))
    ·split
     ·exact .inr (.inr (.inl ⟨_,_,_,_,_,hc,.inr rfl⟩))
     ·exact .inr (.inl hc)
   ·exact .inr (.inl hc)
  ·exact .inr (.inr (.inr ⟨_,hc,rfl⟩))
  ·exact .inr (.inl hc)
theorem pT (h:nJ P mvs nt ops o=some ao):Ay P o ao.op/\tY ops o.guard=some ao.guard/\CK nt o.dst=true/\ao.dst=o.dst/\va ao.op=true:=by
 unfold nJ at h
 split at h
 ·rename_i gd h2
  simp only [] at h
  split at h
  ·rename_i h3
   simp only [Bool.and_eq_true] at h3
   simp only [Option.some.injEq] at h
   subst h
   exact⟨AA,h2,h3.1,rfl,h3.2⟩
  ·cases h
 ·cases h
theorem pU {s:Nat}{b:Bool}{x:Operand}{lo hi:Option Operand}(h:cI P o=some (.slice s b x lo hi)) :
  ∃ t e,o.op=.slice t x lo hi none/\P.underlying t=some (.slice e)/\bH P e=some s:=by
 cases ho:o.op
 case slice t y l u mx=>
  cases mx with
  | some m=>simp [cI,ho] at h
  | none=>
   simp only [cI,ho] at h
   split at h
   ·rename_i e hu
    simp only [Option.map_eq_some_iff,AOp.slice.injEq] at h
    obtain⟨s',h1,rfl,_,rfl,rfl,rfl⟩:=h
    exact⟨t,e,rfl,hu,h1⟩
   ·simp at h
   ·split at h
    ·simp at h
    ·cases h
   ·cases h
 case call c=>
  exfalso
  simp only [cI,ho] at h
  unfold jH at h
  repeat' split at h
  all_goals simp at h
 all_goals (exfalso;simp only [cI,ho] at h)
 case makeFunc fn first caps=>cases fn <;> simp at h <;> split at h <;> simp at h
 case build t ps=>
  repeat' split at h
  all_goals (try (simp at h;done))
  all_goals (simp only [Option.map_eq_some_iff,Option.bind_eq_some_iff] at h;obtain⟨_,_,_,_,h⟩:=h;cases h)
 all_goals (repeat' split at h)
 all_goals (try (simp at h;done))
 all_goals (try (simp only [Option.map_eq_some_iff] at h;obtain⟨_,_,h⟩:=h;cases h))
theorem adK {ρ:Operand->AV}{dst:Nat}(hE:eZ P E)(hM:Mem w0 N0 g T w)(hρ:∀ x,aJ w (am N0 g T) g T (ρ x) (a.eval x)){aop:AOp}(hc:Ay P o aop)
  (he:eff P E T ρ dst aop=some (y,es)):aQ r n P o a w (Res w0 N0 g T w y es):=by
 rcases hc with rfl | hc | ⟨s,b,x,lo,hi,hc,rfl | rfl⟩ | ⟨o',hc,rfl⟩
 ·cases he
 ·exact XS hE hM hρ hc he
 ·obtain⟨t,e,h1,h2,h3⟩:=pU hc
  exact Hs hM hρ h1 h2 h3 he
 ·obtain⟨t,e,h1,h2,h3⟩:=pU hc
  exact adL hM hρ h1 h2 h3 he
 ·exact XS hE hM hρ hc (by rw [<- VW];exact he)
theorem CB {tmps:List (Nat × AV)}(hs:di w (am N0 g T) g T tmps a.tmps)(hsz:a.tmps.size=nt)(hnt:∀ d,((∃ j:Nat,((ops[j]?).bind (·.dst))=some d)->d < nt)){og:Option (Nat × Bool)}{gd:Option (Nat × Bool)}
  (hg:tY ops og=some gd) {b:Bool} (hw:gX tmps gd=some b) {o:Oper} (ho:o.guard=og):Region.wanted o (yielded ops a.tmps)=b:=by
 unfold Region.wanted
 rw [ho]
 cases og with
 | none=>
  simp only [tY,Option.some.injEq] at hg
  subst hg
  simp only [gX,Option.some.injEq] at hw
  exact hw
 | some p=>
  obtain⟨j,want⟩:=p
  simp only [tY,Option.map_eq_some_iff] at hg
  obtain⟨t,ht,rfl⟩:=hg
  have htn:=hnt t ⟨j,ht⟩
  have hget:a.tmps[t]?=some (a.tmps.getD t undef):=by simp [Array.getD,hsz,htn]
  simp only [yielded,ht,Option.bind_some,hget]
  simp only [gX] at hw
  split at hw
  ·rename_i x hx
   simp only [Option.some.injEq] at hw
   obtain⟨c,h1,h2⟩:=hs t _ hx
   simp only [List.cons.injEq,and_true] at h1
   subst h1
   rw [(D4 h2).1,<- hw]
   cases x <;> cases want <;> simp
  ·rename_i hx
   simp only [Option.some.injEq] at hw
   obtain⟨c,h1,h2⟩:=hs t _ hx
   simp only [List.cons.injEq,and_true] at h1
   subst h1
   rw [show a.tmps.getD t undef=undef from h2,<- hw]
   simp [undef]
  ·cases hw
def p9 (nt:Nat)(ops:Array Oper):Bool:=ops.toList.all fun o=>CK nt o.dst
theorem wk (h:p9 nt ops=true):∀ d,((∃ j:Nat,((ops[j]?).bind (·.dst))=some d)->d < nt):=by
 rintro d ⟨j,hj⟩
 cases ho:ops[j]? with
 | none=>simp [ho] at hj
 | some o=>
  simp only [ho,Option.bind_some] at hj
  have:=List.all_eq_true.1 h o (by obtain⟨h1,h2⟩:=Array.getElem?_eq_some_iff.1 ho;rw [<- h2];simp)
  rw [hj] at this
  simpa [CK] using this
theorem Gp (hE:eZ P E)(hc:nJ P mvs nt ops o=some ao)(hds:p9 nt ops=true){i:Nat}(hi:ops[i]?=some o)(hR:Rel w0 N0 nt svv σ a w)(hs:tP P E ao σ=some σ')
  {K:Act->World->Prop} {Q:Exit->Act->World->Prop} (hK:∀ a' w',Rel w0 N0 nt svv σ' a' w'->K a' w'):wpOpIn (Fw r) n P ops Q i K a w:=by
 obtain⟨g,hM,hS,hsz,hdf,hS2⟩:=hR
 obtain⟨h1,h2,h3,h4,h5⟩:=pT hc
 unfold tP at hs
 split at hs
 ·rename_i y es hout
  simp only [Option.some.injEq] at hs
  subst hs
  unfold lE at hout
  split at hout
  ·rename_i hw
   have hwant:=CB hS hsz (wk hds) h2 hw rfl
   have hok:=adK (r:=r) (n:=n) hE hM.rebase (fun x=>iJ hS x) h1 hout
   unfold wpOpIn
   simp only [hi]
   rw [if_pos hwant]
   refine hok K Q ?_
   rintro v w' ⟨g',hM',hKp,hv⟩
   refine hK _ _ ?_
   unfold eI
   rw [h4]
   refine Rel.put (σ:=σ) (w0:=w0) (N0:=N0) (g:=g') (T:=aputs σ.tab es) (hM.unbase hM') (fun t x hx=>hKp.a (hS t x hx)) hsz (pQ.mono hdf fun b o=>hM.others hM') h3 hv (fun t x hx=>hKp.a (hS2 t x hx))
  ·rename_i hw
   simp only [Option.some.injEq,Prod.mk.injEq] at hout
   obtain⟨rfl,rfl⟩:=hout
   have hwant:=CB hS hsz (wk hds) h2 hw rfl
   unfold wpOpIn
   simp only [hi]
   rw [if_neg (by rw [hwant];simp)]
   refine⟨fun _ _=>trivial,hK _ _ ?_⟩
   unfold eI
   rw [h4]
   exact Rel.put (σ:=σ) (w0:=w0) (N0:=N0) (g:=g) (T:=aputs σ.tab []) hM hS hsz hdf h3 ⟨_,rfl,rfl⟩ hS2
  ·cases hout
 ·cases hs
def pY (P:Program)(E:Env):List bz->St->Option St
 | [],σ=>some σ
 | ao::l,σ=>match tP P E ao σ with
  | some σ'=>pY P E l σ'
  | none=>none
def dz (P:Program)(mvs:List Nat)(nt:Nat)(ops:Array Oper):List Oper->Option (List bz)
 | []=>some []
 | o::l=>match nJ P mvs nt ops o,dz P mvs nt ops l with
  | some ao,some as=>some (ao::as)
  | _,_=>none
theorem Mi (hE:eZ P E)(hds:p9 nt ops=true){Q:Exit->Act->World->Prop}:∀ (l:List Oper) (as:List bz) (k:Nat) (σ:St) (a:Act) (w:World),dz P mvs nt ops l=some as->(∀ j,l[j]?=ops[k+j]?) ->
  Rel w0 N0 nt svv σ a w->pY P E as σ=some σ'->(∀ a' w',Rel w0 N0 nt svv σ' a' w'->Q .normal a' w')->wpOpsIn (Fw r) n P ops Q (List.range' k l.length) a w
 | [],as,k,σ,a,w,hc,hl,hR,hs,hQ=>by
  simp only [dz,Option.some.injEq] at hc
  subst hc
  simp only [pY,Option.some.injEq] at hs
  subst hs
  exact hQ a w hR
 | o::l,as,k,σ,a,w,hc,hl,hR,hs,hQ=>by
  simp only [dz] at hc
  split at hc
  ·rename_i ao as' h1 h2
   simp only [Option.some.injEq] at hc
   subst hc
   simp only [pY] at hs
   split at hs
   ·rename_i σ1 h3
    have h0:ops[k]?=some o:=by simpa using (hl 0).symm
    rw [List.length_cons,List.range'_succ,wpOpsIn_cons]
    exact Gp hE h1 hds h0 hR h3 fun a' w' hR'=>Mi hE hds l as' (k+1) σ1 a' w' h2 (fun j=>by have:=hl (j+1);simpa [Nat.add_assoc,Nat.add_comm 1 j] using this) hR' hs hQ
   ·cases hs
  ·cases hc
theorem Ri (hE:eZ P E)(hds:p9 nt ops=true){as:List bz}(hc:dz P mvs nt ops ops.toList=some as){id:Nat}{Q:Exit->Act->World->Prop}(hR:Rel w0 N0 nt svv σ a w)(hs:pY P E as σ=some σ')
  (hQ:∀ a' w',Rel w0 N0 nt svv σ' a' w'->Q .normal a' w'):(Code.region id ops false).wpIn (Fw r) n P Q a w:=
 wpIn_region (by
  have:=Mi (r:=r) (n:=n) hE hds ops.toList as 0 σ a w hc (by simp) hR hs hQ
  rw [List.range_eq_range']
  simpa using this)
end Go.AM
