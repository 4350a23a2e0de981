/- Texts of one kind, put together. -/
import Derived.Test.YtnhkllkecbmchaaGreatDoorKMa
import Derived.Lib.AtoiAll
import Derived.Lib.ItoaNum
import Derived.Lib.SplitLaws
import Derived.Lib.Strings
import Derived.Lib.LaidTab
import Derived.Lib.AppendIntMem
import Derived.Lib.ConvBytes
import Derived.Lib.Join
import Derived.Lib.Bytealg
namespace Go.AM
open Go.RowKit PT Go.Sort
variable {P:Program}{f nt:Nat}
theorem dv_plain {w:World}{N:Nat->Prop}{x v:Value}(h:DVRel w N (false,[.v x]) v):v=x/\plain x=true:=by
 obtain⟨d,h1,h2⟩:=h
 simp only [List.cons.injEq,and_true] at h1
 subst h1
 cases h2 with
 | v h=>exact⟨rfl,h⟩
def dvs (l:List Value):List DV:=l.map fun x=>(false,[.v x])
theorem args_plain {w:World}{N:Nat->Prop}:∀ {l vs:List Value} {bs:List Nat} {is:List (Option Nat)},ArgsM w N (dvs l) vs bs is->vs=l/\bs=[]/\is=[]
 | [],[],_,_,h=>⟨rfl,h.1,h.2⟩
 | [],_::_,_,_,h=>h.elim
 | _::_,[],_,_,h=>h.elim
 | x::l,v::vs,bs,is,h=>by
  obtain⟨h1,h2⟩:=h
  obtain⟨rfl,_⟩:=dv_plain h1
  obtain⟨rfl,h3⟩:=args_plain h2
  exact⟨rfl,h3⟩
theorem lb_contract {l:List Value}{res:List RV}
  (h:∀ (w:World) (N:Nat->Prop),(∀ b,N b->b < w.heap.size)->Laid P w->(∀ b,gbP P b->¬ N b)->Calls P f l.toArray w fun e w'=>∃ v,e=.returned v/\Below w.heap.size w w'/\ResRel w N res v w') :
  Contract P f (dvs l) res:=by
 intro w vs N bs is hN hnd ha hl hg
 obtain⟨h1,rfl,rfl⟩:=args_plain ha
 have e:vs=l.toArray:=by rw [<- h1]
 subst e
 refine (h w N hN hl fun b hb=>(hg b hb).1).mono ?_
 rintro e w' ⟨v,rfl,hb,vs,ob,e1,e2,e3,e4,e5⟩
 refine⟨v,[],rfl,⟨hb.os,hb.tape,hb.output,hb.size,fun k hk _=>hb.block k hk⟩,rfl,vs,ob,e1,by simpa using e2,fun i x u hx hu=>?_,fun i j b h=>⟨.inl (e4 i j b h).1,(e4 i j b h).2⟩,e5⟩
 have:=e3 i x u hx (by simpa using hu)
 have hp:(fun b=>(N b/\some b ∉ ([]:List (Option Nat)))\/∃ i j,ob i j=some b)=fun b=>N b\/∃ i j,ob i j=some b:=by
  funext b;simp
 rwa [hp]
theorem res_one {w w':World}{N:Nat->Prop}{v:Value}(h:plain v=true):ResRel w N [(false,[.d (.v v)])] v w':=
 ⟨#[v],fun _ _=>none,rfl,rfl,fun i x u hx hu=>by
  match i with
  | 0=>
   simp at hx hu;subst hx;subst hu
   exact⟨_,rfl,.v h⟩
  | i+1=>simp at hx,by simp,by simp⟩
theorem res_two {w w':World}{N:Nat->Prop}{v u:Value}{x y:DC}(h:∀ N',(∀ b,N' b->N b)->DRel w' N' x v)(h2:∀ N',(∀ b,N' b->N b)->DRel w' N' y u) :
  ResRel w N [(false,[.d x]),(false,[.d y])] (.tuple #[v,u]) w':=
 ⟨#[v,u],fun _ _=>none,rfl,rfl,fun i r q hx hu=>by
  match i with
  | 0=>
   simp at hx hu;subst hx;subst hu
   exact⟨_,rfl,h _ (by simp)⟩
  | 1=>
   simp at hx hu;subst hx;subst hu
   exact⟨_,rfl,h2 _ (by simp)⟩
  | i+2=>simp at hx,by simp,by simp⟩
theorem below_bytes (w:World)(e:TypeId)(s:ByteArray):Below w.heap.size w (Lib.bytesWorld w e s):=by
 refine⟨rfl,rfl,rfl,?_,fun k hk=>Lib.bytesWorld_at_old w e s k hk⟩
 rw [Lib.bytesWorld_size];exact Nat.le_succ _
theorem tab_of {w : World} (h : Laid P w) (hg : (P.globalNamed "internal/strconv.uint64pow10").isSome = true) : Lib.TabIs P w "internal/strconv.uint64pow10" .u64 Lib.pow10Tab := by
 obtain⟨b,hb⟩:=Option.isSome_iff_exists.1 hg
 obtain⟨cs,t,fz,h1,h2⟩:=h _ (by simp [layNames]) b hb
 simp only [layOk,if_true] at h2
 subst h2
 show w.var? P _=_
 simp only [World.var?,hb,Option.bind_some,h1]
 rfl
abbrev TItoa:Type 1:=(α:Type)->Int->(ByteArray->Option α)->Option α
def fItoa:TItoa:=fun _ n k=>if -9223372036854775808<=n/\n<=9223372036854775807 then k ⟨(Lib.itoa n).toArray⟩ else none
def paItoa:PT (List DV):=pA [pV false [(dI .i64)]]
def FnItoa (v:TItoa)(α:Type)(k:List RV->Option α):Int->Option α:=fun x1=>v α x1 fun y1=>k [(false,[.d (.v (.string y1))])]
def rItoa:List DV->Option (List RV)
 | [(false,[.v (.int .i64 n)])]=>if -9223372036854775808<=n/\n<=9223372036854775807 then some [(false,[.d (.v (.string ⟨(Lib.itoa n).toArray⟩))])] else none
 | _=>none
theorem inst_itoa (hb : Bodied P f) (hg : (P.globalNamed "internal/strconv.uint64pow10").isSome = true)
  (hc : ∀ (n : Int), -9223372036854775808 ≤ n → n ≤ 9223372036854775807 → ∀ w : World, Lib.TabIs P w "internal/strconv.uint64pow10" .u64 Lib.pow10Tab →
   Calls P f #[.int .i64 n] w fun e w'=>e=.returned (.string ⟨(Lib.itoa n).toArray⟩)/\∃ k os,w'=grow (w.drewN k) os):InstOk P f nt ⟨paItoa,FnItoa fItoa⟩:=by
 refine inst_of (r:=rItoa) (fun α k=>?_) fun ds res h=>⟨?_,hb⟩
 ·show FnItoa fItoa α k=fun x1=>(rItoa [(false,[.v (.int .i64 x1)])]).bind k
  funext n
  unfold FnItoa fItoa rItoa
  by_cases h:-9223372036854775808<=n/\n<=9223372036854775807 <;> simp [h]
 ·unfold rItoa at h
  split at h
  ·rename_i n
   split at h
   ·rename_i hn
    simp only [Option.some.injEq] at h
    subst h
    refine lb_contract (l:=[.int .i64 n]) fun w N hN hl hgN=>(hc n hn.1 hn.2 w (tab_of hl hg)).mono ?_
    rintro e w' ⟨rfl,k,os,rfl⟩
    exact⟨_,rfl,Lib.below_grow _ w (Nat.le_refl _) k os,res_one rfl⟩
   ·cases h
  ·cases h
abbrev TAtoi:Type 1:=(α:Type)->ByteArray->(Int->Option α)->(Int->Option α)->Option α
def fAtoi:TAtoi:=fun _ s k1 k2=>if s.size<=281474976710656 then
  match Lib.atoiAll s.data.toList with
  | .ok v=>k1 v
  | Lib.NumEnd.syntax=>k2 0
  | .range=>k2 (Lib.atoiSat s.data.toList)
 else none
def paStr:PT (List DV):=pA [pV false [dS]]
def FnAtoi (t:TypeId)(v:TAtoi)(α:Type)(k:List RV->Option α):ByteArray->Option α:=fun x1=>v α x1
 (fun y1=>k [(false,[.d (.v (.int .i64 y1))]),(false,[.d (.v .nilIface)])]) (fun y1=>k [(false,[.d (.v (.int .i64 y1))]),(false,[.d (.ifc t false [.cref [] 0])])])
def rAtoi (t:TypeId):List DV->Option (List RV)
 | [(false,[.v (.string s)])]=>if s.size<=281474976710656 then
   match Lib.atoiAll s.data.toList with
   | .ok v=>some [(false,[.d (.v (.int .i64 v))]),(false,[.d (.v .nilIface)])]
   | Lib.NumEnd.syntax=>some [(false,[.d (.v (.int .i64 0))]),(false,[.d (.ifc t false [.cref [] 0])])]
   | .range=>some [(false,[.d (.v (.int .i64 (Lib.atoiSat s.data.toList)))]),(false,[.d (.ifc t false [.cref [] 0])])]
  else none
 | _=>none
theorem err_rel {w w':World}{N:Nat->Prop}(hN:∀ b,N b->b < w.heap.size){t:TypeId}{n:Nat}{x:Obj}(hn:w.heap.size<=n)(hx:w'.heap[n]?=some x) :
  ∀ N',(∀ b,N' b->N b)->DRel w' N' (.ifc t false [.cref [] 0]) (.iface t (.pointer (some ⟨n,0,none⟩))):=fun N' h'=>by
 refine .ifc [.pointer (some ⟨n,0,none⟩)] rfl rfl fun i d c hd hc=>?_
 match i with
 | 0=>
  simp at hd hc;subst hd;subst hc
  exact DRel.cref (o:=0) (fun _=>undef) (fun h=>by have:=hN _ (h' _ h);omega) (Array.getElem?_eq_some_iff.1 hx).1 (by simp) (by simp)
 | i+1=>simp at hd
theorem cell_of_laid {w : World} (h : Laid P w) {n : String} (hn : n = "strconv.ErrSyntax" ∨ n = "strconv.ErrRange") {b : Nat} (hb : P.globalNamed n = some b) :
  ∃ ev,w.cell? ⟨b,0,none⟩=some ev/\(ev=.nilIface\/∃ te pe,ev=.iface te pe):=by
 obtain⟨cs,t,fz,h1,h2⟩:=h n (by rcases hn with rfl | rfl <;> simp [layNames]) b hb
 have h3:∃ v,cs[0]?=some v/\(v=.nilIface\/∃ t p,v=.iface t p):=by
  rcases hn with rfl | rfl <;> simpa [layOk] using h2
 obtain⟨v,h3,h4⟩:=h3
 exact⟨v,by simp [World.cell?,h1,h3],h4⟩
theorem inst_atoi {t tn tb : TypeId} {g1 g2 : Nat} (hb : Bodied P f) (hg1 : P.globalNamed "strconv.ErrSyntax" = some g1) (hg2 : P.globalNamed "strconv.ErrRange" = some g2)
  (hc:∀ (s:ByteArray),s.size<=9223372036854775806->∀ v:Int,Lib.atoiAll s.data.toList=.ok v->∀ w:World,
   Calls P f #[.string s] w fun e w'=>e=.returned (.tuple #[.int .i64 v,.nilIface])/\(w'=w\/∃ t,w'=Lib.bytesWorld w tb t))
  (hs:∀ (s:ByteArray),s.size<=281474976710656->Lib.atoiAll s.data.toList=Lib.NumEnd.syntax->∀ (ev:Value) (w:World),w.cell? ⟨g1,0,none⟩=some ev->(ev=.nilIface\/∃ te pe,ev=.iface te pe) ->
   Calls P f #[.string s] w fun e w'=>∃ N,e=.returned (.tuple #[.int .i64 (0),.iface t (.pointer (some ⟨N,0,none⟩))])/\w.heap.size<=N/\w'.heap[N]?=some (.cells #[.string ⟨#[65,116,111,105]⟩,.string s,ev] tn (0,0))/\Below w.heap.size w w')
  (hr:∀ (s:ByteArray),s.size<=281474976710656->Lib.atoiAll s.data.toList=.range->∀ (ev:Value) (w:World),w.cell? ⟨g2,0,none⟩=some ev->(ev=.nilIface\/∃ te pe,ev=.iface te pe) ->
   Calls P f #[.string s] w fun e w'=>∃ N,e=.returned (.tuple #[.int .i64 (Lib.atoiSat s.data.toList),.iface t (.pointer (some ⟨N,0,none⟩))])/\w.heap.size<=N/\w'.heap[N]?=some (.cells #[.string ⟨#[65,116,111,105]⟩,.string s,ev] tn (0,0))/\Below w.heap.size w w') :
  InstOk P f nt ⟨paStr,FnAtoi t fAtoi⟩:=by
 refine inst_of (r:=rAtoi t) (fun α k=>?_) fun ds res h=>⟨?_,hb⟩
 ·show FnAtoi t fAtoi α k=fun x1=>(rAtoi t [(false,[.v (.string x1)])]).bind k
  funext s
  unfold FnAtoi fAtoi rAtoi
  by_cases h:s.size<=281474976710656
  ·simp only [h,if_true]
   cases Lib.atoiAll s.data.toList <;> rfl
  ·simp only [h,if_false];rfl
 ·unfold rAtoi at h
  split at h
  ·rename_i s
   split at h
   ·rename_i hn
    split at h
    ·rename_i v hv
     simp only [Option.some.injEq] at h
     subst h
     refine lb_contract (l:=[.string s]) fun w N hN hl hgN=>(hc s (by omega) v hv w).mono ?_
     rintro e w' ⟨rfl,hw⟩
     refine⟨_,rfl,?_,res_two (fun _ _=>.v rfl) (fun _ _=>.v rfl)⟩
     rcases hw with rfl | ⟨t,rfl⟩
     ·exact Below.refl _ _
     ·exact below_bytes _ _ _
    ·rename_i hv
     simp only [Option.some.injEq] at h
     subst h
     refine lb_contract (l:=[.string s]) fun w N hN hl hgN=>?_
     obtain⟨ev,h1,h2⟩:=cell_of_laid hl (.inl rfl) hg1
     refine (hs s hn hv ev w h1 h2).mono ?_
     rintro e w' ⟨M,rfl,h3,h4,h5⟩
     exact⟨_,rfl,h5,res_two (fun _ _=>.v rfl) (err_rel hN h3 h4)⟩
    ·rename_i hv
     simp only [Option.some.injEq] at h
     subst h
     refine lb_contract (l:=[.string s]) fun w N hN hl hgN=>?_
     obtain⟨ev,h1,h2⟩:=cell_of_laid hl (.inr rfl) hg2
     refine (hr s hn hv ev w h1 h2).mono ?_
     rintro e w' ⟨M,rfl,h3,h4,h5⟩
     exact⟨_,rfl,h5,res_two (fun _ _=>.v rfl) (err_rel hN h3 h4)⟩
   ·cases h
  ·cases h
abbrev TTrim:Type 1:=(α:Type)->ByteArray->ByteArray->(ByteArray->Option α)->Option α
def fTrim:TTrim:=fun _ s p k=>k ⟨(Lib.trimPrefix s.data.toList p.data.toList).toArray⟩
def paStr2:PT (List DV):=pA [pV false [dS],pV false [dS]]
def FnTrim (v:TTrim)(α:Type)(k:List RV->Option α):ByteArray->ByteArray->Option α:=fun x1 x2=>v α x1 x2 fun y1=>k [(false,[.d (.v (.string y1))])]
def rTrim:List DV->Option (List RV)
 | [(false,[.v (.string s)]),(false,[.v (.string p)])]=>some [(false,[.d (.v (.string ⟨(Lib.trimPrefix s.data.toList p.data.toList).toArray⟩))])]
 | _=>none
theorem inst_trim (hb:Bodied P f)
  (hc:∀ (s p:ByteArray) (w:World),Calls P f #[.string s,.string p] w fun e w'=>e=.returned (.string ⟨(Lib.trimPrefix s.data.toList p.data.toList).toArray⟩)/\w'=w):InstOk P f nt ⟨paStr2,FnTrim fTrim⟩:=by
 refine inst_of (r:=rTrim) (fun α k=>?_) fun ds res h=>⟨?_,hb⟩
 ·show FnTrim fTrim α k=fun x1 x2=>(rTrim [(false,[.v (.string x1)]),(false,[.v (.string x2)])]).bind k
  rfl
 ·unfold rTrim at h
  split at h
  ·rename_i s p
   simp only [Option.some.injEq] at h
   subst h
   refine lb_contract (l:=[.string s,.string p]) fun w N hN hl hgN=>(hc s p w).mono ?_
   rintro e w' ⟨rfl,rfl⟩
   exact⟨_,rfl,Below.refl _ _,res_one rfl⟩
  ·cases h
def strRows (l:List ByteArray):List (List DC):=l.map fun x=>[.v (.string x)]
abbrev TSplit:Type 1:=(α:Type)->ByteArray->ByteArray->(List (List DC)->Option α)->Option α
def fSplit:TSplit:=fun _ s p k=>if s.size < 4294967281/\1<=p.size then k (strRows (Lib.splitB p 0 (Lib.countB s p) s)) else none
def FnSplit (v:TSplit)(α:Type)(k:List RV->Option α):ByteArray->ByteArray->Option α:=fun x1 x2=>v α x1 x2 fun y1=>k [(false,[.own 1 y1])]
def rSplit:List DV->Option (List RV)
 | [(false,[.v (.string s)]),(false,[.v (.string p)])]=>if s.size < 4294967281/\1<=p.size then some [(false,[.own 1 (strRows (Lib.splitB p 0 (Lib.countB s p) s))])] else none
 | _=>none
theorem alloc_heap (w:World)(o:Obj):(w.alloc o).heap=w.heap.push o:=rfl
def obS (n:Nat):Nat->Nat->Option Nat:=fun i j=>if i=0 then (if j=0 then some n else none) else none
theorem obS_some {n i j b:Nat}(h:obS n i j=some b):i=0/\j=0/\n=b:=by
 unfold obS at h
 split at h
 ·split at h
  ·simp only [Option.some.injEq] at h;exact⟨by assumption,by assumption,h⟩
  ·cases h
 ·cases h
theorem inst_split {g t9 : Nat} (hb : Bodied P f) (hg : P.globalNamed "internal/bytealg.MaxLen" = some g)
  (hc:∀ (s p:ByteArray) (m:Int) (w:World),s.size < 4294967281->w.cell? ⟨g,0,none⟩=some (.int .i64 m)->1<=p.size ->
   Calls P f #[.string s,.string p] w fun e w'=>e=.returned (.slice (some ⟨w.heap.size,0,none⟩) (Lib.countB s p+1) (Lib.countB s p+1))/\w'=w.alloc (.cells ((Lib.splitB p 0 (Lib.countB s p) s).map Value.string).toArray t9)) :
  InstOk P f nt ⟨paStr2,FnSplit fSplit⟩:=by
 refine inst_of (r:=rSplit) (fun α k=>?_) fun ds res h=>⟨?_,hb⟩
 ·show FnSplit fSplit α k=fun x1 x2=>(rSplit [(false,[.v (.string x1)]),(false,[.v (.string x2)])]).bind k
  funext s p
  unfold FnSplit fSplit rSplit
  by_cases h:s.size < 4294967281/\1<=p.size <;> simp [h]
 ·unfold rSplit at h
  split at h
  ·rename_i s p
   split at h
   ·rename_i hn
    simp only [Option.some.injEq] at h
    subst h
    refine lb_contract (l:=[.string s,.string p]) fun w N hN hl hgN=>?_
    obtain ⟨cs, t, fz, h1, h2⟩ := hl "internal/bytealg.MaxLen" (by simp [layNames]) g hg
    have h3:∃ m,cs[0]?=some (.int .i64 m):=by simpa [layOk] using h2
    obtain⟨m,h3⟩:=h3
    refine (hc s p m w hn.1 (by simp [World.cell?,h1,h3]) hn.2).mono ?_
    rintro e w' ⟨rfl,rfl⟩
    have hlen:=Lib.splitB_all p hn.2 0 _ s rfl
    have hle:=Lib.countB_le p hn.2 s.size s (Nat.le_refl _)
    refine⟨_,rfl,⟨rfl,rfl,rfl,?_,fun k hk=>?_⟩,#[.slice (some ⟨w.heap.size,0,none⟩) (Lib.countB s p+1) (Lib.countB s p+1)],obS w.heap.size,rfl,rfl,fun i x u hx hu=>?_,fun i j b h=>?_,fun i j i' j' b h h'=>?_⟩
    ·rw [alloc_heap];simp
    ·rw [alloc_heap,Array.getElem?_push,if_neg (by omega)]
    ·match i with
     | 0=>
      simp at hx hu;subst hx;subst hu
      refine⟨_,rfl,.inr ⟨w.heap.size,0,Lib.countB s p+1,((Lib.splitB p 0 (Lib.countB s p) s).map Value.string).toArray,t9,(0,0),rfl,?_,?_,?_,?_,?_,?_,?_,by decide,?_⟩⟩
      ·simp [strRows,hlen]
      ·rw [alloc_heap];simp
      ·simp [strRows,hlen]
      ·simp [maxLen];omega
      ·simp [hlen]
      ·simp
      ·simp [strRows]
      ·intro i j r d hr hd
       simp only [strRows,List.getElem?_map,Option.map_eq_some_iff] at hr
       obtain⟨x,hx,rfl⟩:=hr
       match j with
       | 0=>
        simp at hd;subst hd
        exact⟨.string x,by simp [hx],.v rfl⟩
       | j+1=>simp at hd
     | i+1=>simp at hx
    ·obtain⟨_,_,rfl⟩:=obS_some h
     rw [alloc_heap];simp
    ·have h1:=obS_some h
     have h2:=obS_some h'
     omega
   ·cases h
  ·cases h
end Go.AM

namespace Go.AM
open Go.RowKit PT Go.Sort
variable {P:Program}{f nt:Nat}
theorem args_no {w:World}{N:Nat->Prop}:∀ {ds:List DV} {vs:List Value} {bs:List Nat} {is:List (Option Nat)},(∀ d ∈ ds,mrefOf d=none)->ArgsM w N ds vs bs is->ArgsRel w N ds vs.toArray/\bs=[]/\is=[]
 | [],[],_,_,_,h=>⟨⟨rfl,by simp⟩,h.1,h.2⟩
 | [],_::_,_,_,_,h=>h.elim
 | _::_,[],_,_,_,h=>h.elim
 | d::ds,v::vs,bs,is,hn,h=>by
  simp only [ArgsM,hn d (by simp)] at h
  obtain⟨h1,h2⟩:=h
  obtain⟨⟨h3,h4⟩,rfl,rfl⟩:=args_no (fun x hx=>hn x (List.mem_cons_of_mem _ hx)) h2
  refine⟨⟨by simpa using h3,fun i d' v' hd hv=>?_⟩,rfl,rfl⟩
  cases i with
  | zero=>simp at hd hv;subst hd;subst hv;exact h1
  | succ i=>exact h4 i d' v' (by simpa using hd) (by simpa using hv)
theorem lb_contract2 {ds:List DV}{res:List RV}(hn:∀ d ∈ ds,mrefOf d=none)
  (h:∀ (w:World) (vs:Array Value) (N:Nat->Prop),(∀ b,N b->b < w.heap.size)->Laid P w->(∀ b,gbP P b->¬ N b)->ArgsRel w N ds vs->Calls P f vs w fun e w'=>∃ v,e=.returned v/\Below w.heap.size w w'/\ResRel w N res v w') :
  Contract P f ds res:=by
 intro w vs N bs is hN hnd ha hl hg
 obtain⟨h1,rfl,rfl⟩:=args_no hn ha
 refine (h w vs N hN hl (fun b hb=>(hg b hb).1) (by simpa using h1)).mono ?_
 rintro e w' ⟨v,rfl,hb,vs',ob,e1,e2,e3,e4,e5⟩
 refine⟨v,[],rfl,⟨hb.os,hb.tape,hb.output,hb.size,fun k hk _=>hb.block k hk⟩,rfl,vs',ob,e1,by simpa using e2,fun i x u hx hu=>?_,fun i j b h=>⟨.inl (e4 i j b h).1,(e4 i j b h).2⟩,e5⟩
 have:=e3 i x u hx (by simpa using hu)
 have hp:(fun b=>(N b/\some b ∉ ([]:List (Option Nat)))\/∃ i j,ob i j=some b)=fun b=>N b\/∃ i j,ob i j=some b:=by
  funext b;simp
 rwa [hp]
def strsOf:List (List DC)->Option (List ByteArray)
 | []=>some []
 | [.v (.string x)]::r=>(strsOf r).map (x::·)
 | _=>none
theorem strsOf_rows:∀ (l:List ByteArray),strsOf (strRows l)=some l
 | []=>rfl
 | x::l=>by
  have:=strsOf_rows l
  simp only [strRows] at this
  simp only [strRows,List.map_cons,strsOf,this,Option.map_some]
theorem strsOf_some:∀ {rows:List (List DC)} {l:List ByteArray},strsOf rows=some l->rows=strRows l
 | [],l,h=>by simp only [strsOf,Option.some.injEq] at h;subst h;rfl
 | r::rows,l,h=>by
  unfold strsOf at h
  split at h
  ·rename_i e;cases e
  ·rename_i x r' e
   cases e
   cases hq:strsOf rows with
   | none=>rw [hq] at h;cases h
   | some l'=>
    rw [hq] at h
    simp only [Option.map_some,Option.some.injEq] at h
    subst h
    rw [strsOf_some hq]
    rfl
  ·cases h
abbrev TJoin:Type 1:=(α:Type)->List (List DC)->ByteArray->(ByteArray->Option α)->Option α
def jnOk (l:List ByteArray)(s:ByteArray):Bool:=decide (l.length<=140737488355328/\(Lib.join (l.map (·.data.toList)) s.data.toList).length<=140737488355328)
def fJoin:TJoin:=fun _ rows s k=>match strsOf rows with
 | some l=>if jnOk l s then k ⟨(Lib.join (l.map (·.data.toList)) s.data.toList).toArray⟩ else none
 | none=>none
def paJoin:PT (List DV):=pA [pV false [dL],pV false [dS]]
def FnJoin (v:TJoin)(α:Type)(k:List RV->Option α):List (List DC)->ByteArray->Option α:=fun x1 x2=>v α x1 x2 fun y1=>k [(false,[.d (.v (.string y1))])]
def rJoin:List DV->Option (List RV)
 | [(false,[.sl rows]),(false,[.v (.string s)])]=>match strsOf rows with
  | some l=>if jnOk l s then some [(false,[.d (.v (.string ⟨(Lib.join (l.map (·.data.toList)) s.data.toList).toArray⟩))])] else none
  | none=>none
 | _=>none
theorem inst_join (hb:Bodied P f)
  (h0:∀ (a:Option Addr) (c:Nat) (sep:ByteArray) (w:World),Calls P f #[.slice a 0 c,.string sep] w fun e w'=>e=.returned (.string ⟨#[]⟩)/\w'=w)
  (hc:∀ (bk o c:Nat) (xs:List ByteArray) (sep:ByteArray) (w:World),(∀ (j:Nat) x,xs[j]?=some x->w.cell? ⟨bk,o+j,none⟩=some (.string x))->bk < w.heap.size->xs.length<=140737488355328->xs.length<=c ->
   (Lib.join (xs.map (·.data.toList)) sep.data.toList).length<=140737488355328 ->
   Calls P f #[.slice (some ⟨bk,o,none⟩) xs.length c,.string sep] w fun e w'=>e=.returned (.string ⟨(Lib.join (xs.map (·.data.toList)) sep.data.toList).toArray⟩)/\Below w.heap.size w w') :
  InstOk P f nt ⟨paJoin,FnJoin fJoin⟩:=by
 refine inst_of (r:=rJoin) (fun α k=>?_) fun ds res h=>⟨?_,hb⟩
 ·show FnJoin fJoin α k=fun x1 x2=>(rJoin [(false,[.sl x1]),(false,[.v (.string x2)])]).bind k
  funext rows s
  unfold FnJoin fJoin rJoin
  cases hq:strsOf rows with
  | none=>simp [hq]
  | some l=>cases hj:jnOk l s <;> simp [hq,hj]
 ·unfold rJoin at h
  split at h
  ·rename_i rows s
   split at h
   ·rename_i l hl
    split at h
    ·rename_i hj
     simp only [Option.some.injEq] at h
     subst h
     obtain⟨j1,j2⟩:=of_decide_eq_true hj
     obtain rfl:=strsOf_some hl
     refine lb_contract2 (fun d hd=>?_) fun w vs N hN hlay hg ha=>?_
     ·simp only [List.mem_cons,List.not_mem_nil,or_false] at hd
      rcases hd with rfl | rfl <;> rfl
     ·obtain⟨a1,a2⟩:=ha
      obtain⟨v1,v2,rfl⟩:∃ v1 v2,vs=#[v1,v2]:=by
       have:vs.toList.length=2:=by simpa using a1.symm
       match hq:vs.toList,this with
       | [v1,v2],_=>exact⟨v1,v2,by rw [<- Array.toArray_toList (xs:=vs),hq]⟩
      obtain⟨d1,e1,r1⟩:=a2 0 _ v1 rfl (by simp)
      obtain⟨d2,e2,r2⟩:=a2 1 _ v2 rfl (by simp)
      simp only [List.cons.injEq,and_true] at e1 e2
      subst e1;subst e2
      cases r2 with
      | v hp=>
       generalize hrs:strRows l=rows at r1
       cases r1 with
       | nil=>
        obtain rfl:l=[]:=by cases l with | nil=>rfl | cons=>simp [strRows] at hrs
        refine (h0 _ _ _ w).mono ?_
        rintro e w' ⟨rfl,rfl⟩
        exact⟨_,rfl,Below.refl _ _,res_one rfl⟩
       | @sl _ b off cap sz g hne hNb hb hsz hll hcap hcc hdd=>
        subst hrs
        have hlen:(strRows l).length=l.length:=by simp [strRows]
        have h1:sz=1:=by
         cases l with
         | nil=>simp [strRows] at hne
         | cons x l=>exact (hll [.v (.string x)] (by simp [strRows])).symm
        subst h1
        rw [hlen] at hcap hcc
        have:=hc b off cap l s w (fun j x hx=>by
         have hj:=(List.getElem?_eq_some_iff.1 hx).1
         have h1:=hcc j 0 hj (by decide)
         have h2:=hdd j 0 _ _ (by simp [strRows,hx];rfl) rfl
         rw [Nat.mul_one,Nat.add_zero] at h1
         rw [h1]
         generalize g j 0=y at h2
         cases h2
         rfl) hb j1 hcap j2
        rw [hlen]
        refine this.mono ?_
        rintro e w' ⟨rfl,hbe⟩
        exact⟨_,rfl,hbe,res_one rfl⟩
    ·cases h
   ·cases h
  ·cases h
abbrev THas:Type 1:=(α:Type)->ByteArray->ByteArray->(Bool->Option α)->Option α
def fHas:THas:=fun _ s p k=>match p.data.toList with
 | [c]=>k (decide (0<=Lib.indexByte s.data.toList c))
 | _=>none
def FnHas (v:THas)(α:Type)(k:List RV->Option α):ByteArray->ByteArray->Option α:=fun x1 x2=>v α x1 x2 fun y1=>k [(false,[.d (.v (.bool y1))])]
def rHas:List DV->Option (List RV)
 | [(false,[.v (.string s)]),(false,[.v (.string p)])]=>match p.data.toList with
  | [c]=>some [(false,[.d (.v (.bool (decide (0<=Lib.indexByte s.data.toList c))))])]
  | _=>none
 | _=>none
theorem inst_has (hb:Bodied P f)
  (hc:∀ (s:ByteArray) (c:UInt8) (w:World),Calls P f #[.string s,.string ⟨#[c]⟩] w fun e w'=>e=.returned (.bool (decide (0<=Lib.indexByte s.data.toList c)))/\w'=w):InstOk P f nt ⟨paStr2,FnHas fHas⟩:=by
 refine inst_of (r:=rHas) (fun α k=>?_) fun ds res h=>⟨?_,hb⟩
 ·show FnHas fHas α k=fun x1 x2=>(rHas [(false,[.v (.string x1)]),(false,[.v (.string x2)])]).bind k
  funext s p
  unfold FnHas fHas rHas
  split <;> simp_all
 ·unfold rHas at h
  split at h
  ·rename_i s p
   split at h
   ·rename_i c hp
    simp only [Option.some.injEq] at h
    subst h
    have hpe:p=⟨#[c]⟩:=by
     apply ByteArray.ext
     rw [<- Array.toArray_toList (xs:=p.data),hp]
    subst hpe
    refine lb_contract (l:=[.string s,.string ⟨#[c]⟩]) fun w N hN hl hgN=>(hc s c w).mono ?_
    rintro e w' ⟨rfl,rfl⟩
    exact⟨_,rfl,Below.refl _ _,res_one rfl⟩
   ·cases h
  ·cases h
end Go.AM
