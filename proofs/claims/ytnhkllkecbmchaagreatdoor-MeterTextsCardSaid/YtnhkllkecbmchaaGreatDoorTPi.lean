/- Print of readings, as the machine calls it. -/
import Derived.Test.YtnhkllkecbmchaaGreatDoorTPr
import Derived.Test.YtnhkllkecbmchaaGreatDoorXA1
namespace Go.AM.K
open Go.Proofs Go.RowKit PT
set_option maxRecDepth 100000
theorem inst_split' {f nt:Nat}{x:Inst}(h:InstOk Tryz.prog f nt x){ds:List DV}(hn:ds.length<=nt){β:Type}{K:List RV->Option β}{r:β}(hd:x.1.dec ds (x.2 β K)=some (some r)) :
  ∃ res,Contract Tryz.prog f ds res/\Bodied Tryz.prog f/\K res=some r:=by
 rcases h.nat (List RV) β some K ds with ⟨o,h1,h2⟩ | ⟨_,h2⟩
 ·have h3:x.1.dec ds (x.2 β K)=some (o.bind K):=h2
  rw [hd] at h3
  have h4:o.bind K=some r:=(Option.some.inj h3).symm
  obtain⟨res,rfl,h5⟩:=Option.bind_eq_some_iff.1 h4
  obtain⟨h6,h7⟩:=h.ok ds res hn h1
  exact⟨res,h6,h7,h5⟩
 ·have h3:x.1.dec ds (x.2 β K)=none:=h2
  rw [hd] at h3;cases h3
theorem calls_of {f:Nat}{ds:List DV}{vs:Array Value}{x:Value}(hC:Contract Tryz.prog f ds [(false,[.d (.v x)])])(ha:∀ w,ArgsRel w (fun _=>False) ds vs)(w:World)(hl:Laid Tryz.prog w) :
  Calls Tryz.prog f vs w fun e w'=>e=.returned x/\Below w.heap.size w w':=by
 refine (hC.plain (N:=fun _=>False) (fun _ h=>h.elim) (ha w) hl fun _ _ h=>h).mono ?_
 rintro e w' ⟨v,rfl,hb,us,ob,e1,e2,e3,_⟩
 have h1:us.size=1:=by simpa using e2.symm
 rw [dif_pos h1] at e1
 obtain⟨c,hc,hr⟩:=e3 0 _ (us[0]'(by omega)) rfl (by simp [h1])
 simp only [List.cons.injEq,and_true] at hc
 subst hc
 have hr:DRel w' _ (.v x) (us[0]'(by omega)):=hr
 generalize us[0]'(by omega)=u at hr e1
 cases hr
 rw [e1]
 exact⟨rfl,hb⟩
theorem args_agg {w:World}{l:List Value}(h:∀ x ∈ l,plain x=true):ArgsRel w (fun _=>False) [(true,l.map .v)] #[.agg l.toArray]:=by
 refine⟨rfl,fun i d v hd hv=>?_⟩
 match i with
 | 0=>
  simp at hd hv;subst hd;subst hv
  refine⟨l.toArray,rfl,by simp,fun j c x hc hx=>?_⟩
  rw [List.getElem?_map] at hc
  have hx':l[j]?=some x:=by simpa using hx
  rw [hx'] at hc
  simp only [Option.map_some,Option.some.injEq] at hc
  subst hc
  exact .v (h x (List.mem_of_getElem? hx'))
 | i+1=>simp at hd
theorem args_vals {w:World}{l:List Value}(h:∀ x ∈ l,plain x=true):ArgsRel w (fun _=>False) (l.map fun x=>(false,[DC.v x])) l.toArray:=by
 refine⟨by simp,fun i d v hd hv=>?_⟩
 rw [List.getElem?_map] at hd
 have hv':l[i]?=some v:=by simpa using hv
 rw [hv'] at hd
 simp only [Option.map_some,Option.some.injEq] at hd
 subst hd
 exact⟨_,rfl,.v (h v (List.mem_of_getElem? hv'))⟩
def rdRow:List DC->Option (List Value)
 | [.v (.string s),.v (.int .i64 a),.v (.int .i64 b),.v (.int .i64 c),.v (.int .i64 d),.v (.int .i64 e),.v (.int .i64 f),.v (.int .i64 g),.v (.int .i64 h),.v (.int .i64 i)]=>
  some [.string s,.int .i64 a,.int .i64 b,.int .i64 c,.int .i64 d,.int .i64 e,.int .i64 f,.int .i64 g,.int .i64 h,.int .i64 i]
 | _=>none
theorem rdRow_some {r:List DC}{l:List Value}(h:rdRow r=some l):r=l.map .v/\∃ (s:ByteArray) (a b c d e f g h i:Int),l=[.string s,.int .i64 a,.int .i64 b,.int .i64 c,.int .i64 d,.int .i64 e,.int .i64 f,.int .i64 g,.int .i64 h,.int .i64 i]:=by
 unfold rdRow at h
 split at h
 ·simp only [Option.some.injEq] at h
  subst h
  exact⟨rfl,_,_,_,_,_,_,_,_,_,_,rfl⟩
 ·cases h
def szOk (txt num acc:ByteArray):Bool:=decide (txt.size<=1000000000/\num.size<=1000000000/\acc.size+(txt++⟨#[32]⟩++num++⟨#[10]⟩).size<=140737488355328)
noncomputable def prLine (s:ByteArray)(a b c d e f g h i:Int)(n:Nat)(acc:ByteArray)(k:ByteArray->Option (ByteArray × Int)):Option (ByteArray × Int):=
 f82_0 _ s a b c d e f g h i fun er=>if er=0 then
  f16_0 _ s a b c d e f g h i fun txt=>f85_0 _ ((n:Int)+1) txt fun ck=>f61_0 _ ck fun num=>if szOk txt num acc then k (acc++(txt++⟨#[32]⟩++num++⟨#[10]⟩)) else none
 else some (⟨#[]⟩,er)
noncomputable def prGo:Rows->Nat->ByteArray->Option (ByteArray × Int)
 | [],_,acc=>some (acc,0)
 | r::rs,n,acc=>match r with
  | [.v (.string s),.v (.int .i64 a),.v (.int .i64 b),.v (.int .i64 c),.v (.int .i64 d),.v (.int .i64 e),.v (.int .i64 f),.v (.int .i64 g),.v (.int .i64 h),.v (.int .i64 i)]=>prLine s a b c d e f g h i n acc fun acc'=>prGo rs (n+1) acc'
  | _=>none
abbrev Tf21_0:Type 1:=(α:Type)->Rows->(ByteArray->Int->Option α)->Option α
noncomputable def rPrint (rows:Rows):Option (ByteArray × Int):=if rows.length<=20 then (match rows.mapM rdRow with | some _=>prGo rows 0 ⟨#[]⟩ | none=>none) else some (⟨#[]⟩,8)
noncomputable def f21_0:Tf21_0:=fun _ rows k=>match rPrint rows with | some p=>k p.1 p.2 | none=>none
abbrev nt21:Nat:=38
def pa21_0:PT (List DV):=pA [pV false [dL]]
def Fn21_0 (v:Tf21_0)(α:Type)(k:List RV->Option α):Rows->Option α:=fun x1=>v α x1 fun y1 y2=>k [(false,[.d (.v (.string y1))]),(false,[.d (.v (.int .i64 y2))])]
theorem prLine_ok {s:ByteArray}{a b c d e f g h i:Int}{n:Nat}{acc:ByteArray}{K:ByteArray->Option (ByteArray × Int)}{p:ByteArray × Int}(hp:prLine s a b c d e f g h i n acc K=some p) :
  (∃ er:Int,er ≠ 0/\p=(⟨#[]⟩,er)/\∀ W,Laid Tryz.prog W->Calls Tryz.prog 82 #[.agg #[.string s,.int .i64 a,.int .i64 b,.int .i64 c,.int .i64 d,.int .i64 e,.int .i64 f,.int .i64 g,.int .i64 h,.int .i64 i]] W fun e' w'=>e'=.returned (.int .i64 er)/\Below W.heap.size W w') \/
  ∃ line,PLine [.string s,.int .i64 a,.int .i64 b,.int .i64 c,.int .i64 d,.int .i64 e,.int .i64 f,.int .i64 g,.int .i64 h,.int .i64 i] n line/\acc.size+line.size<=140737488355328/\K (acc++line)=some p:=by
 have hpl:∀ x ∈ [Value.string s,.int .i64 a,.int .i64 b,.int .i64 c,.int .i64 d,.int .i64 e,.int .i64 f,.int .i64 g,.int .i64 h,.int .i64 i],plain x=true:=fun x hx=>by
  simp only [List.mem_cons,List.not_mem_nil,or_false] at hx
  rcases hx with rfl | rfl | rfl | rfl | rfl | rfl | rfl | rfl | rfl | rfl <;> rfl
 have h82:=inst_split' io82_0 (ds:=[(true,[Value.string s,.int .i64 a,.int .i64 b,.int .i64 c,.int .i64 d,.int .i64 e,.int .i64 f,.int .i64 g,.int .i64 h,.int .i64 i].map .v)]) (show (1:Nat)<=nt82 by decide) (β:=ByteArray × Int)
  (K:=fun res=>match res with
   | [(false,[.d (.v (.int .i64 er))])]=>if er=0 then
     f16_0 _ s a b c d e f g h i fun txt=>f85_0 _ ((n:Int)+1) txt fun ck=>f61_0 _ ck fun num=>if szOk txt num acc then K (acc++(txt++⟨#[32]⟩++num++⟨#[10]⟩)) else none
    else some (⟨#[]⟩,er)
   | _=>none) (r:=p) (congrArg some hp)
 obtain⟨res,hC,_,hk⟩:=h82
 split at hk
 ·rename_i er
  split at hk
  ·rename_i he
   subst he
   have c82:=calls_of hC fun _=>args_agg hpl
   have h16:=inst_split' io16_0 (ds:=[(true,[Value.string s,.int .i64 a,.int .i64 b,.int .i64 c,.int .i64 d,.int .i64 e,.int .i64 f,.int .i64 g,.int .i64 h,.int .i64 i].map .v)]) (show (1:Nat)<=nt16 by decide) (β:=ByteArray × Int)
    (K:=fun res=>match res with
     | [(false,[.d (.v (.string txt))])]=>f85_0 _ ((n:Int)+1) txt fun ck=>f61_0 _ ck fun num=>if szOk txt num acc then K (acc++(txt++⟨#[32]⟩++num++⟨#[10]⟩)) else none
     | _=>none) (r:=p) (congrArg some hk)
   obtain⟨res,hC,_,hk⟩:=h16
   split at hk
   ·rename_i txt
    have c16:=calls_of hC fun _=>args_agg hpl
    have h85:=inst_split' io85_0 (ds:=[Value.int .i64 ((n:Int)+1),.string txt].map fun x=>(false,[DC.v x])) (show (2:Nat)<=nt85 by decide) (β:=ByteArray × Int)
     (K:=fun res=>match res with
      | [(false,[.d (.v (.int .i64 ck))])]=>f61_0 _ ck fun num=>if szOk txt num acc then K (acc++(txt++⟨#[32]⟩++num++⟨#[10]⟩)) else none
      | _=>none) (r:=p) (congrArg some hk)
    obtain⟨res,hC,_,hk⟩:=h85
    split at hk
    ·rename_i ck
     have c85:=calls_of hC fun _=>args_vals fun x hx=>by
      simp only [List.mem_cons,List.not_mem_nil,or_false] at hx
      rcases hx with rfl | rfl <;> rfl
     have h61:=inst_split' io61_0 (ds:=[Value.int .i64 ck].map fun x=>(false,[DC.v x])) (show (1:Nat)<=nt61 by decide) (β:=ByteArray × Int)
      (K:=fun res=>match res with
       | [(false,[.d (.v (.string num))])]=>if szOk txt num acc then K (acc++(txt++⟨#[32]⟩++num++⟨#[10]⟩)) else none
       | _=>none) (r:=p) (congrArg some hk)
     obtain⟨res,hC,_,hk⟩:=h61
     split at hk
     ·rename_i num
      have c61:=calls_of hC fun _=>args_vals fun x hx=>by
       simp only [List.mem_cons,List.not_mem_nil,or_false] at hx
       rcases hx with rfl <;> rfl
      split at hk
      ·rename_i hz
       obtain⟨z1,z2,z3⟩:=of_decide_eq_true hz
       exact .inr ⟨_,⟨txt,num,ck,c82,c16,c85,c61,z1,z2,rfl⟩,z3,hk⟩
      ·cases hk
     ·cases hk
    ·cases hk
   ·cases hk
  ·rename_i he
   simp only [Option.some.injEq] at hk
   exact .inl ⟨er,he,hk.symm,calls_of hC fun _=>args_agg hpl⟩
 ·cases hk
theorem prGo_ok:∀ {rows:Rows} {rs:List (List Value)} {n:Nat} {acc:ByteArray} {p:ByteArray × Int},rows.mapM rdRow=some rs->prGo rows n acc=some p->PrOk rs n acc p.1 p.2
 | [],rs,n,acc,p,hr,h=>by
  simp only [List.mapM_nil] at hr
  cases hr
  simp only [prGo,Option.some.injEq] at h
  subst h
  exact .nil
 | r::rows,rs,n,acc,p,hr,h=>by
  simp only [List.mapM_cons] at hr
  cases h1:rdRow r with
  | none=>rw [h1] at hr;cases hr
  | some l=>
   rw [h1] at hr
   cases h2:rows.mapM rdRow with
   | none=>rw [h2] at hr;cases hr
   | some rs'=>
    rw [h2] at hr
    cases hr
    unfold rdRow at h1
    split at h1
    ·simp only [Option.some.injEq] at h1
     subst h1
     simp only [prGo] at h
     rcases prLine_ok h with ⟨er,he,rfl,hc⟩ | ⟨line,hl,hz,hk⟩
     ·exact .err hc he
     ·exact .step hl hz (prGo_ok h2 hk)
    ·cases h1
theorem rdRows_len:∀ {rows:Rows} {rs:List (List Value)},rows.mapM rdRow=some rs->rs.length=rows.length
 | [],rs,h=>by simp only [List.mapM_nil] at h;cases h;rfl
 | r::rows,rs,h=>by
  simp only [List.mapM_cons] at h
  cases h1:rdRow r with
  | none=>rw [h1] at h;cases h
  | some l=>
   rw [h1] at h
   cases h2:rows.mapM rdRow with
   | none=>rw [h2] at h;cases h
   | some rs'=>rw [h2] at h;cases h;simp [rdRows_len h2]
theorem rdRows_get:∀ {rows:Rows} {rs:List (List Value)},rows.mapM rdRow=some rs->∀ {i:Nat} {r:List Value},rs[i]?=some r->∃ q,rows[i]?=some q/\rdRow q=some r
 | [],rs,h,i,r,hr=>by simp only [List.mapM_nil] at h;cases h;simp at hr
 | r0::rows,rs,h,i,r,hr=>by
  simp only [List.mapM_cons] at h
  cases h1:rdRow r0 with
  | none=>rw [h1] at h;cases h
  | some l=>
   rw [h1] at h
   cases h2:rows.mapM rdRow with
   | none=>rw [h2] at h;cases h
   | some rs'=>
    rw [h2] at h;cases h
    cases i with
    | zero=>simp at hr;subst hr;exact⟨r0,rfl,h1⟩
    | succ i=>simpa using rdRows_get h2 (i:=i) (by simpa using hr)
theorem print_res {w':World}{N:Nat->Prop}{w:World}{s:ByteArray}{e:Int}:ResRel w N [(false,[.d (.v (.string s))]),(false,[.d (.v (.int .i64 e))])] (.tuple #[.string s,.int .i64 e]) w':=
 res_two (fun _ _=>.v rfl) (fun _ _=>.v rfl)
theorem io21_0:InstOk Tryz.prog 21 nt21 ⟨pa21_0,Fn21_0 f21_0⟩:=by
 refine inst_of (r:=fun ds=>match ds with
  | [(false,[.sl rows])]=>(rPrint rows).map fun p=>[(false,[.d (.v (.string p.1))]),(false,[.d (.v (.int .i64 p.2))])]
  | _=>none) (fun α k=>?_) fun ds res h=>⟨?_,⟨Tryz.f21,Tryz.func21,by kernel_rfl,by kernel_rfl⟩⟩
 ·show Fn21_0 f21_0 α k=fun x1=>((rPrint x1).map fun p=>[(false,[RC.d (.v (.string p.1))]),(false,[RC.d (.v (.int .i64 p.2))])]).bind k
  funext rows
  unfold Fn21_0 f21_0
  cases rPrint rows <;> rfl
 ·split at h
  ·rename_i rows
   cases hq:rPrint rows with
   | none=>rw [hq] at h;cases h
   | some p=>
    rw [hq] at h
    simp only [Option.map_some,Option.some.injEq] at h
    subst h
    refine lb_contract2 (fun d hd=>?_) fun w vs N hN hlay hg ha=>?_
    ·simp only [List.mem_cons,List.not_mem_nil,or_false] at hd
     rcases hd with rfl;rfl
    ·obtain⟨a1,a2⟩:=ha
     obtain⟨v1,rfl⟩:∃ v1,vs=#[v1]:=by
      have:vs.toList.length=1:=by simpa using a1.symm
      match hq:vs.toList,this with
      | [v1],_=>exact⟨v1,by rw [<- Array.toArray_toList (xs:=vs),hq]⟩
     obtain⟨d1,e1,r1⟩:=a2 0 _ v1 rfl (by simp)
     simp only [List.cons.injEq,and_true] at e1
     subst e1
     have hv:∃ a cap,v1=.slice a rows.length cap:=by
      cases r1 with
      | nil=>exact⟨_,_,rfl⟩
      | sl f hne hN hb hsz hll hcap hcc hdd=>exact⟨_,_,rfl⟩
     obtain⟨a,cap,rfl⟩:=hv
     by_cases h20:rows.length<=20
     ·unfold rPrint at hq
      rw [if_pos h20] at hq
      split at hq
      ·rename_i rs hrs
       have hok:=prGo_ok hrs hq
       have hlen:=rdRows_len hrs
       rw [<- hlen]
       refine (Tryz.print_walk rs a cap (by omega) w hlay (fun i r hr=>?_) p.1 p.2 hok).mono ?_
       ·obtain⟨q,hq1,hq2⟩:=rdRows_get hrs hr
        obtain⟨hql,hform⟩:=rdRow_some hq2
        have hi:=(List.getElem?_eq_some_iff.1 hq1).1
        generalize hvv:Value.slice a rows.length cap=vv at r1
        cases r1 with
        | nil=>simp at hi
        | @sl _ b off cap' sz f hne hNb hb hsz hll hcap hcc hdd=>
         simp only [Value.slice.injEq] at hvv
         obtain⟨rfl,_,rfl⟩:=hvv
         have hsz10:sz=10:=by
          have:=hll q (List.mem_of_getElem? hq1)
          rw [hql] at this
          obtain⟨s,x1,x2,x3,x4,x5,x6,x7,x8,x9,rfl⟩:=hform
          simpa using this.symm
         subst hsz10
         refine⟨b,off,rfl,hb,hform,fun j x hx=>?_⟩
         have hj:j < 10:=by
          obtain⟨s,x1,x2,x3,x4,x5,x6,x7,x8,x9,rfl⟩:=hform
          simpa using (List.getElem?_eq_some_iff.1 hx).1
         rw [hcc i j hi hj]
         have:=hdd i j q (.v x) hq1 (by rw [hql,List.getElem?_map,hx];rfl)
         generalize f i j=y at this
         cases this
         rfl
       ·rintro e w' ⟨rfl,hb⟩
        exact⟨_,rfl,hb,print_res⟩
      ·cases hq
     ·unfold rPrint at hq
      rw [if_neg h20] at hq
      simp only [Option.some.injEq] at hq
      subst hq
      refine (Tryz.print_large a rows.length cap (by omega) w).mono ?_
      rintro e w' ⟨rfl,hb⟩
      exact⟨_,rfl,hb,print_res⟩
  ·cases h
end Go.AM.K
