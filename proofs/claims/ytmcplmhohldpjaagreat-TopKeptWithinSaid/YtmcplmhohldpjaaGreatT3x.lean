/- Bands: the answer of a task; points of boxes; the shares there. -/
import Derived.Test.YtmcplmhohldpjaaGreatT3v
namespace Go.AM.K
set_option linter.unusedVariables false
set_option linter.unusedSimpArgs false
variable {α:Type}
def ansT (ls:List L5)(oi ol:Int):List Dm->Int->Nat->Int × Int × Int × Int
 | [],a,_=>(a,0,0,0)
 | d::r,a,i=>match (vis d ls oi ol 5 d.pc).1 with
  | some m=>(0,(i:Int),m.1,m.2)
  | none=>ansT ls oi ol r (if (vis d ls oi ol 5 d.pc).2=true then 1 else a) (i+1)
theorem ap24 {tr:Rows}(h:tr.length<=1000)(v:Rows):apOk 1 24 tr [[DC.sl v]]=true:=by
 refine decide_eq_true ⟨rfl,?_,?_⟩
 ·simp only [List.length_cons,List.length_nil];omega
 ·simp only [List.length_cons,List.length_nil];omega
theorem ck_bd {d:Dm}(h:ckD d=0):(0<=d.sh/\d.sh<=2)/\d.pc.bd/\d.pc.ok/\okD d:=by
 obtain⟨⟨h1,_⟩,⟨_,h2,h3⟩,h4,⟨h5,h6⟩,h7,⟨h8,h9⟩,_⟩:=ckD_ok h
 unfold Pc.bd Pc.ok Dm.pc bdI okD
 simp only
 omega
theorem cK_bne2 {a:Int}{x y:Option α}:cK (a != 2) x y=if a=2 then y else x:=by
 by_cases h:a=2
 ·rw [if_pos h,h];rfl
 ·rw [if_neg h,bne_iff_ne.2 h,cK_true]
theorem R30_go {ds:List Dm}{ls:List L5}{oi ol:Int}(hl:ds.length<=8){k1:Int->Int->Int->Option α}{k2:Int->Int->Bool->Rows->Option α}{K:Int->Rows->Int->Int->Int->Option α}
  (h1:∀ i w s,k1 i w s=K 0 [] i w s) (h2:∀ a i b tr,k2 a i b tr=if a=2 then K a tr 0 0 0 else K a [] 0 0 0) :
  ∀ (rest:List Dm) (i n:Nat) (a:Int) (tr:Rows),(∀ d ∈ rest,ckD d=0)->ds.drop i=rest->i<=ds.length->rest.length < n->tr.length=i->(a=1\/a=2) ->
  ∃ tr',R30_0_2 α (ds.map rD) (ds.length:Int) (ls.map rL) oi ol k1 k2 n a (i:Int) tr=K (ansT ls oi ol rest a i).1 tr' (ansT ls oi ol rest a i).2.1 (ansT ls oi ol rest a i).2.2.1 (ansT ls oi ol rest a i).2.2.2:=by
 intro rest
 induction rest with
 | nil=>
  intro i n a tr hc hd hi hn ht ha
  obtain⟨n,rfl⟩:∃ n',n=n'+1:=⟨n - 1,by simp only [List.length_nil] at hn;omega⟩
  have hl:ds.length<=i:=List.drop_eq_nil_iff.1 hd
  rw [R30_0_2]
  simp only [S30_0_2]
  rw [decide_eq_false (by omega),cK_false,h2]
  by_cases c:a=2
  ·rw [if_pos c];exact⟨tr,rfl⟩
  ·rw [if_neg c];exact⟨[],rfl⟩
 | cons d rs ih=>
  intro i n a tr hc hd hi hn ht ha
  obtain⟨n,rfl⟩:∃ n',n=n'+1:=⟨n - 1,by omega⟩
  obtain⟨hg,hd'⟩:=drop_split hd
  have hl':i < ds.length:=(List.getElem?_eq_some_iff.1 hg).1
  have hw:w64 ((i:Int)+1)=((i+1:Nat):Int):=by rw [w64_in (by omega) (by omega)];omega
  have hn':rs.length < n:=by simp only [List.length_cons] at hn;omega
  obtain⟨c1,c2,c3,c4⟩:=ck_bd (hc d (List.mem_cons_self ..))
  rw [R30_0_2]
  simp only [S30_0_2]
  rw [decide_eq_true (by omega),cK_true,row_D hg,J30_0_0,sld_eq,J30_0_0g,f72_0,sld_eq,f72_0g]
  have ih':=fun a' tr' ht ha=>ih (i+1) n a' tr' (fun d hd=>hc d (List.mem_cons_of_mem _ hd)) hd' (by omega) hn' ht ha
  generalize hR:R30_0_2 α (ds.map rD) (ds.length:Int) (ls.map rL) oi ol k1 k2 n=R at *
  obtain⟨t,o,o2,e⟩:=f73_eq (α:=α) c1 c2 (ls:=ls) (oi:=oi) (ol:=ol)
   (kA:=fun x64 x65=>J30_0_1 α x65 (gK (apOk 1 24 tr [[DC.sl x64]]) (R 1 (w64 ((i:Int)+1)) (tr++[[DC.sl x64]]))) (gK (apOk 1 24 tr [[DC.sl x64]]) (R a (w64 ((i:Int)+1)) (tr++[[DC.sl x64]]))))
   (kB:=fun x66 x67=>k1 (i:Int) x66 x67) (kC:=gK (apOk 1 24 tr [[DC.sl ([]:Rows)]]) (R 1 (w64 ((i:Int)+1)) (tr++[[DC.sl ([]:Rows)]])))
   (kD:=fun x68 x69 x70 x71=>k1 (i:Int) x69 x70)
  rw [e]
  clear e
  rw [ansT]
  cases hv:(vis d ls oi ol 5 d.pc).1 with
  | some m=>
   simp only
   refine⟨[],?_⟩
   rw [h1]
   by_cases c:o=true
   ·rw [if_pos c]
   ·rw [if_neg c]
  | none=>
   simp only
   rw [hw]
   have hj:∀ b x y,J30_0_1 α b x y=if b=true then x else y:=fun b x y=>by rw [J30_0_1,sld_eq,J30_0_1g];exact cK_b
   rw [hj]
   by_cases c:(vis d ls oi ol 5 d.pc).2=true
   ·rw [if_pos c,if_pos c]
    by_cases c':o=true
    ·rw [if_pos ⟨c',c⟩,gK_of (ap24 (by omega) _)]
     exact ih' 1 _ (by simp only [List.length_append,List.length_cons,List.length_nil];omega) (Or.inl rfl)
    ·rw [if_neg (fun h=>c' h.1),gK_of (ap24 (by omega) _)]
     exact ih' 1 _ (by simp only [List.length_append,List.length_cons,List.length_nil];omega) (Or.inl rfl)
   ·rw [if_neg c,if_neg c,if_neg (fun h=>c h.2),gK_of (ap24 (by omega) _)]
    exact ih' a _ (by simp only [List.length_append,List.length_cons,List.length_nil];omega) ha
theorem dms_ck {ds:List Dm}(h:dms ds=0):ds.length<=8/\ds ≠ []/\∀ d ∈ ds,ckD d=0:=by
 unfold dms at h
 by_cases c0:ds.length=0
 ·rw [if_pos c0] at h;exact absurd h (by decide)
 ·rw [if_neg c0] at h
  by_cases c8:8 < ds.length
  ·rw [if_pos c8] at h;exact absurd h (by decide)
  ·rw [if_neg c8] at h
   refine⟨by omega,fun hh=>c0 (by rw [hh];rfl),?_⟩
   have key:∀ l:List Dm,dsE l=0->∀ d ∈ l,ckD d=0:=by
    intro l
    induction l with
    | nil=>intro _ d hd;cases hd
    | cons x xs ih=>
     intro hx d hd
     unfold dsE at hx
     by_cases cx:ckD x=0
     ·rw [if_pos cx] at hx
      rcases List.mem_cons.1 hd with rfl | hd
      ·exact cx
      ·exact ih hx d hd
     ·rw [if_neg cx] at hx;exact absurd hx cx
   exact key ds h
def taskE (ds:List Dm)(ls:List L5)(oi ol:Int):Int:=match ds with
 | []=>12
 | d::r=>tskE d r ls oi ol
theorem taskE_ok {ds:List Dm}{ls:List L5}{oi ol:Int}(h:taskE ds ls oi ol=0):ds.length<=8/\(∀ d ∈ ds,ckD d=0)/\lsE ls=0/\ls.length<=40:=by
 cases ds with
 | nil=>exact absurd h (show ¬ (12:Int)=0 by decide)
 | cons d r=>
  have hd:=h
  unfold taskE tskE at hd
  simp only at hd
  by_cases c:dms (d::r)=0
  ·rw [if_pos c] at hd
   obtain⟨a1,a2,a3⟩:=dms_ck c
   obtain⟨_,_,_,_,b1,b2,_⟩:=ckA_ok hd
   exact⟨a1,a3,b2,b1⟩
  ·rw [if_neg c] at hd;exact absurd hd c
theorem f8_eq {ds:List Dm}{ls:List L5}{oi ol:Int}{k:Int->Rows->Int->Int->Int->Int->Option α} :
  ∃ tr,f8_0 α (ds.map rD) (ls.map rL) oi ol k=if taskE ds ls oi ol=0 then k (ansT ls oi ol ds 2 0).1 tr (ansT ls oi ol ds 2 0).2.1 (ansT ls oi ol ds 2 0).2.2.1 (ansT ls oi ol ds 2 0).2.2.2 0 else k 0 [] 0 0 0 (taskE ds ls oi ol):=by
 rw [f8_0,sld_eq,f8_0g]
 cases ds with
 | nil=>
  refine⟨[],?_⟩
  rw [f29_0,sld_eq,f29_0g,f69_0,sld_eq,f69_0g]
  rfl
 | cons d r=>
  have key:∀ k':Int->Int->Option α,(∀ x y e,k' x e=k' y e)->f29_0 α ((d::r).map rD) (ls.map rL) oi ol k'=k' 0 (taskE (d::r) ls oi ol):=by
   intro k' hk
   have:k'=fun _ e=>k' 0 e:=funext fun x=>funext fun e=>hk x 0 e
   rw [this]
   exact f29_eq
  rw [key _ (fun _ _ _=>rfl),cK_bne]
  by_cases c:taskE (d::r) ls oi ol=0
  ·obtain⟨h1,h2,_⟩:=taskE_ok c
   have hf:(d::r).length < fuel:=by have:=fuel_ge;omega
   obtain⟨tr,e⟩:=R30_go (α:=α) (ds:=d::r) (ls:=ls) (oi:=oi) (ol:=ol) h1 (k1:=fun x112 x113 x114=>k 0 [] x112 x113 x114 0)
    (k2:=fun x115 x116 x117 x118=>cK (x115 != 2) (k x115 [] 0 0 0 0) (k x115 x118 0 0 0 0)) (K:=fun a t i w s=>k a t i w s 0) (fun _ _ _=>rfl)
    (fun a i b tr=>cK_bne2) (d::r) 0 fuel 2 [] h2 rfl (Nat.zero_le _) hf rfl (Or.inr rfl)
   refine⟨tr,?_⟩
   rw [if_pos c,if_pos c,f30_0,sld_eq,f30_0g,L30_0_2,sld_eq,L30_0_2g,List.length_map]
   exact e
  ·exact⟨[],by rw [if_neg c,if_neg c]⟩
end Go.AM.K
