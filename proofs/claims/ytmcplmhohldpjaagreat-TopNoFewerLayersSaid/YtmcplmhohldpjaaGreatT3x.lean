/- Bands: the answer of a task; points of boxes; the shares there. -/
import Derived.Test.YtmcplmhohldpjaaGreatT3v
namespace Go.AM.K
set_option linter.unusedVariables false
set_option linter.unusedSimpArgs false
variable {α:Type}
def fH (ls:List L5)(oi ol:Int):List Dm->Int->Nat->Int × Int × Int × Int
 | [],a,_=>(a,0,0,0)
 | d::r,a,i=>match (vis d ls oi ol 5 d.pc).1 with
  | some m=>(0,(i:Int),m.1,m.2)
  | none=>fH ls oi ol r (if (vis d ls oi ol 5 d.pc).2=true then 1 else a) (i+1)
theorem aiM {tr:ae}(h:tr.length<=1000)(v:ae):dv 1 24 tr [[DC.sl v]]=true:=by
 refine decide_eq_true ⟨rfl,?_,?_⟩
 ·simp only [List.length_cons,List.length_nil];omega
 ·simp only [List.length_cons,List.length_nil];omega
theorem Vf {d:Dm}(h:ckD d=0):(0<=d.sh/\d.sh<=2)/\d.pc.bd/\d.pc.ok/\okD d:=by
 obtain⟨⟨h1,_⟩,⟨_,h2,h3⟩,h4,⟨h5,h6⟩,h7,⟨h8,h9⟩,_⟩:=Uw h
 unfold Pc.bd Pc.ok Dm.pc bdI okD
 simp only
 omega
theorem OI {a:Int}{x y:Option α}:cK (a != 2) x y=if a=2 then y else x:=by
 by_cases h:a=2
 ·rw [if_pos h,h];rfl
 ·rw [if_neg h,bne_iff_ne.2 h,aq]
theorem aaC {ds:List Dm}{ls:List L5}{oi ol:Int}(hl:ds.length<=8){k1:Int->Int->Int->Option α}{k2:Int->Int->Bool->ae->Option α}{K:Int->ae->Int->Int->Int->Option α}
  (h1:∀ i w s,k1 i w s=K 0 [] i w s) (h2:∀ a i b tr,k2 a i b tr=if a=2 then K a tr 0 0 0 else K a [] 0 0 0) :
  ∀ (rest:List Dm) (i n:Nat) (a:Int) (tr:ae),(∀ d ∈ rest,ckD d=0)->ds.drop i=rest->i<=ds.length->rest.length < n->tr.length=i->(a=1\/a=2) ->
  ∃ tr',lG α (ds.map rD) (ds.length:Int) (ls.map rL) oi ol k1 k2 n a (i:Int) tr=K (fH ls oi ol rest a i).1 tr' (fH ls oi ol rest a i).2.1 (fH ls oi ol rest a i).2.2.1 (fH ls oi ol rest a i).2.2.2:=by
 intro rest
 induction rest with
 | nil=>
  intro i n a tr hc hd hi hn ht ha
  obtain⟨n,rfl⟩:∃ n',n=n'+1:=⟨n - 1,by simp only [List.length_nil] at hn;omega⟩
  have hl:ds.length<=i:=List.drop_eq_nil_iff.1 hd
  rw [lG]
  simp only [rI]
  rw [decide_eq_false (by omega),ap,h2]
  by_cases c:a=2
  ·rw [if_pos c];exact⟨tr,rfl⟩
  ·rw [if_neg c];exact⟨[],rfl⟩
 | cons d rs ih=>
  intro i n a tr hc hd hi hn ht ha
  obtain⟨n,rfl⟩:∃ n',n=n'+1:=⟨n - 1,by omega⟩
  obtain⟨hg,hd'⟩:=fX hd
  have hl':i < ds.length:=(List.getElem?_eq_some_iff.1 hg).1
  have hw:w64 ((i:Int)+1)=((i+1:Nat):Int):=by rw [ak (by omega) (by omega)];omega
  have hn':rs.length < n:=by simp only [List.length_cons] at hn;omega
  obtain⟨c1,c2,c3,c4⟩:=Vf (hc d (List.mem_cons_self ..))
  rw [lG]
  simp only [rI]
  rw [decide_eq_true (by omega),aq,BK hg,tu,af,HC,wn,af,Fy]
  have ih':=fun a' tr' ht ha=>ih (i+1) n a' tr' (fun d hd=>hc d (List.mem_cons_of_mem _ hd)) hd' (by omega) hn' ht ha
  generalize hR:lG α (ds.map rD) (ds.length:Int) (ls.map rL) oi ol k1 k2 n=R at *
  obtain⟨t,o,o2,e⟩:=akW (α:=α) c1 c2 (ls:=ls) (oi:=oi) (ol:=ol)
   (kA:=fun x64 x65=>lF α x65 (gK (dv 1 24 tr [[DC.sl x64]]) (R 1 (w64 ((i:Int)+1)) (tr++[[DC.sl x64]]))) (gK (dv 1 24 tr [[DC.sl x64]]) (R a (w64 ((i:Int)+1)) (tr++[[DC.sl x64]]))))
   (kB:=fun x66 x67=>k1 (i:Int) x66 x67) (kC:=gK (dv 1 24 tr [[DC.sl ([]:ae)]]) (R 1 (w64 ((i:Int)+1)) (tr++[[DC.sl ([]:ae)]])))
   (kD:=fun x68 x69 x70 x71=>k1 (i:Int) x69 x70)
  rw [e]
  clear e
  rw [fH]
  cases hv:(vis d ls oi ol 5 d.pc).1 with
  | some m=>
   simp only
   refine⟨[],?_⟩
   rw [h1]
   by_cases c:o=true
   ·rw [if_pos c]
   ·rw [if_neg c]
  | none=>
   simp only
   rw [hw]
   have hj:∀ b x y,lF α b x y=if b=true then x else y:=fun b x y=>by rw [lF,af,GA];exact Vy
   rw [hj]
   by_cases c:(vis d ls oi ol 5 d.pc).2=true
   ·rw [if_pos c,if_pos c]
    by_cases c':o=true
    ·rw [if_pos ⟨c',c⟩,cJ (aiM (by omega) _)]
     exact ih' 1 _ (by simp only [List.length_append,List.length_cons,List.length_nil];omega) (Or.inl rfl)
    ·rw [if_neg (fun h=>c' h.1),cJ (aiM (by omega) _)]
     exact ih' 1 _ (by simp only [List.length_append,List.length_cons,List.length_nil];omega) (Or.inl rfl)
   ·rw [if_neg c,if_neg c,if_neg (fun h=>c h.2),cJ (aiM (by omega) _)]
    exact ih' a _ (by simp only [List.length_append,List.length_cons,List.length_nil];omega) ha
theorem ajg {ds:List Dm}(h:dms ds=0):ds.length<=8/\ds ≠ []/\∀ d ∈ ds,ckD d=0:=by
 unfold dms at h
 by_cases c0:ds.length=0
 ·rw [if_pos c0] at h;exact absurd h (by decide)
 ·rw [if_neg c0] at h
  by_cases c8:8 < ds.length
  ·rw [if_pos c8] at h;exact absurd h (by decide)
  ·rw [if_neg c8] at h
   refine⟨by omega,fun hh=>c0 (by rw [hh];rfl),?_⟩
   have key:∀ l:List Dm,dsE l=0->∀ d ∈ l,ckD d=0:=by
    intro l
    induction l with
    | nil=>intro _ d hd;cases hd
    | cons x xs ih=>
     intro hx d hd
     unfold dsE at hx
     by_cases cx:ckD x=0
     ·rw [if_pos cx] at hx
      rcases List.mem_cons.1 hd with rfl | hd
      ·exact cx
      ·exact ih hx d hd
     ·rw [if_neg cx] at hx;exact absurd hx cx
   exact key ds h
def z3 (ds:List Dm)(ls:List L5)(oi ol:Int):Int:=match ds with
 | []=>12
 | d::r=>aot d r ls oi ol
theorem Ww {ds:List Dm}{ls:List L5}{oi ol:Int}(h:z3 ds ls oi ol=0):ds.length<=8/\(∀ d ∈ ds,ckD d=0)/\lsE ls=0/\ls.length<=40:=by
 cases ds with
 | nil=>exact absurd h (show ¬ (12:Int)=0 by decide)
 | cons d r=>
  have hd:=h
  unfold z3 aot at hd
  simp only at hd
  by_cases c:dms (d::r)=0
  ·rw [if_pos c] at hd
   obtain⟨a1,a2,a3⟩:=ajg c
   obtain⟨_,_,_,_,b1,b2,_⟩:=yB hd
   exact⟨a1,a3,b2,b1⟩
  ·rw [if_neg c] at hd;exact absurd hd c
theorem apW {ds:List Dm}{ls:List L5}{oi ol:Int}{k:Int->ae->Int->Int->Int->Int->Option α} :
  ∃ tr,BI α (ds.map rD) (ls.map rL) oi ol k=if z3 ds ls oi ol=0 then k (fH ls oi ol ds 2 0).1 tr (fH ls oi ol ds 2 0).2.1 (fH ls oi ol ds 2 0).2.2.1 (fH ls oi ol ds 2 0).2.2.2 0 else k 0 [] 0 0 0 (z3 ds ls oi ol):=by
 rw [BI,af,ahd]
 cases ds with
 | nil=>
  refine⟨[],?_⟩
  rw [vu,af,JB,CT,af,JW]
  rfl
 | cons d r=>
  have key:∀ k':Int->Int->Option α,(∀ x y e,k' x e=k' y e)->vu α ((d::r).map rD) (ls.map rL) oi ol k'=k' 0 (z3 (d::r) ls oi ol):=by
   intro k' hk
   have:k'=fun _ e=>k' 0 e:=funext fun x=>funext fun e=>hk x 0 e
   rw [this]
   exact WG
  rw [key _ (fun _ _ _=>rfl),eE]
  by_cases c:z3 (d::r) ls oi ol=0
  ·obtain⟨h1,h2,_⟩:=Ww c
   have hf:(d::r).length < aN:=by have:=cB;omega
   obtain⟨tr,e⟩:=aaC (α:=α) (ds:=d::r) (ls:=ls) (oi:=oi) (ol:=ol) h1 (k1:=fun x112 x113 x114=>k 0 [] x112 x113 x114 0)
    (k2:=fun x115 x116 x117 x118=>cK (x115 != 2) (k x115 [] 0 0 0 0) (k x115 x118 0 0 0 0)) (K:=fun a t i w s=>k a t i w s 0) (fun _ _ _=>rfl)
    (fun a i b tr=>OI) (d::r) 0 aN 2 [] h2 rfl (Nat.zero_le _) hf rfl (Or.inr rfl)
   refine⟨tr,?_⟩
   rw [if_pos c,if_pos c,vF,af,J7,sC,af,zG,List.length_map]
   exact e
  ·exact⟨[],by rw [if_neg c,if_neg c]⟩
end Go.AM.K
