/- A released design keeps its specification: the law. -/
import Derived.Test.YtmcplmhohldpjaaGreatT5b
import Derived.Test.YtmcplmhohldpjaaGreatT5p
import Derived.Test.YtmcplmhohldpjaaGreatRl
namespace Go.AM.K
set_option linter.unusedVariables false
set_option linter.unusedSimpArgs false
variable {α:Type}
theorem KJ {lo hi x:Int}(h:rgI lo hi){k:Int->Option α}:wJ α lo hi x k=k (ptI lo hi x):=by
 have h':=h
 unfold rgI at h'
 have hb:=PE (x:=x) h
 rw [wJ,af,Wa,ak (n:=hi - lo) (by omega) (by omega),ak (n:=hi - lo+1) (by omega) (by omega),abE (by omega) (by omega)]
 unfold ptI at hb ⊢
 rw [ak (by omega) (by omega)]
theorem agc {tk:List Int}{i:Nat}{k1:Int->Option α}{k2:Bool->Option α}(h:∀ b,k2 b=k1 0):vy α (i:Int) (tk.map rI1) k1 k2=k1 (tk.getD i 0):=by
 rw [vy,af,LO,List.length_map,bg]
 by_cases c:i < tk.length
 ·rw [if_pos (by omega),aj2 c,List.getD_eq_getElem?_getD,List.getElem?_eq_getElem c];rfl
 ·rw [if_neg (by omega),h,List.getD_eq_getElem?_getD,List.getElem?_eq_none_iff.2 (by omega)];rfl
theorem aqc {L:List L5}{i:Nat}{l:L5}(h:L[i]?=some l){f:Int->Option α}:ldK (L.map rL) i 2 [.int .i64] f=f l.2.2.1:=by
 have hl:=(List.getElem?_eq_some_iff.1 h).1
 unfold ldK
 rw [decide_eq_true (by rw [List.length_map];exact hl),t8 h]
 rfl
theorem aqY {L:List L5}{i:Nat}{l:L5}(h:L[i]?=some l){f:Int->Option α}:ldK (L.map rL) i 3 [.int .i64] f=f l.2.2.2.1:=by
 have hl:=(List.getElem?_eq_some_iff.1 h).1
 unfold ldK
 rw [decide_eq_true (by rw [List.length_map];exact hl),t8 h]
 rfl
def tsT (tk:List Int):List L5->Nat->List Int
 | [],_=>[]
 | l::ls,i=>ptI l.2.2.1 l.2.2.2.1 (tk.getD i 0)::tsT tk ls (i+1)
theorem ap2 {G:List (Int × Int)}{x:Int × Int}(h:G.length<=100):fj 2 16 (G.map rT2) [rT2 x]=true:=by
 refine decide_eq_true ⟨rfl,?_,?_⟩
 ·simp only [List.length_map,List.length_cons,List.length_nil];omega
 ·simp only [List.length_map,List.length_cons,List.length_nil];omega
theorem aoF {tk:List Int}{N:Nat}(hN:N<=40){k1:Option α}{k2:Int->Bool->ae->ae->Option α}{Y:List L5->List (Int × Int)->Option α}(h2:∀ x b M G,k2 x b (M.map rL) (G.map rT2)=Y M G) :
  ∀ (rest:List L5) (i n:Nat) (A:List L5) (G:List (Int × Int)),A.length=i->G.length=i->i+rest.length=N->rest.length < n->(∀ l ∈ rest,rgI l.2.2.1 l.2.2.2.1) ->
  qV α (tk.map rI1) k1 k2 n (i:Int) ((A++rest).map rL) (G.map rT2)=Y (A++jO rest (tsT tk rest i)) (G++(tsT tk rest i).map fun t=>(t,t)):=by
 intro rest
 induction rest with
 | nil=>
  intro i n A G hA hG hi hn _
  obtain⟨n,rfl⟩:∃ n',n=n'+1:=⟨n - 1,by simp only [List.length_nil] at hn;omega⟩
  simp only [List.length_nil] at hi
  rw [qV]
  simp only [BJ,List.length_map]
  rw [decide_eq_false (by rw [List.append_nil];omega),am,h2]
  show Y _ _=Y (A++[]) (G++[])
  rw [List.append_nil,List.append_nil]
 | cons l rs ih=>
  intro i n A G hA hG hi hn hr
  obtain⟨n,rfl⟩:∃ n',n=n'+1:=⟨n - 1,by omega⟩
  simp only [List.length_cons] at hi hn
  have hiL:i < (A++l::rs).length:=by rw [List.length_append,List.length_cons];omega
  have hlL:(A++l::rs)[i]?=some l:=by rw [List.getElem?_append_right (by omega),hA,Nat.sub_self];rfl
  have g:=hr l (List.mem_cons_self ..)
  have g':=g
  unfold rgI at g'
  have hw:w64 ((i:Int)+1)=((i+1:Nat):Int):=by rw [ak (by omega) (by omega)];omega
  rw [qV]
  simp only [BJ,List.length_map,Int.toNat_natCast]
  rw [decide_eq_true (by omega),aq,agc (fun _=>rfl),VN hiL,aqc hlL,VN hiL,aqY hlL,decide_eq_false (by omega),am,VN hiL,air hlL,KJ g,VN hiL,asy hiL (by decide),akn hlL]
  generalize ht:ptI l.2.2.1 l.2.2.2.1 (tk.getD i 0)=t at *
  have hs:(A++l::rs).set i (l.1,l.2.1,t,t,l.2.2.2.2)=(A++[thP t l])++rs:=by
   rw [List.set_append_right _ _ (by omega),hA,Nat.sub_self,List.append_assoc];rfl
  rw [hs]
  have hiM:i < ((A++[thP t l])++rs).length:=by rw [<- hs,List.length_set];exact hiL
  have hlM:((A++[thP t l])++rs)[i]?=some (thP t l):=by rw [<- hs,List.getElem?_set_self hiL];rfl
  rw [VN hiM,air hlM]
  change gK (fj 2 16 (G.map rT2) [rT2 (t,t)]) (qV α _ k1 k2 n _ _ (G.map rT2++[rT2 (t,t)]))=_
  have hG2:G.map rT2++[rT2 (t,t)]=(G++[(t,t)]).map rT2:=by rw [List.map_append];rfl
  rw [cO (ap2 (by omega)),hG2,hw,ih (i+1) n (A++[thP t l]) (G++[(t,t)]) (by rw [List.length_append,List.length_cons,List.length_nil];omega) (by rw [List.length_append,List.length_cons,List.length_nil];omega) (by omega) (by omega) (fun x hx=>hr x (List.mem_cons_of_mem _ hx))]
  show _=Y (A++jO (l::rs) (ptI l.2.2.1 l.2.2.2.1 (tk.getD i 0)::tsT tk rs (i+1))) (G++(ptI l.2.2.1 l.2.2.2.1 (tk.getD i 0)::tsT tk rs (i+1)).map fun t=>(t,t))
  rw [ht,List.append_assoc,List.append_assoc]
  rfl
theorem Yu:∀ {D:List D3} {L:List L5},qI D L->∀ l ∈ L,rgI l.2.2.1 l.2.2.2.1
 | [],[],_,l,hl=>by cases hl
 | [],_::_,h,_,_=>h.elim
 | _::_,[],h,_,_=>h.elim
 | x::xs,y::ys,h,l,hl=>by
  rcases List.mem_cons.1 hl with rfl | hl
  ·obtain⟨⟨_,_,_,h1,h2,h3⟩,_⟩:=h
   unfold rgI;omega
  ·exact Yu h.2 l hl
theorem ahX {tk:List Int}:∀ {L:List L5} (i:Nat),(∀ l ∈ L,rgI l.2.2.1 l.2.2.2.1)->RW L (tsT tk L i)
 | [],_,_=>trivial
 | l::ls,i,h=>⟨PE (h l (List.mem_cons_self ..)),ahX (i+1) fun x hx=>h x (List.mem_cons_of_mem _ hx)⟩
def Hc:List L5->List Int->List (Int × Int × Int)
 | l::ls,t::ts=>(l.1,t,l.2.2.2.2)::Hc ls ts
 | _,_=>[]
theorem Yr:∀ {D:List D3} {L:List L5} {ts:List Int},qI D L->RW L ts->KO L (Hc L ts)/\KO (jO L ts) (Hc L ts)
 | [],[],[],_,_=>⟨trivial,trivial⟩
 | [],[],_::_,_,h=>h.elim
 | [],_::_,_,h,_=>h.elim
 | _::_,[],_,h,_=>h.elim
 | _::_,_::_,[],_,h=>h.elim
 | x::xs,l::ls,t::ts,h,g=>by
  obtain⟨i1,i2⟩:=Yr h.2 g.2
  obtain⟨⟨a1,a2,a3,a4,a5,a6⟩,_⟩:=h
  obtain⟨⟨b1,b2⟩,_⟩:=g
  exact⟨⟨⟨⟨Int.le_refl _,by rw [a1,a2];exact Int.le_refl _⟩,⟨b1,b2⟩,rfl⟩,i1⟩,⟨⟨⟨Int.le_refl _,by show l.1<=l.2.1;rw [a1,a2];exact Int.le_refl _⟩,⟨Int.le_refl _,Int.le_refl _⟩,rfl⟩,i2⟩⟩
theorem OZ:∀ {L:List L5} {D:List D3} {ts:List Int},qI D L->RW L ts->lsE L=0->lsE (jO L ts)=0/\(jO L ts).length=L.length
 | [],_,[],_,_,_=>⟨rfl,rfl⟩
 | [],_,_::_,_,h,_=>h.elim
 | _::_,[],_,h,_,_=>h.elim
 | _::_,_::_,[],_,h,_=>h.elim
 | l::ls,x::xs,t::ts,h,g,hl=>by
  have hr:=ahd hl (i:=0) rfl
  have hl2:=hl
  unfold lsE at hl
  by_cases c:xq l=0
  ·rw [if_pos c] at hl
   obtain⟨i1,i2⟩:=OZ h.2 g.2 hl
   obtain⟨⟨b1,b2⟩,_⟩:=g
   obtain⟨⟨a1,a2,a3,a4,a5,a6⟩,_⟩:=h
   refine⟨?_,by show (jO ls ts).length+1=_;rw [i2];rfl⟩
   show (if xq (thP t l)=0 then lsE (jO ls ts) else xq (thP t l))=0
   have:xq (thP t l)=0:=by
    unfold xq at c ⊢
    by_cases c2:HZ l=true
    ·have hb:=of_decide_eq_true c2
     have hb2:HZ (thP t l)=true:=decide_eq_true ⟨hb.1,⟨⟨by show 0<=t;omega,by show t<=_;omega⟩,⟨by show 0<=t;omega,by show t<=_;omega⟩⟩,hb.2.2⟩
     rw [if_pos c2] at c
     by_cases c3:l.2.1 < l.1
     ·rw [if_pos c3] at c;exact absurd c (by decide)
     ·rw [if_pos hb2]
      show (if l.2.1 < l.1 then (10:Int) else if t < t then 10 else 0)=0
      rw [if_neg c3,if_neg (Int.lt_irrefl t)]
    ·rw [if_neg c2] at c;exact absurd c (by decide)
   rw [if_pos this,i1]
  ·rw [if_neg c] at hl;exact absurd hl c
theorem VU {des:List D3}{gr:List (Int × Int)}{er:Int}{ds:List Dm}{oi ol:Int}(hg:gr.length<=100){k:Int->Int->Int->Int->Int->Option α} :
  wT α (des.map rT3) (gr.map rT2) er (ds.map rD) oi ol k=if (jP des gr er).1=0 then
   (if qz ds (jP des gr er).2 oi ol=0 then k (gF (jP des gr er).2 oi ol ds 2 0).1 (gF (jP des gr er).2 oi ol ds 2 0).2.1 (gF (jP des gr er).2 oi ol ds 2 0).2.2.1 (gF (jP des gr er).2 oi ol ds 2 0).2.2.2 0 else k 0 0 0 0 (qz ds (jP des gr er).2 oi ol))
   else k 0 0 0 0 (jP des gr er).1:=by
 rw [wT,af,U4,TB hg,fG]
 by_cases c:(jP des gr er).1=0
 ·rw [if_pos c,if_pos c]
  obtain⟨tr,e⟩:=aqr (α:=α) (ds:=ds) (ls:=(jP des gr er).2) (oi:=oi) (ol:=ol) (k:=fun x9 x10 x11 x12 x13 x14=>k x9 x11 x12 x13 x14)
  exact e
 ·rw [if_neg c,if_neg c]
theorem K3 {des:List D3}{gr:List (Int × Int)}{ds:List Dm}(h1:des.length<=100)(h2:gr.length<=100)(h3:ds.length<=100){k:ae->ae->ae->Option α}:A8 α (des.map rT3) (gr.map rT2) (ds.map rD) k=k (des.map rT3) (gr.map rT2) (ds.map rD):=by
 rw [A8,af,YM,Lx,af,aaO,cO (yu (enc:=rT3) (fun _=>rfl) (by simp only [List.length_nil];omega) (by simp only [List.length_nil];omega)),L2,af,Ug,cO (yu (enc:=rT2) (fun _=>rfl) (by simp only [List.length_nil];omega) (by simp only [List.length_nil];omega)),cO (yu (enc:=rD) (fun _=>rfl) (by simp only [List.length_nil];omega) (by simp only [List.length_nil];omega)),List.nil_append,List.nil_append,List.nil_append]
theorem aaY {n lo hi:Int}:∃ b:Bool,∀ k:Bool->Option α,dO α n lo hi k=k b:=by
 by_cases c:lo<=n
 ·exact⟨decide (n<=hi),fun k=>by rw [dO,af,J2,decide_eq_true c,aq]⟩
 ·exact⟨false,fun k=>by rw [dO,af,J2,decide_eq_false c,am]⟩
theorem Ys {b:Bool}{f g:(Bool->Option α)->Option α}(hf:∃ b',∀ k,f k=k b')(hg:∃ b',∀ k,g k=k b'):∃ b',∀ k:Bool->Option α,cK b (f k) (g k)=k b':=by
 cases b with
 | true=>exact hf
 | false=>exact hg
theorem Fm {n lo hi:Int}{f:Bool->(Bool->Option α)->Option α}(hf:∀ b,∃ b',∀ k,f b k=k b'):∃ b',∀ k:Bool->Option α,dO α n lo hi (fun x=>f x k)=k b':=by
 obtain⟨b,hb⟩:=aaY (α:=α) (n:=n) (lo:=lo) (hi:=hi)
 obtain⟨b',hb'⟩:=hf b
 exact⟨b',fun k=>by rw [hb,hb']⟩
theorem alR {a b c d:Int}:∃ b':Bool,∀ k:Bool->Option α,pW α a b c d k=k b':=by
 rw [pW,af]
 unfold JI
 have h3:∃ b',∀ k:Bool->Option α,dO α a 0 9999 (fun x53=>cK x53 (dO α b (w64 (a+200)) 9999 (fun x54=>k x54)) (k false))=k b':=
  Fm (f:=fun x53 k=>cK x53 (dO α b (w64 (a+200)) 9999 (fun x54=>k x54)) (k false)) fun x53=>Ys (f:=fun k=>dO α b (w64 (a+200)) 9999 (fun x54=>k x54)) (g:=fun k=>k false) aaY ⟨false,fun _=>rfl⟩
 exact Fm (f:=fun x51 k=>cK x51 (dO α d (w64 (c+200)) 200000 (fun x52=>cK x52 (k true) (dO α a 0 9999 (fun x53=>cK x53 (dO α b (w64 (a+200)) 9999 (fun x54=>k x54)) (k false))))) (dO α a 0 9999 (fun x53=>cK x53 (dO α b (w64 (a+200)) 9999 (fun x54=>k x54)) (k false)))) fun x51=>
  Ys (f:=fun k=>dO α d (w64 (c+200)) 200000 (fun x52=>cK x52 (k true) (dO α a 0 9999 (fun x53=>cK x53 (dO α b (w64 (a+200)) 9999 (fun x54=>k x54)) (k false))))) (g:=fun k=>dO α a 0 9999 (fun x53=>cK x53 (dO α b (w64 (a+200)) 9999 (fun x54=>k x54)) (k false)))
   (Fm (f:=fun x52 k=>cK x52 (k true) (dO α a 0 9999 (fun x53=>cK x53 (dO α b (w64 (a+200)) 9999 (fun x54=>k x54)) (k false)))) fun x52=>Ys (f:=fun k=>k true) ⟨true,fun _=>rfl⟩ h3) h3
theorem ajZ {ds:List Dm}(hl:ds.length<=100){k1 Y:Option α}{k2:Int->Bool->Option α}(h2:∀ x b,k2 x b=Y) :
  ∀ (rest:List Dm) (i n:Nat),ds.drop i=rest->i<=ds.length->rest.length < n->mJ α (ds.map rD) k1 k2 n (i:Int)=k1\/mJ α (ds.map rD) k1 k2 n (i:Int)=Y:=by
 intro rest
 induction rest with
 | nil=>
  intro i n hd hi hn
  obtain⟨n,rfl⟩:∃ n',n=n'+1:=⟨n - 1,by simp only [List.length_nil] at hn;omega⟩
  have hl:ds.length<=i:=List.drop_eq_nil_iff.1 hd
  right
  rw [mJ]
  simp only [ux,List.length_map]
  rw [decide_eq_false (by omega),am,h2]
 | cons d rs ih=>
  intro i n hd hi hn
  obtain⟨n,rfl⟩:∃ n',n=n'+1:=⟨n - 1,by omega⟩
  obtain⟨hg,hd'⟩:=eG hd
  have hl':i < ds.length:=(List.getElem?_eq_some_iff.1 hg).1
  have hw:w64 ((i:Int)+1)=((i+1:Nat):Int):=by rw [ak (by omega) (by omega)];omega
  have hn':rs.length < n:=by simp only [List.length_cons] at hn;omega
  obtain⟨b,hb⟩:=alR (α:=α) (a:=d.s1) (b:=d.s2) (c:=d.w1) (d:=d.w2)
  rw [mJ]
  simp only [ux,List.length_map]
  rw [decide_eq_true (by omega),aq,D4 hg,hb]
  cases b with
  | true=>left;rfl
  | false=>
   rw [am,hw]
   exact ih (i+1) n hd' (by omega) hn'
theorem acH {des:List D3}{gr:List (Int × Int)}{ds:List Dm}{k:Bool->Option α}:∃ b:Bool,(b=true->des.length<=42/\gr.length<=44/\ds.length<=3)/\Dt α (des.map rT3) (gr.map rT2) (ds.map rD) k=k b:=by
 have hf:=cS
 have go:ds.length<=3->(iJ α (ds.map rD) (k false) (fun _ _=>k true) 0=k false\/iJ α (ds.map rD) (k false) (fun _ _=>k true) 0=k true):=by
  intro h
  rw [iJ,af,H1]
  exact ajZ (by omega) (fun _ _=>rfl) ds 0 aN rfl (Nat.zero_le _) (by omega)
 rw [Dt,af,aaa,yh,af,GS,Pz,af,Wz]
 simp only [List.length_map,bg]
 have fin:∀ x:Option α,(des.length<=42/\gr.length<=44)->(x=if (ds.length:Int)<=3 then (if 3 < (des.length:Int) then (if (des.length:Int)<=40 then k false else if 2 < (ds.length:Int) then k false else iJ α (ds.map rD) (k false) (fun _ _=>k true) 0) else if 2 < (ds.length:Int) then k false else iJ α (ds.map rD) (k false) (fun _ _=>k true) 0) else k false) ->
   ∃ b:Bool,(b=true->des.length<=42/\gr.length<=44/\ds.length<=3)/\x=k b:=by
  intro x hx e
  by_cases c:(ds.length:Int)<=3
  ·rw [if_pos c] at e
   have hh:x=k false\/x=iJ α (ds.map rD) (k false) (fun _ _=>k true) 0:=by
    rw [e]
    split
    ·split
     ·exact Or.inl rfl
     ·split
      ·exact Or.inl rfl
      ·exact Or.inr rfl
    ·split
     ·exact Or.inl rfl
     ·exact Or.inr rfl
   rcases hh with hh | hh
   ·exact⟨false,fun h=>(by cases h),hh⟩
   ·rcases go (by omega) with g | g
    ·exact⟨false,fun h=>(by cases h),hh.trans g⟩
    ·exact⟨true,fun _=>⟨hx.1,hx.2,by omega⟩,hh.trans g⟩
  ·rw [if_neg c] at e
   exact⟨false,fun h=>(by cases h),e⟩
 have no:∀ x:Option α,∃ b:Bool,(b=true->des.length<=42/\gr.length<=44/\ds.length<=3)/\cK (!false) (k false) x=k b:=fun x=>⟨false,fun h=>(by cases h),rfl⟩
 simp only [ji]
 by_cases d6:(des.length:Int)<=6
 ·rw [if_pos d6]
  by_cases g:(gr.length:Int)<=44
  ·rw [if_pos g];exact fin _ ⟨by omega,by omega⟩ rfl
  ·rw [if_neg g];exact no _
 ·rw [if_neg d6]
  by_cases d40:40 < (des.length:Int)
  ·rw [if_pos d40]
   by_cases d42:(des.length:Int)<=42
   ·rw [if_pos d42]
    by_cases g:(gr.length:Int)<=44
    ·rw [if_pos g];exact fin _ ⟨by omega,by omega⟩ rfl
    ·rw [if_neg g];exact no _
   ·rw [if_neg d42];exact no _
  ·rw [if_neg d40];exact no _
theorem agj {q:Q6}{sh:Int}(hs:0<=sh/\sh<=2){k:Int->Int->Option α}:wp α sh q.1 q.2.1 q.2.2.1 q.2.2.2.1 q.2.2.2.2.1 q.2.2.2.2.2 k=k (kO sh q).1 (kO sh q).2:=by
 rw [wp,af,OP]
 unfold kO
 by_cases c2:sh=2
 ·subst c2;rfl
 ·rw [beq_eq_false_iff_ne.2 c2,am,if_neg c2]
  by_cases c1:sh=1
  ·subst c1;rfl
  ·rw [beq_eq_false_iff_ne.2 c1,am,if_neg c1,beq_iff_eq.2 (show sh=0 by omega),aq]
theorem Vx {d:Dm}{q:Q6 × Int}{k1:Option α}{k2 k3:Bool->Option α}{Y:Option α}(hs:0<=d.sh/\d.sh<=2)(hb:okD d)(hu:q.2=0->cI (kO d.sh q.1).1/\cI (kO d.sh q.1).2)
  (h:q.2=0->¬ (kO d.sh q.1).2*10000 < d.lo*1048576/\¬ d.hi*1048576 < (kO d.sh q.1).1*10000) (h2:∀ b,k2 b=Y) (h3:∀ b,k3 b=Y) :
  z9 α q.2 d.sh d.lo d.hi q.1.1 q.1.2.1 q.1.2.2.1 q.1.2.2.2.1 q.1.2.2.2.2.1 q.1.2.2.2.2.2 k1 k2 k3=Y:=by
 rw [z9,af,LZ]
 by_cases c:q.2=0
 ·rw [beq_iff_eq.2 c,aq,agj hs]
  obtain⟨u1,u2⟩:=hu c
  obtain⟨g1,g2⟩:=h c
  unfold cI at u1 u2
  unfold okD at hb
  rw [ak (n:=(kO d.sh q.1).2*10000) (by omega) (by omega),ak (n:=d.lo*1048576) (by omega) (by omega),ak (n:=d.hi*1048576) (by omega) (by omega),ak (n:=(kO d.sh q.1).1*10000) (by omega) (by omega),decide_eq_false g1,am,decide_eq_false g2,am,h2]
 ·rw [beq_eq_false_iff_ne.2 c,am,h3]
theorem atg (des:List D3)(gr:List (Int × Int))(er:Int)(ds:List Dm)(oi ol xw xs:Int)(tk:List Int)(dm:Int){k:Bool->Option α} :
  VI α (des.map rT3) (gr.map rT2) er (ds.map rD) oi ol xw xs (tk.map rI1) dm k=k true:=by
 have hf:=cS
 rw [VI,af,ah0]
 show Dt α _ _ _ _=_
 obtain⟨b,hb,e⟩:=acH (α:=α) (des:=des) (gr:=gr) (ds:=ds) (k:=_)
 rw [e]
 clear e
 cases b with
 | false=>rfl
 | true=>
  obtain⟨n1,n2,n3⟩:=hb rfl
  clear hb
  show cK false _ (cK _ _ (cK _ _ _))=_
  rw [am,List.length_map,List.length_map,List.length_map,bg,va]
  by_cases c4:4 < (tk.length:Int)
  ·rw [if_pos c4]
  ·rw [if_neg c4]
   by_cases c0:(ds.length:Int)=0
   ·rw [if_pos c0]
   ·rw [if_neg c0,K3 (by omega) (by omega) (by omega),VU (by omega)]
    by_cases cb:(jP des gr er).1=0
    ·rw [if_pos cb]
     by_cases ct:qz ds (jP des gr er).2 oi ol=0
     ·rw [if_pos ct]
      show cK false _ (cK _ _ _)=_
      rw [am,OR]
      by_cases ca:(gF (jP des gr er).2 oi ol ds 2 0).1=2
      ·rw [if_pos ca,K3 (by omega) (by omega) (by omega),TB (by omega),akF,fG,if_pos cb]
       obtain⟨q1,q2,q3,q4⟩:=ajf cb
       have q5:=Ma q4
       obtain⟨t1,t2,t3,t4⟩:=IV ct
       have ty:=(VK ds 2 0 ca).2
       generalize hL:(jP des gr er).2=L at *
       rw [List.length_map,age,if_pos (by rw [q5]),abE (by omega) (by omega)]
       obtain⟨m1,m2⟩:=VC (x:=dm) (m:=(ds.length:Int)) (by omega)
       obtain⟨j,hj⟩:∃ j:Nat,Io dm (ds.length:Int)=(j:Int):=⟨(Io dm (ds.length:Int)).toNat,by omega⟩
       rw [hj]
       obtain⟨d,hd⟩:∃ d,ds[j]?=some d:=⟨ds[j]'(by omega),List.getElem?_eq_getElem (by omega)⟩
       have hmem:d ∈ ds:=List.mem_of_getElem? hd
       obtain⟨g1,g2,g3,g4⟩:=JJ (t2 d hmem)
       rw [D4 hd,K3 (by omega) (by omega) (by omega),Fb,af,PB]
       have hrg:=Yu q4
       have hts:=ahX (tk:=tk) 0 hrg
       refine (aoF (tk:=tk) (N:=L.length) (by omega) (fun x b M G=>rfl) L 0 aN [] [] rfl rfl (Nat.zero_add _) (by omega) hrg).trans ?_
       simp only [List.nil_append]
       generalize hte:tsT tk L 0=ts at *
       obtain⟨p1,p2⟩:=Yr q4 hts
       have rw1:rgI d.w1 d.w2/\rgI d.s1 d.s2:=by
        obtain⟨b1,b2,b3,b4⟩:=g2
        obtain⟨o1,o2⟩:=g3
        unfold Dm.pc bdI at *
        unfold rgI
        simp only at *
        omega
       rw [KJ rw1.1,KJ rw1.2]
       have w1:=PE (x:=xw) rw1.1
       have w2:=PE (x:=xs) rw1.2
       have sure:∀ e ∈ ds,∀ w s,e.pc.has w s->(lF (ptD e w s (Hc L ts) oi ol) e.sh).d*(e.lo*1048576)<=(lF (ptD e w s (Hc L ts) oi ol) e.sh).n*10000/\(lF (ptD e w s (Hc L ts) oi ol) e.sh).n*10000<=(lF (ptD e w s (Hc L ts) oi ol) e.sh).d*(e.hi*1048576):=by
        intro e he w s hws
        obtain⟨y,y1,y2⟩:=ad9 5 e.pc (ty e he) w s hws
        exact afr (d:=y.dm e) (JJ (t2 e he)).2.2.2 ⟨rfl,y1.2,rfl,y1.1,p1,rfl,rfl⟩ y2
       have fin:wT α (des.map rT3) ((ts.map fun t=>(t,t)).map rT2) er (ds.map rD) oi ol (fun x177 x178 x179 x180 x181=>cK (x181 == 0) (k (x177 != 0)) (k false))=k true:=by
        have hx:=Sf q1 q2 q3 q4 hts
        obtain⟨_,_,el⟩:=BQ q3.1 q3.2 q4 hts
        obtain⟨s1,s2⟩:=OZ q4 hts t3
        rw [VU (by rw [List.length_map];omega),hx,if_pos rfl]
        have ht:qz ds (jO L ts) oi ol=0:=by
         cases ds with
         | nil=>exact absurd ct (show ¬ (12:Int)=0 by decide)
         | cons a r=>
          show (if dms (a::r)=0 then ckA (sk a (jO L ts) oi ol) else dms (a::r))=0
          have ct':(if dms (a::r)=0 then ckA (sk a L oi ol) else dms (a::r))=0:=ct
          by_cases cd:dms (a::r)=0
          ·rw [if_pos cd] at ct' ⊢
           obtain⟨k1,k2,k3,k4,k5,k6,k7,k8⟩:=vC ct'
           exact (if_pos k1).trans <| (if_pos k2).trans <| (if_pos k3).trans <| (if_pos k4).trans <| (if_neg (show ¬ 40 < ((jO L ts).length:Int) by omega)).trans <| (if_pos s1).trans <| (if_pos k7).trans (if_pos k8)
          ·rw [if_neg cd] at ct';exact absurd ct' cd
        rw [if_pos ht]
        show cK true (k ((gF (jO L ts) oi ol ds 2 0).1 != 0)) _=_
        rw [aq,bne_iff_ne.2 fun h0=>?_]
        obtain⟨i,e,i1,i2,i3⟩:=afM ds 2 0 (by decide) h0
        have he:=List.mem_of_getElem? i1
        obtain⟨k3,k4⟩:=amc 5 e.pc _ _ (JJ (t2 e he)).2.2.1 i3
        have n1:=sure e he _ _ k3
        have n2:=al8 (p:=ptD e (gF (jO L ts) oi ol ds 2 0).2.2.1 (gF (jO L ts) oi ol ds 2 0).2.2.2 (Hc L ts) oi ol) (d:=(Pc.mk (gF (jO L ts) oi ol ds 2 0).2.2.1 (gF (jO L ts) oi ol ds 2 0).2.2.1 (gF (jO L ts) oi ol ds 2 0).2.2.2 (gF (jO L ts) oi ol ds 2 0).2.2.2).dm e) (JJ (t2 e he)).2.2.2 ⟨rfl,⟨Int.le_refl _,Int.le_refl _⟩,rfl,⟨Int.le_refl _,Int.le_refl _⟩,p2,rfl,rfl⟩ k4
        rcases n2 with n2 | n2
        ·have:=n1.1
         exact absurd (Int.lt_of_le_of_lt this n2) (Int.lt_irrefl _)
        ·have:=n1.2
         exact absurd (Int.lt_of_lt_of_le n2 this) (Int.lt_irrefl _)
       refine (Va (Gk d (ptI d.w1 d.w2 xw) (ptI d.s1 d.s2 xs) (jO L ts) oi ol)).trans ?_
       unfold KS
       simp only
       refine Vx g1 g4 (fun h=>(O7 p2 h).2) (fun h=>?_) (fun _=>fin) (fun _=>fin)
       obtain⟨v1,v2⟩:=sure d hmem _ _ ⟨w1,w2⟩
       exact ajy (O7 p2 h).1 v1 v2
      ·rw [if_neg ca]
     ·rw [if_neg ct]
      show cK (_ != 0) _ _=_
      rw [bne_iff_ne.2 ct,aq]
    ·rw [if_neg cb]
     show cK (_ != 0) _ _=_
     rw [bne_iff_ne.2 cb,aq]
end Go.AM.K
