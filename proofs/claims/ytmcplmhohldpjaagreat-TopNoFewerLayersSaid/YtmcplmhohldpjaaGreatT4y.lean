/- No fewer layers do: the law. -/
import Derived.Test.YtmcplmhohldpjaaGreatT4k
import Derived.Test.YtmcplmhohldpjaaGreatRl
namespace Go.AM.K
set_option linter.unusedVariables false
set_option linter.unusedSimpArgs false
variable {α:Type}
theorem oR:∀ {ls:List L5},lsE ls=0 ↔ ∀ l ∈ ls,jA l=0
 | []=>⟨fun _ l h=>(by cases h),fun _=>rfl⟩
 | l::ls=>by
  unfold lsE
  constructor
  ·intro h x hx
   by_cases c:jA l=0
   ·rw [if_pos c] at h
    rcases List.mem_cons.1 hx with rfl | hx
    ·exact c
    ·exact oR.1 h x hx
   ·rw [if_neg c] at h;exact absurd h c
  ·intro h
   rw [if_pos (h l (List.mem_cons_self ..))]
   exact oR.2 fun x hx=>h x (List.mem_cons_of_mem _ hx)
theorem ajD {l:L5}(h:jA l=0):((5000<=l.1/\l.1<=80000)/\5000<=l.2.1/\l.2.1<=80000)/\((0<=l.2.2.1/\l.2.2.1<=1000000)/\0<=l.2.2.2.1/\l.2.2.2.1<=1000000)/\(0<=l.2.2.2.2/\l.2.2.2.2<=80000)/\l.1<=l.2.1/\l.2.2.1<=l.2.2.2.1:=by
 unfold jA at h
 by_cases c:BF l=true
 ·rw [if_pos c] at h
  have hb:=of_decide_eq_true c
  by_cases c3:l.2.1 < l.1
  ·rw [if_pos c3] at h;exact absurd h (by decide)
  ·rw [if_neg c3] at h
   by_cases c4:l.2.2.2.1 < l.2.2.1
   ·rw [if_pos c4] at h;exact absurd h (by decide)
   ·exact⟨hb.1,hb.2.1,hb.2.2,by omega,by omega⟩
 ·rw [if_neg c] at h;exact absurd h (by decide)
theorem aik {l:L5}(a b:Int)(h:jA l=0):jA (l5P a b l)=0:=by
 obtain⟨h1,h2,h3,h4,h5⟩:=ajD h
 have p1:=Gr (lo:=l.1) (hi:=l.2.1) (x:=a) (by unfold rgI;omega)
 have p2:=Gr (lo:=l.2.2.1) (hi:=l.2.2.2.1) (x:=b) (by unfold rgI;omega)
 have hb:BF (l5P a b l)=true:=by
  unfold BF l5P
  simp only
  exact decide_eq_true ⟨⟨⟨by omega,by omega⟩,by omega,by omega⟩,⟨⟨by omega,by omega⟩,by omega,by omega⟩,h3⟩
 unfold jA
 rw [if_pos hb]
 unfold l5P
 simp only
 rw [if_neg (Int.lt_irrefl _),if_neg (Int.lt_irrefl _)]
theorem akk {ops:List L5}{l:List Int}(h:lsE ops=0)(hi:inL ops.length l):lsE (pick ops l)=0:=by
 refine oR.2 fun o ho=>?_
 unfold pick at ho
 obtain⟨x,hx,rfl⟩:=List.mem_map.1 ho
 have:=hi x hx
 rw [List.getD_eq_getElem?_getD,List.getElem?_eq_getElem (by omega)]
 exact oR.1 h _ (List.getElem_mem _)
def wG (c:Nat)(l:List Int):List Int:=l.map fun x=>wA x (c:Int)
theorem Nd {c:Nat}(hc:0 < c)(l:List Int):inL c (wG c l):=by
 intro x hx
 obtain⟨y,_,rfl⟩:=List.mem_map.1 hx
 exact JP (by omega)
theorem abI {x m:Int}(h:0<=x/\x < m):wA x m=x:=by
 unfold wA
 have e:Int.tmod x m=x:=Int.tmod_eq_of_lt h.1 h.2
 rw [e,if_neg (by omega)]
theorem afi {c:Nat}{l:List Int}(h:inL c l):wG c l=l:=by
 unfold wG
 refine (List.map_congr_left fun x hx=>?_).trans (List.map_id _)
 exact abI (h x hx)
theorem apC {l:List Int}{i:Nat}(h:i < l.length){x:Option α}:ixK (l.map rI1) (i:Int) 1 x=x:=by
 unfold ixK
 have:decide (0<=(i:Int)/\(i:Int) < ((l.map rI1).length:Nat)/\(cV (l.map rI1) (i:Int).toNat).length=1)=true:=by
  refine decide_eq_true ⟨by omega,by rw [List.length_map];omega,?_⟩
  rw [Int.toNat_natCast]
  unfold cV
  rw [List.getD_eq_getElem?_getD,List.getElem?_map,List.getElem?_eq_getElem h]
  rfl
 rw [this]
theorem arf {l:List Int}{i:Nat}{x:Int}(h:l[i]?=some x){f:Int->Option α}:ldK (l.map rI1) i 0 [.int .i64] f=f x:=by
 have hl:=(List.getElem?_eq_some_iff.1 h).1
 have hr:cV (l.map rI1) i=rI1 x:=by
  unfold cV
  rw [List.getD_eq_getElem?_getD,List.getElem?_map,h];rfl
 unfold ldK
 rw [decide_eq_true (by rw [List.length_map];exact hl),hr]
 rfl
theorem aqv {ops:List L5}{own:Bool}{l:List Int}{a b:Int}(hops:lsE ops=0)(hl:l.length<=2)(hc:0 < ops.length)(hc2:ops.length<=3)(how:own=true->inL ops.length l)
  {k1:Option α} {k2:Int->Bool->ae->Option α} {K:List L5->Option α} (hk:∀ x b M,k2 x b (M.map rL)=K M) :
  ∀ (rest:List Int) (i n:Nat) (A:List L5),l.drop i=rest->i<=l.length->rest.length < n->A.length=i ->
  qC α own (ops.map rL) a b (l.map rI1) k1 k2 n (i:Int) (A.map rL)=K (A++(pick ops (wG ops.length rest)).map (l5P a b)):=by
 intro rest
 induction rest with
 | nil=>
  intro i n A hd hi hn hA
  obtain⟨n,rfl⟩:∃ n',n=n'+1:=⟨n - 1,by simp only [List.length_nil] at hn;omega⟩
  have hl:l.length<=i:=List.drop_eq_nil_iff.1 hd
  rw [qC]
  simp only [AT,List.length_map]
  rw [decide_eq_false (by omega),ap,hk]
  show _=K (A++[])
  rw [List.append_nil]
 | cons x rs ih=>
  intro i n A hd hi hn hA
  obtain⟨n,rfl⟩:∃ n',n=n'+1:=⟨n - 1,by omega⟩
  obtain⟨hg,hd'⟩:=fX hd
  have hl':i < l.length:=(List.getElem?_eq_some_iff.1 hg).1
  have hw:w64 ((i:Int)+1)=((i+1:Nat):Int):=by rw [ak (by omega) (by omega)];omega
  have hn':rs.length < n:=by simp only [List.length_cons] at hn;omega
  have hm:=JP (x:=x) (m:=(ops.length:Int)) (by omega)
  obtain⟨m,hme⟩:∃ m:Nat,wA x (ops.length:Int)=(m:Int):=⟨(wA x ops.length).toNat,by omega⟩
  rw [hme] at hm
  have hom:ops[m]?=some (ops.getD m (0,0,0,0,0)):=by
   rw [List.getD_eq_getElem?_getD,List.getElem?_eq_getElem (by omega)];rfl
  obtain⟨g1,g2⟩:=NM hops hom
  have hJ:∀ {kF:Option α} {kG:Bool->Option α},uS α own (i:Int) (ops.map rL) (l.map rI1) kF kG=kG false:=fun {kF kG}=>by
   rw [uS,af,Nj]
   cases own with
   | false=>rfl
   | true=>
    have:=how rfl x (List.mem_of_getElem? hg)
    rw [aq,apC hl',Int.toNat_natCast,arf hg,qj,List.length_map,ak (by omega) (by omega),decide_eq_true (by omega)]
    rfl
  rw [qC]
  simp only [AT,List.length_map,Int.toNat_natCast]
  rw [decide_eq_true (by omega),aq,decide_eq_true (by omega),aq,hJ,apC hl',arf hg,ST (by omega) (by omega),hme,Jc hom]
  generalize ho:ops.getD m (0,0,0,0,0)=o at *
  rw [SP g1,SP g2]
  change gK (dv 5 40 (A.map rL) [rL (l5P a b o)]) (qC α own _ _ _ _ k1 k2 n _ (A.map rL++[rL (l5P a b o)]))=_
  have e:A.map rL++[rL (l5P a b o)]=(A++[l5P a b o]).map rL:=by rw [List.map_append];rfl
  rw [cJ (ap5 (by omega)),hw,e,ih (i+1) n (A++[l5P a b o]) hd' (by omega) hn' (by rw [List.length_append,List.length_cons,List.length_nil];omega)]
  show K (A++[l5P a b o]++_)=K (A++(l5P a b (ops.getD (wA x (ops.length:Int)).toNat (0,0,0,0,0))::(pick ops (wG ops.length rs)).map (l5P a b)))
  rw [hme,Int.toNat_natCast,ho,List.append_assoc];rfl
theorem aa0 {l:List Int}(h:l.length<=100){k:ae->Option α}:vX α (l.map rI1) k=k (l.map rI1):=by
 rw [vX,af,XQ,cJ (lN (enc:=rI1) (fun _=>rfl) (by simp only [List.length_nil];omega) (by simp only [List.length_nil];omega)),List.nil_append]
theorem alM {ds:List Dm}{ls:List L5}(hd:ds.length<=10)(h:ls.length<=42){k:ae->ae->Option α}:H8 α (ds.map rD) (ls.map rL) k=k (ds.map rD) (ls.map rL):=by
 rw [H8,af,UL,cJ (lN (enc:=rD) (fun _=>rfl) (by simp only [List.length_nil];omega) (by simp only [List.length_nil];omega)),aiP h,List.nil_append]
theorem ahG {d:Dm}{L:List L5}{xs:List (Int × Int × Int)}{oi ol:Int}(hd:ckD d=0)(hx:DM L xs)(h:(fH L oi ol [d] 2 0).1=0) :
  ∃ w s,d.pc.has w s/\((gL (ptD d w s xs oi ol) d.sh).n*10000 < (gL (ptD d w s xs oi ol) d.sh).d*(d.lo*1048576)\/(gL (ptD d w s xs oi ol) d.sh).d*(d.hi*1048576) < (gL (ptD d w s xs oi ol) d.sh).n*10000) /\
   ∀ xs',DM L xs'->((gL (ptD d w s xs' oi ol) d.sh).n*10000 < (gL (ptD d w s xs' oi ol) d.sh).d*(d.lo*1048576)\/(gL (ptD d w s xs' oi ol) d.sh).d*(d.hi*1048576) < (gL (ptD d w s xs' oi ol) d.sh).n*10000):=by
 obtain⟨c1,c2,c3,c4⟩:=Vf hd
 obtain⟨j,d',g1,g2,g3⟩:=aet [d] 2 0 (by decide) h
 obtain rfl:d=d':=by
  cases j with
  | zero=>exact Option.some.inj g1
  | succ j=>simp at g1
 generalize (fH L oi ol [d] 2 0).2.2.1=w at g3
 generalize (fH L oi ol [d] 2 0).2.2.2=s at g3
 obtain⟨k3,k4⟩:=ali 5 d.pc w s c3 g3
 refine⟨w,s,k3,?_,fun xs' hx'=>?_⟩
 ·exact VN (d:=(Pc.mk w w s s).dm d) c4 ⟨rfl,⟨Int.le_refl _,Int.le_refl _⟩,rfl,⟨Int.le_refl _,Int.le_refl _⟩,hx,rfl,rfl⟩ k4
 ·exact VN (d:=(Pc.mk w w s s).dm d) c4 ⟨rfl,⟨Int.le_refl _,Int.le_refl _⟩,rfl,⟨Int.le_refl _,Int.le_refl _⟩,hx',rfl,rfl⟩ k4
theorem VL {d:Dm}{L:List L5}{xs:List (Int × Int × Int)}{oi ol w s:Int}(hd:ckD d=0)(hx:DM L xs)(h:(fH L oi ol [d] 2 0).1=2)(hp:d.pc.has w s) :
  (gL (ptD d w s xs oi ol) d.sh).d*(d.lo*1048576)<=(gL (ptD d w s xs oi ol) d.sh).n*10000/\(gL (ptD d w s xs oi ol) d.sh).n*10000<=(gL (ptD d w s xs oi ol) d.sh).d*(d.hi*1048576):=by
 obtain⟨c1,c2,c3,c4⟩:=Vf hd
 obtain⟨y,y1,y2⟩:=ady 5 d.pc ((XI [d] 2 0 h).2 d (List.mem_cons_self ..)) w s hp
 exact aeD (d:=y.dm d) c4 ⟨rfl,y1.2,rfl,y1.1,hx,rfl,rfl⟩ y2
theorem GO {v:Vl}{lo hi:Int}(h:v.n*10000 < v.d*(lo*1048576)\/v.d*(hi*1048576) < v.n*10000)(g:v.d*(lo*1048576)<=v.n*10000/\v.n*10000<=v.d*(hi*1048576)):False:=by
 obtain⟨g1,g2⟩:=g
 rcases h with h | h
 ·exact absurd g1 (Int.not_le.2 h)
 ·exact absurd g2 (Int.not_le.2 h)
theorem ahw {d:Dm}{ops:List L5}{oi ol a b:Int}{own:Bool}{nums:List Int}(hd:ckD d=0)(ho:(5000<=oi/\oi<=80000)/\0<=ol/\ol<=80000)(hops:lsE ops=0)(hc:0 < ops.length)(hc2:ops.length<=3)(hn:nums.length<=2)
  (how:own=true->inL ops.length nums) (h2:own=true->ln [d] ops oi ol nums=2) (h0:own=false->ln [d] ops oi ol (wG ops.length nums)=0) {k:Bool->Option α} :
  gK (dv 9 72 ([]:ae) ([d].map rD)) (nk α own (ops.map rL) a b (nums.map rI1) (k false) (fun x132 x133 x134=>BI α (([]:ae)++[d].map rD) x134 oi ol (fun x136 x137 x138 x139 x140 x141=>cK (x141 == 0) (cK own (cK (x136 != 0) (k true) (cK (!own) (k (x136 != 2)) (k false))) (cK (!own) (k (x136 != 2)) (k false))) (k false))) 0 ([]:ae))=k true:=by
 rw [cJ (lN (enc:=rD) (fun _=>rfl) (by simp) (by simp)),List.nil_append,nk,af,Nx]
 have hin:=Nd hc nums
 have hp0:=akk hops hin
 obtain⟨x1,x2⟩:=aqS (a:=a) (b:=b) hp0
 have hL0:lsE ((pick ops (wG ops.length nums)).map (l5P a b))=0:=oR.2 fun l hl=>by
  obtain⟨o,ho,rfl⟩:=List.mem_map.1 hl
  exact aik a b (oR.1 hp0 o ho)
 have hlen:((pick ops (wG ops.length nums)).map (l5P a b)).length<=40:=by
  unfold pick wG
  simp only [List.length_map]
  omega
 refine (aqv (K:=fun L=>BI α ([d].map rD) (L.map rL) oi ol (fun x136 x137 x138 x139 x140 x141=>cK (x141 == 0) (cK own (cK (x136 != 0) (k true) (cK (!own) (k (x136 != 2)) (k false))) (cK (!own) (k (x136 != 2)) (k false))) (k false))) hops hn hc hc2 how (fun _ _ _=>rfl) nums 0 aN [] rfl (Nat.zero_le _) (by have:=cB;omega) rfl).trans ?_
 rw [List.nil_append]
 obtain⟨tr,e⟩:=apW (α:=α) (ds:=[d]) (ls:=(pick ops (wG ops.length nums)).map (l5P a b)) (oi:=oi) (ol:=ol) (k:=fun x136 x137 x138 x139 x140 x141=>cK (x141 == 0) (cK own (cK (x136 != 0) (k true) (cK (!own) (k (x136 != 2)) (k false))) (cK (!own) (k (x136 != 2)) (k false))) (k false))
 refine e.trans ?_
 rw [if_pos (aiq hd ho hL0 hlen),show ((0:Int) == 0)=true from rfl,aq]
 generalize hq:fH ((pick ops (wG ops.length nums)).map (l5P a b)) oi ol [d] 2 0=q
 have hq0:q.1=0->own=true->False:=fun h hw=>by
  rw [<- hq] at h
  obtain⟨w,s,p1,p2,_⟩:=ahG hd x2 h
  have h2':=h2 hw
  unfold ln at h2'
  rw [<- afi (how hw)] at h2'
  exact GO p2 (VL hd x1 h2' p1)
 have hq2:q.1=2->own=false->False:=fun h hw=>by
  rw [<- hq] at h
  have h0':=h0 hw
  unfold ln at h0'
  obtain⟨w,s,p1,p2,_⟩:=ahG hd x1 h0'
  exact GO p2 (VL hd x2 h p1)
 cases own with
 | true=>
  rw [aq,bne_iff_ne.2 (fun h=>hq0 h rfl),aq]
 | false=>
  rw [ap,Bool.not_false,aq,bne_iff_ne.2 (fun h=>hq2 h rfl)]
theorem at0 (ds:List Dm)(ops:List L5)(oi ol most:Int)(lst:List Int)(a b:Int){k:Bool->Option α}:UH α (ds.map rD) (ops.map rL) oi ol most (lst.map rI1) a b k=k true:=by
 rw [UH,af,agX]
 show cK _ _ _=_
 rw [List.length_map,List.length_map,List.length_map,afO]
 by_cases c1:(ds.length:Int)=1
 ·rw [if_pos c1,bi]
  obtain⟨d,rfl⟩:∃ d,ds=[d]:=by
   match ds,c1 with
   | [d],_=>exact⟨d,rfl⟩
   | [],h=>simp at h
   | _::_::_,h=>simp at h;omega
  by_cases c2:2 < (ops.length:Int)
  ·rw [if_pos c2]
  ·rw [if_neg c2,bi]
   by_cases c3:2 < most
   ·rw [if_pos c3]
   ·rw [if_neg c3,bi]
    by_cases c4:2 < (lst.length:Int)
    ·rw [if_pos c4]
    ·rw [if_neg c4]
     obtain⟨e,he,heq⟩:=alj (α:=α) (d:=d) (ops:=ops) (oi:=oi) (ol:=ol) (most:=most)
     refine (heq (fun e=>_)).trans ?_
     rw [eE]
     by_cases ce:e=0
     ·rw [if_pos ce]
      have hs:=he ce
      have hne:ops.length ≠ 0:=fun e=>hs.ne (List.eq_nil_of_length_eq_zero e)
      rw [ER,af,PJ,alM (by simp) (by omega)]
      rcases ajz (α:=α) hs (by omega) (by omega) (k1:=_) (k2:=_) with ⟨e',h',g⟩ | ⟨N,l,hN,hl,hl2,hl0,tr,P,g⟩
      ·rw [g]
       rcases h' with rfl | rfl <;> rfl
      ·rw [g]
       clear g
       obtain⟨l1,l2⟩:=Lg (by omega) hN l hl
       rw [aa0 (by omega),List.length_map]
       rw [Ej,af,Ny]
       by_cases co:(l.length:Int)<=(lst.length:Int)
       ·rw [decide_eq_true co,aq,aa0 (by omega)]
        exact ahw hs.cd hs.on hs.cl (by omega) (by omega) (by omega) (fun _=>l2) (fun _=>hl2) (fun h=>by cases h)
       ·rw [decide_eq_false co,ap]
        exact ahw hs.cd hs.on hs.cl (by omega) (by omega) (by omega) (fun h=>by cases h) (fun h=>by cases h) (fun _=>hl0 lst.length (by omega) _ (aem (by omega) (by omega) (by unfold wG;rw [List.length_map]) (Nd (by omega) lst)))
     ·rw [if_neg ce]
 ·rw [if_neg c1]
end Go.AM.K
