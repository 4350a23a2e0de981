/- What is proved for boxes holds for all layers in them: the law. -/
import Derived.Test.YtmcplmhohldpjaaGreatT3x
import Derived.Test.YtmcplmhohldpjaaGreatRl
namespace Go.AM.K
set_option linter.unusedVariables false
set_option linter.unusedSimpArgs false
variable {α:Type}
def modE (x m:Int):Int:=if Int.tmod x m < 0 then Int.tmod x m+m else Int.tmod x m
theorem tmod_bd {x m:Int}(h:0 < m):-m < Int.tmod x m/\Int.tmod x m < m:=by
 have e:(Int.tmod x m).natAbs=x.natAbs % m.natAbs:=Int.natAbs_tmod ..
 have:=Nat.mod_lt x.natAbs (show m.natAbs > 0 by omega)
 omega
theorem mod_bd {x m:Int}(h:0 < m):0<=modE x m/\modE x m < m:=by
 have:=tmod_bd (x:=x) h
 unfold modE
 split <;> omega
theorem f19_eq {x m:Int}(h:0 < m)(h2:m<=4611686018427387904){k:Int->Option α}:f19_0 α x m k=k (modE x m):=by
 have:=tmod_bd (x:=x) h
 rw [f19_0,sld_eq,f19_0g,gK_of (bne_iff_ne.2 (by omega)),cK_dec]
 unfold modE
 by_cases c:Int.tmod x m < 0
 ·rw [if_pos c,if_pos c,w64_in (by omega) (by omega)]
 ·rw [if_neg c,if_neg c]
def ptI (lo hi at_:Int):Int:=lo+modE at_ (hi - lo+1)
def rgI (lo hi:Int):Prop:=0<=lo/\lo<=hi/\hi<=1000000000
theorem pt_bd {lo hi x:Int}(h:rgI lo hi):lo<=ptI lo hi x/\ptI lo hi x<=hi:=by
 unfold rgI at h
 have:=mod_bd (x:=x) (m:=hi - lo+1) (by omega)
 unfold ptI
 omega
theorem f11_eq {lo hi x:Int}(h:rgI lo hi){k:Int->Int->Option α}:f11_0 α lo hi x k=k (ptI lo hi x) (ptI lo hi x):=by
 have h':=h
 unfold rgI at h'
 have hb:=pt_bd (x:=x) h
 rw [f11_0,sld_eq,f11_0g,w64_in (n:=hi - lo) (by omega) (by omega),w64_in (n:=hi - lo+1) (by omega) (by omega),f19_eq (by omega) (by omega)]
 unfold ptI at hb ⊢
 rw [w64_in (by omega) (by omega)]
theorem ix_L {L:List L5}{i:Nat}(h:i < L.length){x:Option α}:ixK (L.map rL) (i:Int) 5 x=x:=by
 unfold ixK
 have:decide (0<=(i:Int)/\(i:Int) < ((L.map rL).length:Nat)/\(rowAt (L.map rL) (i:Int).toNat).length=5)=true:=by
  refine decide_eq_true ⟨by omega,by rw [List.length_map];omega,?_⟩
  rw [Int.toNat_natCast]
  unfold rowAt
  rw [List.getD_eq_getElem?_getD,List.getElem?_map,List.getElem?_eq_getElem h]
  rfl
 rw [this]
theorem rowAt_L {L:List L5}{i:Nat}{l:L5}(h:L[i]?=some l):rowAt (L.map rL) i=rL l:=by
 unfold rowAt
 rw [List.getD_eq_getElem?_getD,List.getElem?_map,h];rfl
theorem ld_L0 {L:List L5}{i:Nat}{l:L5}(h:L[i]?=some l){f:Int->Int->Option α}:ldK (L.map rL) i 0 [.int .i64,.int .i64] f=f l.1 l.2.1:=by
 have hl:=(List.getElem?_eq_some_iff.1 h).1
 unfold ldK
 rw [decide_eq_true (by rw [List.length_map];exact hl),rowAt_L h]
 rfl
theorem ld_L2 {L:List L5}{i:Nat}{l:L5}(h:L[i]?=some l){f:Int->Int->Option α}:ldK (L.map rL) i 2 [.int .i64,.int .i64] f=f l.2.2.1 l.2.2.2.1:=by
 have hl:=(List.getElem?_eq_some_iff.1 h).1
 unfold ldK
 rw [decide_eq_true (by rw [List.length_map];exact hl),rowAt_L h]
 rfl
theorem st_L {L:List L5}{i o:Nat}(h:i < L.length)(ho:o<=3){x:Option α}:stK (L.map rL) i o 2 x=x:=by
 unfold stK
 have:decide (i < (L.map rL).length/\o+2<=(rowAt (L.map rL) i).length)=true:=by
  refine decide_eq_true ⟨by rw [List.length_map];exact h,?_⟩
  rw [rowAt_L (List.getElem?_eq_getElem h)]
  show o+2<=5
  omega
 rw [this]
theorem set_L0 {L:List L5}{i:Nat}{l:L5}(h:L[i]?=some l){a b:Int}:List.set (L.map rL) i (splice (rowAt (L.map rL) i) 0 [DC.v (.int .i64 a),DC.v (.int .i64 b)])=(L.set i (a,b,l.2.2)).map rL:=by
 rw [rowAt_L h,List.map_set];rfl
theorem set_L2 {L:List L5}{i:Nat}{l:L5}(h:L[i]?=some l){a b:Int}:List.set (L.map rL) i (splice (rowAt (L.map rL) i) 2 [DC.v (.int .i64 a),DC.v (.int .i64 b)])=(L.set i (l.1,l.2.1,a,b,l.2.2.2.2)).map rL:=by
 rw [rowAt_L h,List.map_set];rfl
def l5P (a b:Int)(l:L5):L5:=(ptI l.1 l.2.1 a,ptI l.1 l.2.1 a,ptI l.2.2.1 l.2.2.2.1 b,ptI l.2.2.1 l.2.2.2.1 b,l.2.2.2.2)
theorem rowE_ok {ls:List L5}(h:lsE ls=0):∀ {i:Nat} {l:L5},ls[i]?=some l->rgI l.1 l.2.1/\rgI l.2.2.1 l.2.2.2.1:=by
 induction ls with
 | nil=>intro i l hl;simp at hl
 | cons x xs ih=>
  intro i l hl
  unfold lsE at h
  by_cases c:rowE x=0
  ·rw [if_pos c] at h
   cases i with
   | zero=>
    simp only [List.getElem?_cons_zero,Option.some.injEq] at hl
    subst hl
    unfold rowE at c
    by_cases c2:rowB x=true
    ·rw [if_pos c2] at c
     have hb:=of_decide_eq_true c2
     by_cases c3:x.2.1 < x.1
     ·rw [if_pos c3] at c;exact absurd c (by decide)
     ·rw [if_neg c3] at c
      by_cases c4:x.2.2.2.1 < x.2.2.1
      ·rw [if_pos c4] at c;exact absurd c (by decide)
      ·unfold rgI;omega
    ·rw [if_neg c2] at c;exact absurd c (by decide)
   | succ i=>exact ih h (by simpa using hl)
  ·rw [if_neg c] at h;exact absurd h c
theorem R3a_go {ls:List L5}(hls:lsE ls=0)(hlen:ls.length<=40){a b:Int}{k1:Int->Bool->Rows->Option α}{Y:Option α}(hk:∀ i c,k1 i c ((ls.map (l5P a b)).map rL)=Y) :
  ∀ (m i n:Nat) (L:List L5),i+m=ls.length->m < n->L.length=ls.length->(∀ j,j < i->L[j]?=(ls.map (l5P a b))[j]?)->(∀ j,i<=j->L[j]?=ls[j]?) ->
  R3_0_0 α a b k1 n (i:Int) (L.map rL)=Y:=by
 intro m
 induction m with
 | zero=>
  intro i n L hi hn hL h1 h2
  obtain⟨n,rfl⟩:∃ n',n=n'+1:=⟨n - 1,by omega⟩
  have:L=ls.map (l5P a b):=by
   refine List.ext_getElem? fun j=>?_
   by_cases hj:j < i
   ·exact h1 j hj
   ·rw [List.getElem?_eq_none_iff.2 (by omega),List.getElem?_eq_none_iff.2 (by rw [List.length_map];omega)]
  subst this
  rw [R3_0_0]
  simp only [S3_0_0,List.length_map]
  rw [decide_eq_false (by omega),cK_false,hk]
 | succ m ih=>
  intro i n L hi hn hL h1 h2
  obtain⟨n,rfl⟩:∃ n',n=n'+1:=⟨n - 1,by omega⟩
  have hiL:i < L.length:=by omega
  obtain⟨l,hl⟩:∃ l,ls[i]?=some l:=⟨ls[i]'(by omega),List.getElem?_eq_getElem (by omega)⟩
  have hlL:L[i]?=some l:=by rw [h2 i (Nat.le_refl _),hl]
  obtain⟨g1,g2⟩:=rowE_ok hls hl
  have hw:w64 ((i:Int)+1)=((i+1:Nat):Int):=by rw [w64_in (by omega) (by omega)];omega
  rw [R3_0_0]
  simp only [S3_0_0,List.length_map,Int.toNat_natCast]
  rw [decide_eq_true (by omega),cK_true,ix_L hiL,ld_L0 hlL,f11_eq g1,ix_L hiL,ld_L2 hlL,f11_eq g2,ix_L hiL,st_L hiL (by decide),set_L0 hlL]
  have hi2:i < (L.set i (ptI l.1 l.2.1 a,ptI l.1 l.2.1 a,l.2.2)).length:=by rw [List.length_set];exact hiL
  have hl2:(L.set i (ptI l.1 l.2.1 a,ptI l.1 l.2.1 a,l.2.2))[i]?=some (ptI l.1 l.2.1 a,ptI l.1 l.2.1 a,l.2.2):=by rw [List.getElem?_set_self hiL]
  rw [ix_L hi2,st_L hi2 (by decide),set_L2 hl2,List.set_set,hw]
  refine ih (i+1) n _ (by omega) (by omega) (by rw [List.length_set];exact hL) (fun j hj=>?_) (fun j hj=>?_)
  ·by_cases e:j=i
   ·subst e
    rw [List.getElem?_set_self hiL,List.getElem?_map,hl];rfl
   ·rw [List.getElem?_set_ne (by omega)]
    exact h1 j (by omega)
  ·rw [List.getElem?_set_ne (by omega)]
   exact h2 j (by omega)
theorem out_no {v:Vl}{rlo rhi lo hi:Int}(h:v.In rlo rhi)(h1:v.d*(lo*1048576)<=v.n*10000)(h2:v.n*10000<=v.d*(hi*1048576)):¬ rhi*10000 < lo*1048576/\¬ hi*1048576 < rlo*10000:=by
 obtain⟨v1,v2⟩:=h
 have hd:=v.h
 have e1:v.d*(rhi*10000)=v.d*rhi*10000:=by grind
 have e2:v.d*(rlo*10000)=v.d*rlo*10000:=by grind
 have a1:lo*1048576<=rhi*10000:=Int.le_of_mul_le_mul_left (a:=v.d) (by omega) hd
 have a2:rlo*10000<=hi*1048576:=Int.le_of_mul_le_mul_left (a:=v.d) (by omega) hd
 omega
theorem kept_no {v:Vl}{rlo rhi lo hi:Int}(h:v.In rlo rhi)(h1:v.n*10000 < v.d*(lo*1048576)\/v.d*(hi*1048576) < v.n*10000):¬ (lo*1048576<=rlo*10000/\rhi*10000<=hi*1048576):=by
 obtain⟨v1,v2⟩:=h
 have hd:=v.h
 intro ⟨c1,c2⟩
 have a1:=Int.mul_le_mul_of_nonneg_left c1 (Int.le_of_lt hd)
 have a2:=Int.mul_le_mul_of_nonneg_left c2 (Int.le_of_lt hd)
 have e1:v.d*(rhi*10000)=v.d*rhi*10000:=by grind
 have e2:v.d*(rlo*10000)=v.d*rlo*10000:=by grind
 omega
def xsP (a b:Int)(ls:List L5):List (Int × Int × Int):=ls.map fun l=>(ptI l.1 l.2.1 a,ptI l.2.2.1 l.2.2.2.1 b,l.2.2.2.2)
theorem xs_at {a b:Int}:∀ {ls:List L5},lsE ls=0->LsAt ls (xsP a b ls)/\LsAt (ls.map (l5P a b)) (xsP a b ls):=by
 intro ls
 induction ls with
 | nil=>intro _;exact⟨trivial,trivial⟩
 | cons l rs ih=>
  intro h
  have h0:=rowE_ok h (i:=0) rfl
  have hr:lsE rs=0:=by
   unfold lsE at h
   by_cases c:rowE l=0
   ·rw [if_pos c] at h;exact h
   ·rw [if_neg c] at h;exact absurd h c
  obtain⟨i1,i2⟩:=ih hr
  have p1:=pt_bd (x:=a) h0.1
  have p2:=pt_bd (x:=b) h0.2
  exact⟨⟨⟨p1,p2,rfl⟩,i1⟩,⟨⟨⟨Int.le_refl _,Int.le_refl _⟩,⟨Int.le_refl _,Int.le_refl _⟩,rfl⟩,i2⟩⟩
def ptD (d:Dm)(w s:Int)(xs:List (Int × Int × Int))(oi ol:Int):Pt:=⟨d.ix,s,d.pol,w,xs,oi,ol⟩
def askP (d:Dm)(w s:Int)(L:List L5)(oi ol:Int):Ask:=⟨d.ix,s,s,d.pol,w,w,L,oi,ol⟩
theorem askP_in {d:Dm}{w s:Int}{L:List L5}{xs:List (Int × Int × Int)}{oi ol:Int}(h:LsAt L xs)(h0:(sharesE (askP d w s L oi ol)).2=0) :
  (valZ (ptD d w s xs oi ol) d.sh).In (selE d.sh (sharesE (askP d w s L oi ol)).1).1 (selE d.sh (sharesE (askP d w s L oi ol)).1).2/\unitI (selE d.sh (sharesE (askP d w s L oi ol)).1).1/\unitI (selE d.sh (sharesE (askP d w s L oi ol)).1).2:=by
 have hck:ckA (askP d w s L oi ol)=0:=by
  by_cases c:ckA (askP d w s L oi ol)=0
  ·exact c
  ·unfold sharesE at h0
   rw [if_neg c] at h0
   exact absurd h0 c
 have hA:AskAt (askP d w s L oi ol) (ptD d w s xs oi ol):=⟨rfl,⟨Int.le_refl _,Int.le_refl _⟩,rfl,⟨Int.le_refl _,Int.le_refl _⟩,h,rfl,rfl,hck⟩
 exact⟨sel_in (shares_in hA h0),sel_u (shares_u _)⟩
theorem f13_eq {q:Q6}{sh:Int}(hs:0<=sh/\sh<=2){k:Int->Int->Option α}:f13_0 α q.1 q.2.1 q.2.2.1 q.2.2.2.1 q.2.2.2.2.1 q.2.2.2.2.2 sh k=k (selE sh q).1 (selE sh q).2:=by
 rw [f13_0,sld_eq,f13_0g]
 unfold selE
 by_cases c0:sh=0
 ·subst c0;rfl
 ·by_cases c1:sh=1
  ·subst c1;rfl
  ·have:sh=2:=by omega
   subst this;rfl
theorem J3_2_eq {lo hi a b:Int}(h1:0<=lo/\lo<=10000)(h2:0<=hi/\hi<=10000)(h3:unitI a)(h4:unitI b){k:Bool->Option α}:J3_0_2 α lo hi a b k=k (decide (b*10000 < lo*1048576\/hi*1048576 < a*10000)):=by
 unfold unitI at h3 h4
 rw [J3_0_2,sld_eq,J3_0_2g,w64_in (n:=b*10000) (by omega) (by omega),w64_in (n:=lo*1048576) (by omega) (by omega),w64_in (n:=hi*1048576) (by omega) (by omega),w64_in (n:=a*10000) (by omega) (by omega)]
 by_cases c:b*10000 < lo*1048576
 ·rw [decide_eq_true c,cK_true,decide_eq_true (Or.inl c)]
 ·rw [decide_eq_false c,cK_false]
  by_cases c2:hi*1048576 < a*10000
  ·rw [decide_eq_true c2,decide_eq_true (Or.inr c2)]
  ·rw [decide_eq_false c2,decide_eq_false (fun h=>h.elim c c2)]
theorem J3_3_eq {lo hi a b:Int}(h1:0<=lo/\lo<=10000)(h2:0<=hi/\hi<=10000)(h3:unitI a)(h4:unitI b){k:Bool->Option α}:J3_0_3 α lo hi a b k=k (decide (lo*1048576<=a*10000/\b*10000<=hi*1048576)):=by
 unfold unitI at h3 h4
 rw [J3_0_3,sld_eq,J3_0_3g,w64_in (n:=b*10000) (by omega) (by omega),w64_in (n:=lo*1048576) (by omega) (by omega),w64_in (n:=hi*1048576) (by omega) (by omega),w64_in (n:=a*10000) (by omega) (by omega)]
 exact and_k
theorem J3_4_eq {a:Int}{x y:Bool}(h2:a=2->x=false)(h0:a=0->y=false){k:Bool->Option α}:J3_0_4 α a x y k=k false:=by
 rw [J3_0_4,sld_eq,J3_0_4g]
 by_cases c2:a=2
 ·rw [h2 c2];subst c2;rfl
 ·rw [beq_eq_false_iff_ne.2 c2,cK_false]
  by_cases c0:a=0
  ·rw [h0 c0];subst c0;rfl
  ·rw [beq_eq_false_iff_ne.2 c0,cK_false]
theorem ansT_yes {ls:List L5}{oi ol:Int}:∀ (rest:List Dm) (a:Int) (i:Nat),(ansT ls oi ol rest a i).1=2->a=2/\∀ d ∈ rest,vis d ls oi ol 5 d.pc=(none,false):=by
 intro rest
 induction rest with
 | nil=>intro a i h;exact⟨h,fun d hd=>by cases hd⟩
 | cons d rs ih=>
  intro a i h
  rw [ansT] at h
  cases hv:(vis d ls oi ol 5 d.pc).1 with
  | some m=>rw [hv] at h;exact absurd h (show ¬ (0:Int)=2 by decide)
  | none=>
   rw [hv] at h
   simp only at h
   obtain⟨h1,h2⟩:=ih _ _ h
   by_cases c:(vis d ls oi ol 5 d.pc).2=true
   ·rw [if_pos c] at h1;exact absurd h1 (by decide)
   ·rw [if_neg c] at h1
    refine⟨h1,fun e he=>?_⟩
    rcases List.mem_cons.1 he with rfl | he
    ·exact Prod.ext hv (by simpa using c)
    ·exact h2 e he
theorem ansT_no {ls:List L5}{oi ol:Int}:∀ (rest:List Dm) (a:Int) (i:Nat),a ≠ 0->(ansT ls oi ol rest a i).1=0->∃ (j:Nat) (d:Dm),rest[j]?=some d/\(ansT ls oi ol rest a i).2.1=((i+j:Nat):Int) /\
  (vis d ls oi ol 5 d.pc).1=some ((ansT ls oi ol rest a i).2.2.1,(ansT ls oi ol rest a i).2.2.2):=by
 intro rest
 induction rest with
 | nil=>intro a i ha h;exact absurd h ha
 | cons d rs ih=>
  intro a i ha h
  rw [ansT] at h ⊢
  cases hv:(vis d ls oi ol 5 d.pc).1 with
  | some m=>
   simp only
   exact⟨0,d,rfl,rfl,hv⟩
  | none=>
   rw [hv] at h
   simp only at h ⊢
   have ha':(if (vis d ls oi ol 5 d.pc).2=true then (1:Int) else a) ≠ 0:=by
    by_cases c:(vis d ls oi ol 5 d.pc).2=true
    ·rw [if_pos c];decide
    ·rw [if_neg c];exact ha
   obtain⟨j,e,h1,h2,h3⟩:=ih _ (i+1) ha' h
   exact⟨j+1,e,by simpa using h1,by rw [h2];omega,h3⟩
theorem cK_bne3 {a b:Int}{x y:Option α}:cK (a != b) x y=if a=b then y else x:=by
 by_cases h:a=b
 ·rw [if_pos h,h,show (b != b)=false by simp];rfl
 ·rw [if_neg h,bne_iff_ne.2 h,cK_true]
theorem share_step {d:Dm}{w s:Int}{L:List L5}{xs:List (Int × Int × Int)}{oi ol a:Int}(hd:ckD d=0)(h:LsAt L xs)
  (hy:a=2->(valZ (ptD d w s xs oi ol) d.sh).d*(d.lo*1048576)<=(valZ (ptD d w s xs oi ol) d.sh).n*10000/\(valZ (ptD d w s xs oi ol) d.sh).n*10000<=(valZ (ptD d w s xs oi ol) d.sh).d*(d.hi*1048576))
  (hn:a=0->(valZ (ptD d w s xs oi ol) d.sh).n*10000 < (valZ (ptD d w s xs oi ol) d.sh).d*(d.lo*1048576)\/(valZ (ptD d w s xs oi ol) d.sh).d*(d.hi*1048576) < (valZ (ptD d w s xs oi ol) d.sh).n*10000)
  {K2:Int->Int->Int->Int->Int->Int->Int->Option α} {K3:Option α} {K4:Bool->Option α} {Y:Option α} (h2:∀ a b c d e f g,K2 a b c d e f g=Y) (h4:K4 false=Y) :
  f12_0 α d.ix s s d.pol w w (L.map rL) oi ol (fun a1 a2 a3 a4 a5 a6 e=>cK (e != 0) (K2 a1 a2 a3 a4 a5 a6 e) (f13_0 α a1 a2 a3 a4 a5 a6 d.sh fun lo hi=>J3_0_2 α d.lo d.hi lo hi fun x=>J3_0_3 α d.lo d.hi lo hi fun y=>J3_0_4 α a x y fun z=>cK z K3 (K4 z)))=Y:=by
 refine (f12_bn (askP d w s L oi ol)).trans ?_
 unfold KS
 simp only
 rw [cK_bne]
 by_cases c:(sharesE (askP d w s L oi ol)).2=0
 ·rw [if_pos c]
  obtain⟨v,u1,u2⟩:=askP_in h c
  obtain⟨g1,_,_,g4⟩:=ck_bd hd
  unfold okD at g4
  rw [f13_eq g1,J3_2_eq g4.1 g4.2 u1 u2,J3_3_eq g4.1 g4.2 u1 u2,J3_4_eq (fun e=>?_) (fun e=>?_),cK_false,h4]
  ·obtain⟨q1,q2⟩:=hy e
   obtain⟨o1,o2⟩:=out_no v q1 q2
   exact decide_eq_false (fun h=>h.elim o1 o2)
  ·exact decide_eq_false (kept_no v (hn e))
 ·rw [if_neg c,h2]
theorem copy_L {ls:List L5}(h:ls.length<=42){k:Rows->Option α}:f10_0 α (ls.map rL) k=k (ls.map rL):=by
 rw [f10_0,sld_eq,f10_0g,gK_of (apOk_of (enc:=rL) (fun _=>rfl) (by simp only [List.length_nil];omega) (by simp only [List.length_nil];omega)),List.nil_append]
theorem copy_T {ds:List Dm}{ls:List L5}(hd:ds.length<=10)(h:ls.length<=42){k:Rows->Rows->Option α}:f9_0 α (ds.map rD) (ls.map rL) k=k (ds.map rD) (ls.map rL):=by
 rw [f9_0,sld_eq,f9_0g,gK_of (apOk_of (enc:=rD) (fun _=>rfl) (by simp only [List.length_nil];omega) (by simp only [List.length_nil];omega)),copy_L h,List.nil_append]
theorem flat_L {ls:List L5}{x:Option α}:flatK [ls.map rL] x=x:=flatK_map (enc:=rL) (fun _=>rfl)
theorem R3b_go {ds:List Dm}{ls:List L5}{oi ol at0 at1 at2 at3 a pD pW pS:Int}(hds:ds.length<=8)(hck:∀ d ∈ ds,ckD d=0)(hls:lsE ls=0)(hlen:ls.length<=40)
  (hy:a=2->∀ d ∈ ds,vis d ls oi ol 5 d.pc=(none,false)) (hn:a=0->∀ (j:Nat) (d:Dm),ds[j]?=some d->pD=(j:Int)->(vis d ls oi ol 5 d.pc).1=some (pW,pS))
  {k1:Option α} {k2:Int->Bool->Option α} {Y:Option α} (h2:∀ x b,k2 x b=Y) :
  ∀ (rest:List Dm) (i n:Nat),ds.drop i=rest->i<=ds.length->rest.length < n ->
  R3_0_6 α a (ds.map rD) oi ol at0 at1 pD pW pS ((ls.map (l5P at2 at3)).map rL) k1 k2 n (i:Int)=Y:=by
 intro rest
 induction rest with
 | nil=>
  intro i n hd hi hn
  obtain⟨n,rfl⟩:∃ n',n=n'+1:=⟨n - 1,by simp only [List.length_nil] at hn;omega⟩
  have hl:ds.length<=i:=List.drop_eq_nil_iff.1 hd
  rw [R3_0_6]
  simp only [S3_0_6,List.length_map]
  rw [decide_eq_false (by omega),cK_false,h2]
 | cons d rs ih=>
  intro i n hd hi hnn
  obtain⟨n,rfl⟩:∃ n',n=n'+1:=⟨n - 1,by omega⟩
  obtain⟨hg,hd'⟩:=drop_split hd
  have hl':i < ds.length:=(List.getElem?_eq_some_iff.1 hg).1
  have hw:w64 ((i:Int)+1)=((i+1:Nat):Int):=by rw [w64_in (by omega) (by omega)];omega
  have hn':rs.length < n:=by simp only [List.length_cons] at hnn;omega
  have hmem:d ∈ ds:=List.mem_of_getElem? hg
  have hdk:=hck d hmem
  obtain⟨c1,c2,c3,c4⟩:=ck_bd hdk
  obtain⟨x1,x2⟩:=xs_at (a:=at2) (b:=at3) hls
  have hd1:(∀ w s,d.pc.has w s->DmAt ((Pc.mk w w s s).dm d) ls oi ol (ptD d w s (xsP at2 at3 ls) oi ol)):=
   fun w s _=>⟨rfl,⟨Int.le_refl _,Int.le_refl _⟩,rfl,⟨Int.le_refl _,Int.le_refl _⟩,x1,rfl,rfl⟩
  have rw1:rgI d.w1 d.w2/\rgI d.s1 d.s2:=by
   obtain⟨b1,b2,b3,b4⟩:=c2
   obtain⟨o1,o2⟩:=c3
   unfold Dm.pc bdI at *
   unfold rgI
   simp only at *
   omega
  have ih':R3_0_6 α a (ds.map rD) oi ol at0 at1 pD pW pS ((ls.map (l5P at2 at3)).map rL) k1 k2 n (w64 ((i:Int)+1))=Y:=by rw [hw];exact ih (i+1) n hd' (by omega) hn'
  rw [R3_0_6]
  simp only [S3_0_6,List.length_map]
  rw [decide_eq_true (by omega),cK_true,J3_0_5,sld_eq,J3_0_5g,row_D hg,f11_eq rw1.1,f11_eq rw1.2,J3_0_1,sld_eq,J3_0_1g]
  by_cases ca:a=0
  ·rw [beq_iff_eq.2 ca,cK_true,cK_bne3]
   by_cases cp:pD=(i:Int)
   ·rw [if_pos cp,copy_L (by rw [List.length_map];omega),flat_L]
    have hv:=hn ca i d hg cp
    obtain⟨k3,k4⟩:=vis_no 5 d.pc pW pS c3 hv
    exact share_step (xs:=xsP at2 at3 ls) hdk x2 (fun e=>absurd (ca.symm.trans e) (by decide)) (fun _=>ans_no (d:=(Pc.mk pW pW pS pS).dm d) c4 (hd1 pW pS k3) k4) (fun _ _ _ _ _ _ _=>ih') ih'
   ·rw [if_neg cp]
    exact ih'
  ·rw [beq_eq_false_iff_ne.2 ca,cK_false,copy_L (by rw [List.length_map];omega),flat_L]
   refine share_step (xs:=xsP at2 at3 ls) hdk x2 (fun e=>?_) (fun e=>absurd e ca) (fun _ _ _ _ _ _ _=>ih') ih'
   have p1:=pt_bd (x:=at0) rw1.1
   have p2:=pt_bd (x:=at1) rw1.2
   obtain⟨y,y1,y2⟩:=vis_yes 5 d.pc (hy e d hmem) (ptI d.w1 d.w2 at0) (ptI d.s1 d.s2 at1) ⟨p1,p2⟩
   exact ans_yes (d:=y.dm d) c4 ⟨rfl,y1.2,rfl,y1.1,x1,rfl,rfl⟩ y2
theorem few_eq {ds:List Dm}{ls:List L5}{k:Bool->Option α}:∃ b:Bool,(b=true->ds.length<=10/\ls.length<=42)/\f7_0 α (ds.map rD) (ls.map rL) k=k b:=by
 rw [f7_0,sld_eq,f7_0g,List.length_map,List.length_map]
 by_cases c1:(ds.length:Int)<=2
 ·rw [decide_eq_true c1,cK_true]
  by_cases c2:(ls.length:Int)<=3
  ·rw [decide_eq_true c2,cK_true]
   exact⟨true,fun _=>by omega,rfl⟩
  ·rw [decide_eq_false c2,cK_false]
   by_cases c3:40 < (ls.length:Int)
   ·rw [decide_eq_true c3,cK_true]
    exact⟨_,fun h=>by have:=of_decide_eq_true h;omega,rfl⟩
   ·rw [decide_eq_false c3,cK_false]
    exact⟨false,fun h=>(by cases h),rfl⟩
 ·rw [decide_eq_false c1,cK_false]
  by_cases c4:8 < (ds.length:Int)
  ·rw [decide_eq_true c4,cK_true]
   by_cases c5:(ds.length:Int)<=10
   ·rw [decide_eq_true c5,cK_true]
    by_cases c2:(ls.length:Int)<=3
    ·rw [decide_eq_true c2,cK_true]
     exact⟨true,fun _=>by omega,rfl⟩
    ·rw [decide_eq_false c2,cK_false]
     by_cases c3:40 < (ls.length:Int)
     ·rw [decide_eq_true c3,cK_true]
      exact⟨_,fun h=>by have:=of_decide_eq_true h;omega,rfl⟩
     ·rw [decide_eq_false c3,cK_false]
      exact⟨false,fun h=>(by cases h),rfl⟩
   ·rw [decide_eq_false c5,cK_false]
    exact⟨false,fun h=>(by cases h),rfl⟩
  ·rw [decide_eq_false c4,cK_false]
   exact⟨false,fun h=>(by cases h),rfl⟩
theorem law3 (ds:List Dm)(ls:List L5)(oi ol at0 at1 at2 at3:Int){k:Bool->Option α}:f3_0 α (ds.map rD) (ls.map rL) oi ol at0 at1 at2 at3 k=k true:=by
 rw [f3_0,sld_eq,f3_0g]
 show f7_0 α _ _ _=_
 obtain⟨b,hb,e⟩:=few_eq (α:=α) (ds:=ds) (ls:=ls) (k:=_)
 rw [e]
 clear e
 cases b with
 | false=>rfl
 | true=>
  obtain⟨h1,h2⟩:=hb rfl
  rw [Bool.not_true,cK_false,copy_T h1 h2]
  obtain⟨tr,e⟩:=f8_eq (α:=α) (ds:=ds) (ls:=ls) (oi:=oi) (ol:=ol) (k:=_)
  rw [e]
  clear e
  by_cases c:taskE ds ls oi ol=0
  ·rw [if_pos c]
   obtain⟨t1,t2,t3,t4⟩:=taskE_ok c
   show cK false _ (cK _ _ _)=_
   rw [cK_false]
   by_cases c1:(ansT ls oi ol ds 2 0).1=1
   ·rw [beq_iff_eq.2 c1,cK_true]
   ·rw [beq_eq_false_iff_ne.2 c1,cK_false,copy_L h2,L3_0_0,sld_eq,L3_0_0g]
    refine R3a_go t3 t4 (a:=at2) (b:=at3) (fun i c=>?_) ls.length 0 fuel ls (Nat.zero_add _) (by have:=fuel_ge;omega) rfl (fun j hj=>absurd hj (by omega)) (fun _ _=>rfl)
    rw [L3_0_6,sld_eq,L3_0_6g]
    refine R3b_go t1 t2 t3 t4 (fun e=>(ansT_yes ds 2 0 e).2) (fun e j d hj hp=>?_) (fun _ _=>rfl) ds 0 fuel rfl (Nat.zero_le _) (by have:=fuel_ge;omega)
    obtain⟨j',d',g1,g2,g3⟩:=ansT_no ds 2 0 (by decide) e
    have:j=j':=by rw [g2] at hp;omega
    subst this
    rw [hj] at g1
    obtain rfl:=Option.some.inj g1
    exact g3
  ·rw [if_neg c]
   show cK (_ != 0) _ _=_
   rw [bne_iff_ne.2 c,cK_true]
end Go.AM.K
