/- Chapter 8: the boxes of a design, partly grown. -/
import Derived.Test.YtmcplmhohldpjaaGreatT3x
namespace Go.AM.K
set_option linter.unusedVariables false
set_option linter.unusedSimpArgs false
variable {α:Type}
theorem wh {n lo hi:Int}{k:Bool->Option α}:qx α n lo hi k=k (decide (lo<=n/\n<=hi)):=by
 rw [qx,af,WX]
 exact HH
theorem afj {a b lo hi:Int}{k:Bool->Option α}:Bf α a b lo hi k=k (decide ((lo<=a/\a<=hi)/\lo<=b/\b<=hi)):=by
 rw [Bf,af,Rt,wh,wh]
 exact HH
theorem ajo {a b lo hi:Int}{k:Int->Option α}:GZ α a b lo hi k=k (il a b lo hi):=by
 rw [GZ,af,V9,afj,ji,bg]
 unfold il
 by_cases c:(lo<=a/\a<=hi)/\lo<=b/\b<=hi
 ·rw [if_pos c,if_pos c]
  by_cases c2:b < a
  ·rw [if_pos c2,if_pos c2]
  ·rw [if_neg c2,if_neg c2]
 ·rw [if_neg c,if_neg c]
abbrev D3:=Int × Int × Int
def vj (x:D3):Bool:=decide ((5000<=x.1/\x.1<=80000)/\(0<=x.2.1/\x.2.1<=80000)/\0<=x.2.2/\x.2.2<=1000000)
abbrev rT3 (x:D3):List DC:=[.v (.int .i64 x.1),.v (.int .i64 x.2.1),.v (.int .i64 x.2.2)]
abbrev rT2 (x:Int × Int):List DC:=[.v (.int .i64 x.1),.v (.int .i64 x.2)]
theorem Ql {l:List D3}{i:Nat}{x:D3}(h:l[i]?=some x){f:Int->Int->Int->Option α}:gq (l.map rT3) (i:Int) [.int .i64,.int .i64,.int .i64] f=f x.1 x.2.1 x.2.2:=by
 refine (lZ (r:=rT3 x) ?_).trans rfl
 rw [List.getElem?_map,h];rfl
theorem ahR {l:List (Int × Int)}{i:Nat}{x:Int × Int}(h:l[i]?=some x){f:Int->Int->Option α}:gq (l.map rT2) (i:Int) [.int .i64,.int .i64] f=f x.1 x.2:=by
 refine (lZ (r:=rT2 x) ?_).trans rfl
 rw [List.getElem?_map,h];rfl
theorem ae1 {l:List D3}(hl:l.length<=100){k1 Y:Option α}{k2:Int->Bool->Option α}(h2:∀ x b,k2 x b=Y) :
  ∀ (rest:List D3) (i n:Nat),l.drop i=rest->i<=l.length->rest.length < n->o9 α (l.map rT3) (l.length:Int) k1 k2 n (i:Int)=if rest.all vj=true then Y else k1:=by
 intro rest
 induction rest with
 | nil=>
  intro i n hd hi hn
  obtain⟨n,rfl⟩:∃ n',n=n'+1:=⟨n - 1,by simp only [List.length_nil] at hn;omega⟩
  have hl:l.length<=i:=List.drop_eq_nil_iff.1 hd
  rw [o9]
  simp only [tW]
  rw [decide_eq_false (by omega),am,h2]
  rfl
 | cons x rs ih=>
  intro i n hd hi hn
  obtain⟨n,rfl⟩:∃ n',n=n'+1:=⟨n - 1,by omega⟩
  obtain⟨hg,hd'⟩:=eG hd
  have hl':i < l.length:=(List.getElem?_eq_some_iff.1 hg).1
  have hw:w64 ((i:Int)+1)=((i+1:Nat):Int):=by rw [ak (by omega) (by omega)];omega
  have hn':rs.length < n:=by simp only [List.length_cons] at hn;omega
  rw [o9]
  simp only [tW]
  rw [decide_eq_true (by omega),aq,Ql hg,wh,ji,wh,ji,wh,ji,hw,ih (i+1) n hd' (by omega) hn']
  simp only [List.all_cons,Bool.and_eq_true]
  by_cases c1:5000<=x.1/\x.1<=80000
  ·rw [if_pos c1]
   by_cases c2:0<=x.2.1/\x.2.1<=80000
   ·rw [if_pos c2]
    by_cases c3:0<=x.2.2/\x.2.2<=1000000
    ·rw [if_pos c3]
     by_cases c4:rs.all vj=true
     ·rw [if_pos c4,if_pos ⟨decide_eq_true ⟨c1,c2,c3⟩,c4⟩]
     ·rw [if_neg c4,if_neg (fun h=>c4 h.2)]
    ·rw [if_neg c3,if_neg (fun h=>c3 (of_decide_eq_true h.1).2.2)]
   ·rw [if_neg c2,if_neg (fun h=>c2 (of_decide_eq_true h.1).2.1)]
  ·rw [if_neg c1,if_neg (fun h=>c1 (of_decide_eq_true h.1).1)]
def grL:List (Int × Int)->Int
 | []=>0
 | r::rs=>if il r.1 r.2 0 1000000=0 then grL rs else il r.1 r.2 0 1000000
theorem ac4 {l:List (Int × Int)}(hl:l.length<=100){k1:Int->Option α}{Y:Option α}{k2:Int->Bool->Option α}(h2:∀ x b,k2 x b=Y) :
  ∀ (rest:List (Int × Int)) (i n:Nat),l.drop i=rest->i<=l.length->rest.length < n->pZ α (l.map rT2) (l.length:Int) k1 k2 n (i:Int)=if grL rest=0 then Y else k1 (grL rest):=by
 intro rest
 induction rest with
 | nil=>
  intro i n hd hi hn
  obtain⟨n,rfl⟩:∃ n',n=n'+1:=⟨n - 1,by simp only [List.length_nil] at hn;omega⟩
  have hl:l.length<=i:=List.drop_eq_nil_iff.1 hd
  rw [pZ]
  simp only [sD]
  rw [decide_eq_false (by omega),am,h2]
  rfl
 | cons x rs ih=>
  intro i n hd hi hn
  obtain⟨n,rfl⟩:∃ n',n=n'+1:=⟨n - 1,by omega⟩
  obtain⟨hg,hd'⟩:=eG hd
  have hl':i < l.length:=(List.getElem?_eq_some_iff.1 hg).1
  have hw:w64 ((i:Int)+1)=((i+1:Nat):Int):=by rw [ak (by omega) (by omega)];omega
  have hn':rs.length < n:=by simp only [List.length_cons] at hn;omega
  rw [pZ]
  simp only [sD]
  rw [decide_eq_true (by omega),aq,ahR hg,ajo,fG,hw,ih (i+1) n hd' (by omega) hn',grL]
  by_cases c:il x.1 x.2 0 1000000=0
  ·rw [if_pos c,if_pos c]
  ·rw [if_neg c,if_neg c,if_neg c]
def zb:List D3->List (Int × Int)->List L5
 | x::xs,r::rs=>(x.1,x.1,r.1,r.2,x.2.1)::zb xs rs
 | _,_=>[]
theorem ap5 {A:List L5}{l:L5}(h:A.length<=100):fj 5 40 (A.map rL) [rL l]=true:=by
 refine decide_eq_true ⟨rfl,?_,?_⟩
 ·simp only [List.length_map,List.length_cons,List.length_nil];omega
 ·simp only [List.length_map,List.length_cons,List.length_nil];omega
theorem G8 {A:List L5}{l:L5}:A.map rL++[rL l]=(A++[l]).map rL:=by rw [List.map_append];rfl
theorem afO {des:List D3}{gr:List (Int × Int)}(hd:des.length<=40)(hle:gr.length<=des.length){Y:List L5->Option α}{k1:Int->Bool->ae->Option α}(h1:∀ x b A,A.length<=100->k1 x b (A.map rL)=Y A) :
  ∀ (rest:List (Int × Int)) (i n:Nat) (A:List L5),gr.drop i=rest->i<=gr.length->rest.length < n->A.length=i ->
  mD α (gr.map rT2) (gr.length:Int) (des.map rT3) k1 n (i:Int) (A.map rL)=Y (A++zb (des.drop i) rest):=by
 intro rest
 induction rest with
 | nil=>
  intro i n A hdr hi hn hA
  obtain⟨n,rfl⟩:∃ n',n=n'+1:=⟨n - 1,by simp only [List.length_nil] at hn;omega⟩
  have hl:gr.length<=i:=List.drop_eq_nil_iff.1 hdr
  rw [mD]
  simp only [sT]
  rw [decide_eq_false (by omega),am,h1 _ _ _ (by omega)]
  have:zb (des.drop i) []=[]:=by cases des.drop i <;> rfl
  rw [this,List.append_nil]
 | cons x rs ih=>
  intro i n A hdr hi hn hA
  obtain⟨n,rfl⟩:∃ n',n=n'+1:=⟨n - 1,by omega⟩
  obtain⟨hg,hd'⟩:=eG hdr
  have hl':i < gr.length:=(List.getElem?_eq_some_iff.1 hg).1
  have hw:w64 ((i:Int)+1)=((i+1:Nat):Int):=by rw [ak (by omega) (by omega)];omega
  have hn':rs.length < n:=by simp only [List.length_cons] at hn;omega
  obtain⟨y,hy⟩:∃ y,des[i]?=some y:=⟨des[i]'(by omega),List.getElem?_eq_getElem (by omega)⟩
  have hdd:des.drop i=y::des.drop (i+1):=by
   obtain⟨h1,h2⟩:=List.getElem?_eq_some_iff.1 hy
   rw [List.drop_eq_getElem_cons h1,h2]
  rw [mD]
  simp only [sT]
  rw [decide_eq_true (by omega),aq,ahR hg,Ql hy]
  change gK (fj 5 40 (A.map rL) [rL (y.1,y.1,x.1,x.2,y.2.1)]) (mD α _ _ _ k1 n _ (A.map rL++[rL (y.1,y.1,x.1,x.2,y.2.1)]))=_
  rw [cO (ap5 (by omega)),G8,hw,ih (i+1) n _ hd' (by omega) hn' (by rw [List.length_append,List.length_cons,List.length_nil];omega),hdd]
  congr 1
  rw [List.append_assoc]
  rfl
def byE (er:Int)(x:D3):Int:=(x.2.2*er+999) / 1000
def bxR (er:Int)(x:D3):L5:=(x.1,x.1,pos (x.2.2 - byE er x),x.2.2+byE er x,x.2.1)
def Ci (er:Int)(x:D3):Bool:=decide (x.2.2+byE er x<=1000000)
theorem ahF {er:Int}{x:D3}(h1:0<=er)(h2:er<=1000)(hx:vj x=true):0<=byE er x/\byE er x<=1000000/\upI (w64 (x.2.2*er)) 1000=byE er x:=by
 obtain⟨_,_,g1,g2⟩:=of_decide_eq_true hx
 have m:=iL g1 g2 h1 h2
 rw [ak (n:=x.2.2*er) (by omega) (by omega),AW (by omega) (by omega) (by decide) (by decide)]
 unfold byE
 omega
theorem agu {l:List D3}(hl:l.length<=100){k1 Y:Option α}{k2:Int->Bool->Option α}(h2:∀ x b,k2 x b=Y) :
  ∀ (rest:List D3) (i n:Nat),l.drop i=rest->i<=l.length->rest.length < n->rest.all vj=true->pg α (l.map rT3) (l.length:Int) k1 k2 n (i:Int)=Y:=by
 intro rest
 induction rest with
 | nil=>
  intro i n hd hi hn _
  obtain⟨n,rfl⟩:∃ n',n=n'+1:=⟨n - 1,by simp only [List.length_nil] at hn;omega⟩
  have hl:l.length<=i:=List.drop_eq_nil_iff.1 hd
  rw [pg]
  simp only [uK]
  rw [decide_eq_false (by omega),am,h2]
 | cons x rs ih=>
  intro i n hd hi hn hb
  obtain⟨n,rfl⟩:∃ n',n=n'+1:=⟨n - 1,by omega⟩
  obtain⟨hg,hd'⟩:=eG hd
  have hl':i < l.length:=(List.getElem?_eq_some_iff.1 hg).1
  have hw:w64 ((i:Int)+1)=((i+1:Nat):Int):=by rw [ak (by omega) (by omega)];omega
  have hn':rs.length < n:=by simp only [List.length_cons] at hn;omega
  simp only [List.all_cons,Bool.and_eq_true] at hb
  obtain⟨g1,g2,g3⟩:=of_decide_eq_true hb.1
  rw [pg]
  simp only [uK]
  rw [decide_eq_true (by omega),aq,Ql hg,kJ,af,yj,kv,ji,if_pos g1,oL,af,yQ,kv,ji,if_pos g2,rm,af,FQ,kv,ji,if_pos g3,hw]
  exact ih (i+1) n hd' (by omega) hn' hb.2
theorem afn {l:List D3}{er:Int}(h0:0<=er)(h1:er<=1000)(hl:l.length<=40){k1:Option α}{Y:List L5->Option α}{k2:Int->Bool->ae->Option α}(h2:∀ x b A,k2 x b (A.map rL)=Y A) :
  ∀ (rest:List D3) (i n:Nat) (A:List L5),l.drop i=rest->i<=l.length->rest.length < n->A.length=i->rest.all vj=true ->
  mt α er (l.map rT3) (l.length:Int) k1 k2 n (i:Int) (A.map rL)=if rest.all (Ci er)=true then Y (A++rest.map (bxR er)) else k1:=by
 intro rest
 induction rest with
 | nil=>
  intro i n A hd hi hn hA _
  obtain⟨n,rfl⟩:∃ n',n=n'+1:=⟨n - 1,by simp only [List.length_nil] at hn;omega⟩
  have hl:l.length<=i:=List.drop_eq_nil_iff.1 hd
  rw [mt]
  simp only [rE]
  rw [decide_eq_false (by omega),am,h2,List.map_nil,List.append_nil]
  rfl
 | cons x rs ih=>
  intro i n A hd hi hn hA hb
  obtain⟨n,rfl⟩:∃ n',n=n'+1:=⟨n - 1,by omega⟩
  obtain⟨hg,hd'⟩:=eG hd
  have hl':i < l.length:=(List.getElem?_eq_some_iff.1 hg).1
  have hw:w64 ((i:Int)+1)=((i+1:Nat):Int):=by rw [ak (by omega) (by omega)];omega
  have hn':rs.length < n:=by simp only [List.length_cons] at hn;omega
  simp only [List.all_cons,Bool.and_eq_true] at hb
  obtain⟨_,_,g3⟩:=of_decide_eq_true hb.1
  obtain⟨b1,b2,b3⟩:=ahF h0 h1 hb.1
  rw [mt]
  simp only [rE]
  rw [decide_eq_true (by omega),aq,Ql hg,tY (by decide),b3,ak (n:=x.2.2+byE er x) (by omega) (by omega),ak (n:=x.2.2 - byE er x) (by omega) (by omega),bg]
  simp only [List.all_cons,Bool.and_eq_true]
  by_cases c:1000000 < x.2.2+byE er x
  ·rw [if_pos c,if_neg (fun h=>by have:=of_decide_eq_true h.1;omega)]
  ·rw [if_neg c]
   change gK (fj 5 40 (A.map rL) [rL (bxR er x)]) (mt α _ _ _ k1 k2 n _ (A.map rL++[rL (bxR er x)]))=_
   rw [cO (ap5 (by omega)),G8,hw,ih (i+1) n _ hd' (by omega) hn' (by rw [List.length_append,List.length_cons,List.length_nil];omega) hb.2]
   by_cases c2:rs.all (Ci er)=true
   ·rw [if_pos c2,if_pos ⟨decide_eq_true (by omega),c2⟩,List.append_assoc];rfl
   ·rw [if_neg c2,if_neg (fun h=>c2 h.2)]
def jP (des:List D3)(gr:List (Int × Int))(er:Int):Int × List L5:=
 if 40 < des.length then (8,[]) else if des.all vj=true then
  if des.length < gr.length then (12,[]) else if grL gr=0 then
   if 0<=er/\er<=1000 then
    if (des.drop gr.length).all (Ci er)=true then (0,zb des gr++(des.drop gr.length).map (bxR er)) else (8,[])
   else (2,[])
  else (grL gr,[])
 else (2,[])
theorem TJ {β:Type}{p:β->Bool}{l:List β}(h:l.all p=true)(n:Nat):(l.drop n).all p=true:=by
 rw [List.all_eq_true] at h ⊢
 exact fun x hx=>h x (List.mem_of_mem_drop hx)
theorem aiQ {D:List D3}{er:Int}(h0:0<=er)(h1:er<=1000)(hl:D.length<=40)(hb:D.all vj=true){k:ae->Int->Option α}:Jm α (D.map rT3) er k=if D.all (Ci er)=true then k ((D.map (bxR er)).map rL) 0 else k [] 8:=by
 have hf:=cS
 rw [Jm,af,VA,List.length_map,bg,if_neg (by omega),yM,af,Hh]
 refine (agu (by omega) (fun _ _=>rfl) D 0 aN rfl (Nat.zero_le _) (by omega) hb).trans ?_
 rw [kv,ji,if_pos ⟨h0,h1⟩,xS,af,GU]
 exact afn h0 h1 hl (Y:=fun A=>k (A.map rL) 0) (fun _ _ _=>rfl) D 0 aN [] rfl (Nat.zero_le _) (by omega) rfl hb
theorem TB {des:List D3}{gr:List (Int × Int)}{er:Int}(hg:gr.length<=100){k:ae->Int->Option α}:Cl α (des.map rT3) (gr.map rT2) er k=k ((jP des gr er).2.map rL) (jP des gr er).1:=by
 have hf:=cS
 rw [Cl,af,Wj,List.length_map,List.length_map,bg]
 unfold jP
 by_cases c0:40 < des.length
 ·rw [if_pos (by omega),if_pos c0];rfl
 ·rw [if_neg (by omega),if_neg c0,xM,af,Iq]
  refine (ae1 (by omega) (fun _ _=>rfl) des 0 aN rfl (Nat.zero_le _) (by omega)).trans ?_
  by_cases c1:des.all vj=true
  ·rw [if_pos c1,if_pos c1,bg]
   by_cases c2:des.length < gr.length
   ·rw [if_pos (by omega),if_pos c2];rfl
   ·rw [if_neg (by omega),if_neg c2,xW,af,GL]
    refine (ac4 hg (fun _ _=>rfl) gr 0 aN rfl (Nat.zero_le _) (by omega)).trans ?_
    by_cases c3:grL gr=0
    ·rw [if_pos c3,if_pos c3,wh,ji]
     by_cases c4:0<=er/\er<=1000
     ·rw [if_pos c4,if_pos c4,yx,af,H8]
      refine (afO (des:=des) (gr:=gr) (by omega) (by omega) (Y:=fun A=>if (des.drop gr.length).all (Ci er)=true then k ((A++(des.drop gr.length).map (bxR er)).map rL) 0 else k [] 8) (k1:=fun _ _ x62=>_) (fun x b A hA=>?_) gr 0 aN [] rfl (Nat.zero_le _) (by omega) rfl).trans ?_
      ·have e1:List.drop (Int.toNat (gr.length:Int)) (List.take (Int.toNat (des.length:Int)) (des.map rT3))=(des.drop gr.length).map rT3:=by
        rw [Int.toNat_natCast,Int.toNat_natCast,List.take_of_length_le (by rw [List.length_map];exact Nat.le_refl _),List.map_drop]
       rw [e1,cO (decide_eq_true ⟨by omega,by omega,by omega,zt (enc:=rT3) (n:=3) (fun _=>rfl) des⟩),aiQ c4.1 c4.2 (by rw [List.length_drop];omega) (TJ c1 _)]
       by_cases c5:(des.drop gr.length).all (Ci er)=true
       ·rw [if_pos c5,if_pos c5,List.map_append]
        show cK false _ (gK _ _)=_
        rw [am,cO (yu (enc:=rL) (fun _=>rfl) (by rw [List.length_map,List.length_map,List.length_drop];omega) (by rw [List.length_map,List.length_map,List.length_drop];omega))]
       ·rw [if_neg c5,if_neg c5];rfl
      ·rw [List.nil_append,List.drop_zero]
       by_cases c5:(des.drop gr.length).all (Ci er)=true
       ·rw [if_pos c5,if_pos c5]
       ·rw [if_neg c5,if_neg c5];rfl
     ·rw [if_neg c4,if_neg c4];rfl
    ·rw [if_neg c3,if_neg c3];rfl
  ·rw [if_neg c1,if_neg c1];rfl
def qI:List D3->List L5->Prop
 | [],[]=>True
 | x::xs,l::ls=>(l.1=x.1/\l.2.1=x.1/\l.2.2.2.2=x.2.1/\0<=l.2.2.1/\l.2.2.1<=l.2.2.2.1/\l.2.2.2.1<=1000000)/\qI xs ls
 | _,_=>False
theorem ajE {er:Int}(h0:0<=er)(h1:er<=1000):∀ D:List D3,D.all vj=true->D.all (Ci er)=true->qI D (D.map (bxR er)):=by
 intro D
 induction D with
 | nil=>intro _ _;exact trivial
 | cons x xs ih=>
  intro h2 h3
  simp only [List.all_cons,Bool.and_eq_true] at h2 h3
  obtain⟨b1,b2,_⟩:=ahF h0 h1 h2.1
  obtain⟨_,_,g1,g2⟩:=of_decide_eq_true h2.1
  have g3:=of_decide_eq_true h3.1
  refine⟨⟨rfl,rfl,rfl,?_⟩,ih h2.2 h3.2⟩
  show 0<=pos (x.2.2 - byE er x)/\pos (x.2.2 - byE er x)<=x.2.2+byE er x/\x.2.2+byE er x<=1000000
  unfold pos
  split <;> omega
theorem alx {er:Int}(h0:0<=er)(h1:er<=1000):∀ (D:List D3) (gr:List (Int × Int)),D.all vj=true->gr.length<=D.length->grL gr=0->(D.drop gr.length).all (Ci er)=true->qI D (zb D gr++(D.drop gr.length).map (bxR er)):=by
 intro D
 induction D with
 | nil=>
  intro gr _ hl _ _
  cases gr with
  | nil=>exact trivial
  | cons r rs=>simp at hl
 | cons x xs ih=>
  intro gr hd hl hg hb
  cases gr with
  | nil=>exact ajE h0 h1 (x::xs) hd hb
  | cons r rs=>
   have hd2:=hd
   simp only [List.all_cons,Bool.and_eq_true] at hd2
   unfold grL at hg
   by_cases c:il r.1 r.2 0 1000000=0
   ·rw [if_pos c] at hg
    have hr:=KZ c
    exact⟨⟨rfl,rfl,rfl,hr.1,hr.2.1,hr.2.2⟩,ih rs hd2.2 (by simpa using hl) hg (by simpa using hb)⟩
   ·rw [if_neg c] at hg;exact absurd hg c
theorem ajf {des:List D3}{gr:List (Int × Int)}{er:Int}(h:(jP des gr er).1=0):des.length<=40/\des.all vj=true/\(0<=er/\er<=1000)/\qI des (jP des gr er).2:=by
 unfold jP at *
 by_cases c0:40 < des.length
 ·rw [if_pos c0] at h;exact absurd h (show ¬ (8:Int)=0 by decide)
 ·rw [if_neg c0] at h ⊢
  by_cases c1:des.all vj=true
  ·rw [if_pos c1] at h ⊢
   by_cases c2:des.length < gr.length
   ·rw [if_pos c2] at h;exact absurd h (show ¬ (12:Int)=0 by decide)
   ·rw [if_neg c2] at h ⊢
    by_cases c3:grL gr=0
    ·rw [if_pos c3] at h ⊢
     by_cases c4:0<=er/\er<=1000
     ·rw [if_pos c4] at h ⊢
      by_cases c5:(des.drop gr.length).all (Ci er)=true
      ·rw [if_pos c5]
       exact⟨by omega,c1,c4,alx c4.1 c4.2 des gr c1 (by omega) c3 c5⟩
      ·rw [if_neg c5] at h;exact absurd h (show ¬ (8:Int)=0 by decide)
     ·rw [if_neg c4] at h;exact absurd h (show ¬ (2:Int)=0 by decide)
    ·rw [if_neg c3] at h;exact absurd h c3
  ·rw [if_neg c1] at h;exact absurd h (show ¬ (2:Int)=0 by decide)
theorem Ma:∀ {D:List D3} {L:List L5},qI D L->L.length=D.length
 | [],[],_=>rfl
 | [],_::_,h=>h.elim
 | _::_,[],h=>h.elim
 | _::xs,_::ls,h=>by rw [List.length_cons,List.length_cons,Ma h.2]
def thP (t:Int)(l:L5):L5:=(l.1,l.2.1,t,t,l.2.2.2.2)
def jO:List L5->List Int->List L5
 | l::ls,t::ts=>thP t l::jO ls ts
 | _,_=>[]
def RW:List L5->List Int->Prop
 | [],[]=>True
 | l::ls,t::ts=>(l.2.2.1<=t/\t<=l.2.2.2.1)/\RW ls ts
 | _,_=>False
theorem BQ {er:Int}(h0:0<=er)(h1:er<=1000):∀ {D:List D3} {L:List L5} {ts:List Int},qI D L->RW L ts->zb D (ts.map fun t=>(t,t))=jO L ts/\grL (ts.map fun t=>(t,t))=0/\ts.length=D.length
 | [],[],[],_,_=>⟨rfl,rfl,rfl⟩
 | [],[],_::_,_,h=>h.elim
 | [],_::_,_,h,_=>h.elim
 | _::_,[],_,h,_=>h.elim
 | _::_,_::_,[],_,h=>h.elim
 | x::xs,l::ls,t::ts,h,g=>by
  obtain⟨i1,i2,i3⟩:=BQ h0 h1 h.2 g.2
  obtain⟨⟨a1,a2,a3,a4,a5,a6⟩,_⟩:=h
  obtain⟨⟨b1,b2⟩,_⟩:=g
  refine⟨?_,?_,by rw [List.length_cons,List.length_cons,i3]⟩
  ·show (x.1,x.1,t,t,x.2.1)::zb xs (ts.map fun t=>(t,t))=(l.1,l.2.1,t,t,l.2.2.2.2)::jO ls ts
   rw [i1,a1,a2,a3]
  ·show (if il t t 0 1000000=0 then grL (ts.map fun t=>(t,t)) else il t t 0 1000000)=0
   have:il t t 0 1000000=0:=by
    unfold il
    rw [if_pos (by omega),if_neg (by omega)]
   rw [if_pos this,i2]
theorem Sf {des:List D3}{er:Int}{L:List L5}{ts:List Int}(h40:des.length<=40)(hd:des.all vj=true)(he:0<=er/\er<=1000)(h:qI des L)(g:RW L ts):jP des (ts.map fun t=>(t,t)) er=(0,jO L ts):=by
 obtain⟨i1,i2,i3⟩:=BQ he.1 he.2 h g
 unfold jP
 have hn:(ts.map fun t=>(t,t)).length=des.length:=by rw [List.length_map,i3]
 rw [if_neg (by omega),if_pos hd,if_neg (by omega),if_pos i2,if_pos he,hn,List.drop_length]
 simp only [List.all_nil,if_true,List.map_nil,List.append_nil]
 rw [i1]
end Go.AM.K
