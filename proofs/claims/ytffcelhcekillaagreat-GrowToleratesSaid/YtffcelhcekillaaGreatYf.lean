/- Texts of one kind, put together. -/
import Derived.Test.YtffcelhcekillaaGreatYe
import Derived.Test.YtffcelhcekillaaGreatYc
import Derived.Test.YtffcelhcekillaaGreatYd
namespace Go.AM.K
set_option linter.unusedVariables false
set_option linter.unusedSimpArgs false
variable {α:Type}
abbrev DC4 (α:Type):=Int->Int->Int->Int->Option α
def dk (k:DC4 α)(u:Bl)(e:Int):Option α:=k u.b.1 u.b.2.1 u.b.2.2 e
theorem qE (e:Int){u:Bl × Int}(hn:Nz u){k:DC4 α}:DK (fun x y r e'=>dt α e x y r e' k) u=bnd (if e=0 then u else (Bl0,e)) (dk k):=by
 rw [aP];unfold DK dk;simp only [dt,af,Rf,bo];by_cases h:e=0
 ·rw [if_pos h,if_pos h]
  by_cases h2:u.2=0
  ·rw [if_pos h2,h,h2]
  ·rw [if_neg h2,hn h2];rfl
 ·rw [if_neg h,if_neg h];rfl
theorem sH {e:Int}{u:Bl × Int}(hn:Nz u){k:DC4 α}:(if e=0 then DK (fun x y r e'=>dt α e x y r e' k) u else k 0 0 0 e)=bnd (if e=0 then u else (Bl0,e)) (dk k):=by
 by_cases h:e=0
 ·rw [if_pos h];exact qE e hn
 ·rw [if_neg h,if_neg h,aP];rfl
theorem we (e:Int)(a b:Bl){k:DC4 α}:eE α e a.b.1 a.b.2.1 a.b.2.2 b.b.1 b.b.2.1 b.b.2.2 k=bnd (two fB e a b) (dk k):=by
 rw [eE,af,TW,ar7,bo];exact sH (wn _)
theorem mS (e:Int)(a b:Bl){k:DC4 α}:ci α e a.b.1 a.b.2.1 a.b.2.2 b.b.1 b.b.2.1 b.b.2.2 k=bnd (two bB e a b) (dk k):=by
 rw [ci,af,P2,art,bo];exact sH (wn _)
theorem J3 (e:Int)(a b:Bl){k:DC4 α}:mw α e a.b.1 a.b.2.1 a.b.2.2 b.b.1 b.b.2.1 b.b.2.2 k=bnd (two jF e a b) (dk k):=by
 rw [mw,af,SO,aqR,bo];exact sH (wn _)
theorem Ad (e:Int)(a b:Bl){k:DC4 α}:kQ α e a.b.1 a.b.2.1 a.b.2.2 b.b.1 b.b.2.1 b.b.2.2 k=bnd (two uU e a b) (dk k):=by
 rw [kQ,af,Xp,aqd,bo];exact sH (ayi _ _)
theorem PH {e lo hi:Int}{k:DC4 α}:g8 α lo hi (fun x y r e'=>dt α e x y r e' k)=bnd (iE e lo hi) (dk k):=by
 rw [A5];exact qE e (tM _ _)
theorem ayk (e:Int)(a:Bl){k:DC4 α}:yM α a.b.1 a.b.2.1 a.b.2.2 (fun x y r e'=>dt α e x y r e' k)=bnd (if e=0 then nO a else (Bl0,e)) (dk k):=by
 rw [asF];exact qE e (auw _)
theorem aqv {e lo hi:Int}{k:DC4 α}:yb α lo hi (fun x y r e'=>dt α e x y r e' k)=bnd (if e=0 then jW lo hi else (Bl0,e)) (dk k):=by
 rw [auT];exact qE e (ahb _ _)
theorem aBh {e lo hi:Int}{k:DC4 α}:xp α lo hi (fun x y r e'=>dt α e x y r e' k)=bnd (if e=0 then BR lo hi else (Bl0,e)) (dk k):=by
 rw [apR];exact qE e (ayq _ _)
theorem awZ {e n:Int}(h1:0<=n)(h2:n<=80000){k:DC4 α}:yL α n 10000 (fun x y r e'=>dt α e x y r e' k)=bnd (t7 e n 10000) (dk k):=by
 rw [ast h1 h2];exact qE e (Ta _ _)
theorem Cm {n d:Int}(h0:0<=n)(hd:0 < d):flr n d=dnI n d:=by
 unfold flr dnI;rw [if_neg];rw [Int.tmod_eq_emod_of_nonneg h0];have:=Int.emod_nonneg n (Int.ne_of_gt hd);omega
theorem yn {n d:Int}(h0:0<=n)(h1:n<=4611686018427387904)(hd:0 < d)(hd2:d<=1000000000):cel n d=upI n d:=by
 rw [rx hd (by omega) (by omega) (by omega)];unfold upI cdv;rw [aj (n:=n+d) (by omega) (by omega),aj (n:=n+d - 1) (by omega) (by omega),Int.tdiv_eq_ediv_of_nonneg (by omega)];have a:=Int.ediv_nonneg (a:=n+d - 1) (by omega) (Int.le_of_lt hd);have b:=Int.ediv_le_self (a:=n+d - 1) d (by omega);rw [aj (by omega) (by omega)];have e:=Int.emod_add_mul_ediv (n+d - 1) d;have e1:=Int.emod_nonneg (n+d - 1) (Int.ne_of_gt hd);have e2:=Int.emod_lt_of_pos (n+d - 1) hd;have:=(Int.ediv_emod_unique (a:=-n) (q:=-((n+d - 1) / d)) (r:=d - 1 - (n+d - 1) % d) hd).2 ⟨by rw [Int.mul_neg];omega,by omega,by omega⟩;rw [this.1,Int.neg_neg]
theorem aso:∀ {ls:List L5},lsE ls=0->∀ l ∈ ls,vW l=0:=by
 intro ls
 induction ls with
 | nil=>intro _ l hl;cases hl
 | cons x xs ih=>
  intro h l hl;unfold lsE at h;by_cases c:vW x=0
  ·rw [if_pos c] at h
   rcases List.mem_cons.1 hl with rfl | hl
   ·exact c
   ·exact ih h l hl
  ·rw [if_neg c] at h;exact absurd h c
theorem aqD {l:L5}(h:vW l=0):((5000<=l.1/\l.1<=80000)/\5000<=l.2.1/\l.2.1<=80000)/\((0<=l.2.2.1/\l.2.2.1<=1000000)/\0<=l.2.2.2.1/\l.2.2.2.1<=1000000)/\0<=l.2.2.2.2/\l.2.2.2.2<=80000:=by
 unfold vW at h;by_cases c:abz l=true
 ·exact of_decide_eq_true c
 ·rw [if_neg c] at h;exact absurd h (by decide)
theorem adW {A:Ask}(h:ckA A=0){i:Nat}{l:L5}(hl:A.ls[i]?=some l):((5000<=l.1/\l.1<=80000)/\5000<=l.2.1/\l.2.1<=80000)/\((0<=l.2.2.1/\l.2.2.1<=1000000)/\0<=l.2.2.2.1/\l.2.2.2.1<=1000000)/\0<=l.2.2.2.2/\l.2.2.2.2<=80000:=by
 obtain⟨_,_,_,_,_,h6,_⟩:=jY h;exact aqD (aso h6 l (List.mem_of_getElem? hl))
theorem az0 {A:Ask}(h:ckA A=0)(n:Nat):(5000<=(eN A n).1/\(eN A n).1<=80000)/\(5000<=(eN A n).2.1/\(eN A n).2.1<=80000)/\0<=(eN A n).2.2/\(eN A n).2.2<=80000:=by
 obtain⟨h1,_,_,_,_,_,h7,h8⟩:=jY h;cases n with
 | zero=>exact⟨h1,h1,by show (0:Int)<=0;omega,by show (0:Int)<=80000;omega⟩
 | succ n=>
  cases hl:A.ls[n]? with
  | none=>rw [qV hl];exact⟨h7,h7,h8⟩
  | some l=>
   have:=adW h hl;rw [mi hl];exact⟨this.1.1,this.1.2,this.2.2⟩
def thE (A:Ask)(n:Nat):Int × Int:=match n with
 | 0=>(0,0)
 | n+1=>match A.ls[n]? with
  | some l=>(l.2.2.1,l.2.2.2.1)
  | none=>(0,0)
theorem Ic (A:Ask){n:Nat}(hn:n < 1000000){k:Int->Int->Int->Int->Int->Option α} :
  rZ α A.ix (A.ls.map rL) A.oi A.ol (n:Int) k=k (eN A n).1 (eN A n).2.1 (thE A n).1 (thE A n).2 (eN A n).2.2:=by
 simp only [rZ,af,Xj,gS,aK,List.length_map];cases n with
 | zero=>rw [if_pos (show ((0:Nat):Int)=0 from rfl)];rfl
 | succ n=>
  rw [if_neg (by omega)];cases h:A.ls[n]? with
  | some l=>
   have hl:n < A.ls.length:=(List.getElem?_eq_some_iff.1 h).1;rw [if_neg (by omega),adn h (by omega),mi h];unfold thE;simp only [h]
  | none=>
   have hl:A.ls.length<=n:=List.getElem?_eq_none_iff.1 h;rw [if_pos (by omega),qV h];unfold thE;simp only [h]
theorem aoC (e lo hi:Int):Nz (iE e lo hi):=by
 unfold iE;split
 ·exact tM _ _
 ·exact zs _
theorem axf (e n d:Int):Nz (t7 e n d):=by
 unfold t7;split
 ·exact Ta _ _
 ·exact zs _
theorem bO {op:Bl->Bl->Bl × Int}{e:Int}(h:e ≠ 0)(a b:Bl):two op e a b=(Bl0,e):=if_neg h
theorem tc {e lo hi:Int}(h:e ≠ 0):iE e lo hi=(Bl0,e):=if_neg h
theorem uA {e n d:Int}(h:e ≠ 0):t7 e n d=(Bl0,e):=if_neg h
theorem vH {e:Int}{a:Bl}(h:e ≠ 0):jz e a=((0,0,0,0),e):=if_neg h
theorem jf (A:Ask)(n:Nat){e:Int}(h:e ≠ 0):eu A n e=(Bl0,e):=by
 unfold eu;simp only [tc h,aP,uA h,bO h,if_neg h,ite_self]
theorem rz (A:Ask)(n:Nat){e:Int}(h:e ≠ 0):bJ A n e=(Bl0,false,e):=by
 unfold bJ;simp only [jf A n h,tc h,aP,bO h,vH h,cX,if_neg h,ite_self]
theorem Ax (A:Ask)(n:Nat){e:Int}(h:e ≠ 0):cj A n e=(Bl0,e):=by
 unfold cj;simp only [rz A n h,jf A n h,aP,fq,bO h,ite_self]
theorem aaw {A:Ask}(h:ckA A=0){n:Nat}(hn:n < 1000000)(e:Int){k:DC4 α} :
  xD α e A.ix (A.ls.map rL) A.oi A.ol (n:Int) k=bnd (eu A n e) (dk k):=by
 obtain⟨m1,m2,m3⟩:=az0 h n;have e1:flr (w64 ((eN A n).1*1048576)) 10000=dnI (w64 ((eN A n).1*1048576)) 10000:=Cm (by rw [aj (by omega) (by omega)];omega) (by decide);have e2:cel (w64 ((eN A n).2.1*1048576)) 10000=upI (w64 ((eN A n).2.1*1048576)) 10000:=yn (by rw [aj (by omega) (by omega)];omega) (by rw [aj (by omega) (by omega)];omega) (by decide) (by decide);rw [xD,af,Ul,Ic A hn,Mb.f91_raw (by decide),Mb.f69_raw (by decide),e1,e2];refine PH.trans ?_;rw [aP,aP];show _=DK k (eu A n e);unfold eu;rw [aP];have nu:=aoC e (dnI (w64 ((eN A n).1*1048576)) 10000) (upI (w64 ((eN A n).2.1*1048576)) 10000);generalize iE e (dnI (w64 ((eN A n).1*1048576)) 10000) (upI (w64 ((eN A n).2.1*1048576)) 10000)=u at *;dsimp only [dk];rw [gS];by_cases c:(eN A n).2.2=0
 ·rw [if_pos c,if_pos c];rfl
 ·rw [if_neg c,if_neg c,bo]
  by_cases c2:u.2=0
  ·rw [if_pos c2]
   refine (awZ m3.1 m3.2).trans ?_;rw [aP,aP];have nv:=axf u.2 (eN A n).2.2 10000;generalize t7 u.2 (eN A n).2.2 10000=v at *;dsimp only [dk];have gb:=v.1.bd;refine (akj (by omega) (by omega)).trans ?_;by_cases c3:v.2=0
   ·rw [if_pos c3,aP,Nn,aP]
    dsimp only;rw [c3];exact (we 0 u.1 ⟨(-v.1.b.2.1,v.1.b.1,v.1.b.2.2),IV v.1⟩).trans (aP _ _)
   ·rw [if_neg c3,nv c3,aP,bO c3]
    refine (we v.2 u.1 Bl0).trans ?_;rw [bO c3,aP];rfl
  ·rw [if_neg c2,aP,uA c2,if_neg c2,aP,bO c2,nu c2];rfl
theorem arw {A:Ask}(h:ckA A=0){n:Nat}(hn:n < 1000000)(e:Int){k:DC4 α} :
  xD α e A.ix (A.ls.map rL) A.oi A.ol (n:Int) (fun a b c d=>k a b c d)=bnd (eu A n e) (dk k):=aaw h hn e
theorem auy {A:Ask}(h:ckA A=0)(e:Int){k:DC4 α} :
  BZ α e A.ix A.s1 A.s2 k=bnd (iE e (dnI (w64 ((w64 (A.ix*A.s1))*1048576)) 100000000) (upI (w64 ((w64 (A.ix*A.s2))*1048576)) 100000000)) (dk k):=by
 obtain⟨h1,h2,_⟩:=jY h;obtain⟨g1,g2,_⟩:=JW h2;have m1:=mc (x:=A.ix) (y:=A.s1) (A:=80000) (B:=9999) (by omega) h1.2 g1.1 g1.2;have m2:=mc (x:=A.ix) (y:=A.s2) (A:=80000) (B:=9999) (by omega) h1.2 g2.1 g2.2;have w1:w64 (A.ix*A.s1)=A.ix*A.s1:=aj (by omega) (by omega);have w2:w64 (A.ix*A.s2)=A.ix*A.s2:=aj (by omega) (by omega);rw [BZ,af,Sb,Mb.f91_raw (by decide),Mb.f69_raw (by decide),w1,w2,
  Cm (by rw [aj (by omega) (by omega)];omega) (by decide),yn (by rw [aj (by omega) (by omega)];omega) (by rw [aj (by omega) (by omega)];omega) (by decide) (by decide)]
 exact PH
def sqE (A:Ask)(n:Nat)(e:Int):Bl × Bl × Int:=
 bnd (eu A n e) fun u e1=>
 bnd (iE e1 (dnI (w64 ((w64 (A.ix*A.s1))*1048576)) 100000000) (upI (w64 ((w64 (A.ix*A.s2))*1048576)) 100000000)) fun b e2=>
 bnd (two bB e2 u u) fun v e3=>bnd (two bB e3 b b) fun c e4=>bnd (two jF e4 v c) fun d e5=>(v,d,e5)
theorem an3 {A:Ask}(h:ckA A=0){n:Nat}(hn:n < 1000000)(e:Int){k:Int->Int->Int->Int->Int->Int->Int->Option α} :
  C7 α e A.ix A.s1 A.s2 (A.ls.map rL) A.oi A.ol (n:Int) k=k (sqE A n e).1.b.1 (sqE A n e).1.b.2.1 (sqE A n e).1.b.2.2 (sqE A n e).2.1.b.1 (sqE A n e).2.1.b.2.1 (sqE A n e).2.1.b.2.2 (sqE A n e).2.2:=by
 unfold sqE;simp only [C7,af,VN,arw h hn,auy h,mS,J3,aP,dk]
theorem awJ (A:Ask)(n:Nat){e:Int}(h:e ≠ 0):sqE A n e=(Bl0,Bl0,e):=by
 unfold sqE;simp only [jf A n h,tc h,aP,bO h]
theorem Vj {A:Ask}(h:ckA A=0){n:Nat}(hn:n < 1000000)(e:Int){k:Int->Int->Int->Int->Int->Int->Bool->Int->Option α} :
  ou α e A.ix A.s1 A.s2 (A.ls.map rL) A.oi A.ol (n:Int) k=
   if (sqE A n e).2.2=0 then k (bJ A n e).1.b.1 (bJ A n e).1.b.2.1 (bJ A n e).1.b.2.2 (sqE A n e).1.b.1 (sqE A n e).1.b.2.1 (sqE A n e).1.b.2.2 (bJ A n e).2.1 (bJ A n e).2.2
   else k 0 0 0 0 0 0 false (sqE A n e).2.2:=by
 rw [ou,af,WK,an3 h hn,Ic A hn];rw [bo];have hno:bJ A n e=if (eN A n).2.2=0 then
   iI (jz (sqE A n e).2.2 (sqE A n e).2.1) fun lo hi _ _ e6=>if e6=0 then bnd (jW lo hi) fun q e7=>(q,decide (lo < 0),e7) else (Bl0,false,e6)
  else if (sqE A n e).2.2=0 then bnd (nO (sqE A n e).2.1) fun q e6=>(q,false,e6) else (Bl0,false,(sqE A n e).2.2):=by
  unfold bJ sqE;simp only [aP]
 rw [hno];clear hno;generalize sqE A n e=s;by_cases c:s.2.2=0
 ·rw [if_pos c,if_pos c,bo]
  by_cases c2:(eN A n).2.2=0
  ·rw [if_pos c2,if_pos c2,A0,c]
   refine aqv.trans ?_;rw [if_pos rfl,aP,cX];unfold jz;simp only [if_true,aP,dk]
  ·rw [if_neg c2,if_neg c2,if_pos c,c]
   refine (ayk 0 s.2.1).trans ?_;rw [if_pos rfl,aP,aP];rfl
 ·rw [if_neg c,if_neg c]
theorem RK {A:Ask}{n:Nat}{e:Int}(h:(sqE A n e).2.2 ≠ 0):bJ A n e=(Bl0,false,(sqE A n e).2.2):=by
 have hno:bJ A n e=if (eN A n).2.2=0 then
   iI (jz (sqE A n e).2.2 (sqE A n e).2.1) fun lo hi _ _ e6=>if e6=0 then bnd (jW lo hi) fun q e7=>(q,decide (lo < 0),e7) else (Bl0,false,e6)
  else if (sqE A n e).2.2=0 then bnd (nO (sqE A n e).2.1) fun q e6=>(q,false,e6) else (Bl0,false,(sqE A n e).2.2):=by
  unfold bJ sqE;simp only [aP]
 rw [hno];simp only [vH h,cX,if_neg h,ite_self]
theorem AO {A:Ask}(h:ckA A=0){n:Nat}(hn:n < 1000000)(e:Int){k:DC4 α} :
  jr α e A.ix A.s1 A.s2 A.pol (A.ls.map rL) A.oi A.ol (n:Int) k=bnd (cj A n e) (dk k):=by
 rw [jr,af,Td,Vj h hn,gS,gS];unfold cj;rw [fq];by_cases c:(sqE A n e).2.2=0
 ·rw [if_pos c]
  by_cases cp:A.pol=0
  ·rw [if_pos cp,if_pos cp,aP];rfl
  ·rw [if_neg cp,if_neg cp]
   refine (Ad _ _ _).trans ?_;rw [aP,aP,aP,aP,aP];by_cases c3:(bJ A n e).2.2=0
   ·have he:e=0:=Classical.byContradiction fun he=>by
     rw [awJ A n he] at c;exact he c
    subst he;rw [c3];have hv:(two bB (eu A n 0).2 (eu A n 0).1 (eu A n 0).1).2=0/\(sqE A n 0).1=(two bB (eu A n 0).2 (eu A n 0).1 (eu A n 0).1).1:=by
     unfold sqE at c ⊢;simp only [aP] at c ⊢;by_cases i0:(eu A n 0).2=0
     ·rw [i0] at c ⊢
      by_cases r0:(iE 0 (dnI (w64 ((w64 (A.ix*A.s1))*1048576)) 100000000) (upI (w64 ((w64 (A.ix*A.s2))*1048576)) 100000000)).2=0
      ·rw [r0] at c ⊢
       refine⟨Classical.byContradiction fun q=>?_,rfl⟩;rw [bO q,bO q] at c;exact q c
      ·rw [bO r0,bO r0,bO r0] at c
       exact absurd c r0
     ·rw [tc i0,bO i0,bO i0,bO i0] at c
      exact absurd c i0
    rw [hv.1,hv.2]
   ·rw [bO c3,jf A n c3,bO c3,bO c3]
 ·rw [if_neg c,RK c,aP,aP,aP,jf A n c,bO c,bO c]
  by_cases cp:A.pol=0
  ·rw [if_pos cp,if_pos cp];rfl
  ·rw [if_neg cp,if_neg cp]
   refine (Ad _ Bl0 Bl0).trans ?_;rw [bO c,aP,aP]
end Go.AM.K

namespace Go.AM.K
set_option linter.unusedVariables false
set_option linter.unusedSimpArgs false
variable {α:Type}
theorem ada {A:Ask}(h:ckA A=0){n:Nat}(hn:n < 1000000)(e:Int){k:Int->Int->Int->Bool->Int->Option α} :
  ou α e A.ix A.s1 A.s2 (A.ls.map rL) A.oi A.ol (n:Int) (fun a b c _ _ _ s e=>k a b c s e)=k (bJ A n e).1.b.1 (bJ A n e).1.b.2.1 (bJ A n e).1.b.2.2 (bJ A n e).2.1 (bJ A n e).2.2:=by
 rw [Vj h hn];by_cases c:(sqE A n e).2.2=0
 ·rw [if_pos c]
 ·rw [if_neg c,RK c];rfl
theorem Ku {x y:Int}{k:Int->Int->Option α}:su α x y k=k (pos x) (pos y):=by rw [su,af,Xb];rfl
theorem aaa {s:Bool}{l:Int}{k1:Option α}{k2:Bool->Option α}{Y:Option α}(h:∀ b,k2 b=Y):ov α s l k1 k2=if l=0 then (if s=true then k1 else Y) else Y:=by
 rw [ov,af,F2,pF,af,Gk,gS];by_cases c:l=0
 ·rw [if_pos c,if_pos c,rH,h]
 ·rw [if_neg c,if_neg c,al,h]
theorem Z0 {s:Bool}{l:Int}{k1:Option α}{k2:Bool->Option α}{Y:Option α}(h:∀ b,k2 b=Y):pl α s l k1 k2=if l=0 then (if s=true then Y else k1) else Y:=by
 rw [pl,af,F7,oh,af,HL,gS];by_cases c:l=0
 ·rw [if_pos c,if_pos c]
  cases s
  ·rw [Bool.not_false,ap,if_neg (by decide)]
  ·rw [Bool.not_true,al,if_pos rfl,h]
 ·rw [if_neg c,if_neg c,al,h]
theorem aai {s:Bool}{l:Int}{k1:Option α}{k2:Bool->Option α}{Y:Option α}(h:∀ b,k2 b=Y):oE α s l k1 k2=if l=0 then (if s=true then Y else k1) else Y:=by
 rw [oE,af,Hl,pn,af,E5,gS];by_cases c:l=0
 ·rw [if_pos c,if_pos c]
  cases s
  ·rw [Bool.not_false,ap,if_neg (by decide)]
  ·rw [Bool.not_true,al,if_pos rfl,h]
 ·rw [if_neg c,if_neg c,al,h]
theorem w4:w64 (4*pos 0)=0:=by decide
theorem afk {x t:Int}(hx:x<=134217728)(h1:0<=t)(h2:t<=1000000):0<=w64 ((w64 (4*pos x))*t)/\w64 ((w64 (4*pos x))*t)<=4611686018427387904:=by
 have hp:=OO hx;rw [aj (n:=4*pos x) (by omega) (by omega)];have m:=mc (x:=4*pos x) (y:=t) (A:=536870912) (B:=1000000) (by omega) (by omega) h1 h2;rw [aj (by omega) (by omega)];omega
theorem adm {x t d:Int}(hx:x<=134217728)(h1:0<=t)(h2:t<=1000000)(hd:0 < d){k:Int->Option α}:dz α (w64 ((w64 (4*pos x))*t)) d k=k (dnI (w64 ((w64 (4*pos x))*t)) d):=by
 rw [Mb.f91_raw (by omega),Cm (afk hx h1 h2).1 hd]
theorem agi {x t d:Int}(hx:x<=134217728)(h1:0<=t)(h2:t<=1000000)(hd:0 < d)(hd2:d<=1000000000){k:Int->Option α}:cq α (w64 ((w64 (4*pos x))*t)) d k=k (upI (w64 ((w64 (4*pos x))*t)) d):=by
 rw [Mb.f69_raw (by omega),yn (afk hx h1 h2).1 (afk hx h1 h2).2 hd hd2]
theorem ahX {A:Ask}{i:Nat}{l:L5}(h:A.ls[i]?=some l):thE A (i+1)=(l.2.2.1,l.2.2.2.1):=by
 show (match A.ls[i]? with
  | some l=>(l.2.2.1,l.2.2.2.1)
  | none=>(0,0))=_
 rw [h]
theorem Ym {A:Ask}(h:ckA A=0){i:Nat}{l:L5}(hl:A.ls[i]?=some l)(e:Int){k:Int->Int->Int->Int->Int->Option α} :
  Ea α e A.ix A.s1 A.s2 A.w1 A.w2 (A.ls.map rL) A.oi A.ol ((i+1:Nat):Int) k=KP k (gX A l (i+1) e):=by
 obtain⟨_,_,_,hw,h40,_⟩:=jY h;obtain⟨g1,g2,_⟩:=JW hw;have hi:i < A.ls.length:=(List.getElem?_eq_some_iff.1 hl).1;obtain⟨_,⟨⟨t1,t2⟩,t3,t4⟩,_⟩:=adW h hl;have hn:i+1 < 1000000:=by omega
 rw [Ea,af,Zf];refine (ada h hn e).trans ?_;unfold gX;rw [fq,cX,bo];generalize bJ A (i+1) e=u;have hu:=u.1.bd;have b1:u.1.lo1<=134217728:=by unfold Bl.lo1;omega
 have b2:u.1.hi1<=134217728:=by unfold Bl.hi1;omega
 have b3:u.1.lo2<=134217728:=by unfold Bl.lo2;omega
 have b4:u.1.hi2<=134217728:=by unfold Bl.hi2;omega
 have b0:(0:Int)<=134217728:=by decide
 have z1:∀ t:Int,0*t=w64 (4*pos 0)*t:=fun t=>by rw [w4]
 by_cases c:u.2.2=0
 ·rw [if_pos c,Ic A hn,A0,Ku,Ku,ahX hl,mi hl,aaa (fun _=>rfl),Z0 (fun _=>rfl),aai (fun _=>rfl)]
  unfold jz;rw [if_pos c];dsimp only;have hz:(0:Int)<=1000000:=by decide
  simp only [z1,adm b0 t1 t2 (show 0 < A.w2 by omega),agi b0 t3 t4 (show 0 < A.w1 by omega) (by omega),adm b1 t1 t2 (show 0 < A.w2 by omega),agi b2 t3 t4 (show 0 < A.w1 by omega) (by omega),adm b3 t1 t2 (show 0 < A.w2 by omega),agi b4 t3 t4 (show 0 < A.w1 by omega) (by omega),c];by_cases c2:l.2.2.2.2=0
  ·simp only [if_pos c2]
   cases u.2.1 with
   | false=>simp only [Bool.false_eq_true,if_false];rfl
   | true=>simp only [if_true];rfl
  ·simp only [if_neg c2];rfl
 ·rw [if_neg c,vH c]
  dsimp only;have zt:rG A l 0 0 0 0 u.2.2=((0,0,0,0),u.2.2):=by
   have zd:∀ t,dnI (w64 (w64 (4*pos 0)*t)) A.w2=0:=fun t=>by
    rw [w4,Int.zero_mul,<- Cm (show 0<=w64 0 by decide) (show 0 < A.w2 by omega),show w64 0=0 by decide,Ef (by omega) (by omega) (by omega) (by omega),Int.zero_ediv]
   have zu:∀ t,upI (w64 (w64 (4*pos 0)*t)) A.w1=0:=fun t=>by
    rw [w4,Int.zero_mul,<- yn (show 0<=w64 0 by decide) (by decide) (show 0 < A.w1 by omega) (by omega),show w64 0=0 by decide,rx (by omega) (by omega) (by omega) (by omega)];unfold cdv;rw [Int.neg_zero,Int.zero_ediv];rfl
   unfold rG;rw [zd,zu]
  rw [zt,ite_self,ite_self];rfl
def ayy (a b c d e1:Int):Bl × Int:=if e1=0 then
  (if w64 (b - a) < 1048576 then
   bnd (BR a b) fun z e2=>if e2=0 then
    kF (jC c d) fun p q e3=>if e3=0 then bnd (iE e3 p q) fun s e4=>bnd (two bB e4 z s) fun v e5=>(v,e5) else (Bl0,e3)
   else (Bl0,e2)
  else if e1=0 then
    kF (jC c d) fun p q e3=>if e3=0 then bnd (iE e3 p q) fun s e4=>bnd (two bB e4 Blc s) fun v e5=>(v,e5) else (Bl0,e3)
   else (Bl0,e1))
  else (Bl0,e1)
theorem sp (A:Ask)(l:L5)(n:Nat)(t e:Int):eD A l n t e=iI (gX A l n e) fun a b c d e1=>ayy (w64 (t*a)) (w64 (t*b)) (w64 (t*c)) (w64 (t*d)) e1:=rfl
theorem Mf {c d:Int}(z:Bl){k:DC4 α} :
  rU α c d (fun p q e3=>cK (e3 != 0) (k 0 0 0 e3) (g8 α p q (fun x35 x36 x37 x38=>dt α 0 x35 x36 x37 x38 (fun x39 x40 x41 x42=>ci α x42 z.b.1 z.b.2.1 z.b.2.2 x39 x40 x41 k))))=
   DK k (kF (jC c d) fun p q e3=>if e3=0 then bnd (iE e3 p q) fun s e4=>bnd (two bB e4 z s) fun v e5=>(v,e5) else (Bl0,e3)):=by
 rw [arL,ki,bo];generalize jC c d=u;by_cases h:u.2.2=0
 ·rw [if_pos h,if_pos h,h]
  refine PH.trans ?_;rw [aP,aP];dsimp only [dk];refine (mS _ z _).trans ?_;rw [aP,aP];rfl
 ·rw [if_neg h,if_neg h];rfl
theorem W3 {a b c d e:Int}{k:DC4 α}:xS α e a b c d k=DK k (ayy a b c d e):=by
 rw [xS,af,Se,bo];unfold ayy;by_cases h:e=0
 ·subst h
  rw [if_pos rfl,if_pos rfl,wu,af,Gg,aK];by_cases h2:w64 (b - a) < 1048576
  ·rw [if_pos h2,if_pos h2]
   refine aBh.trans ?_;rw [if_pos rfl,aP,aP];generalize BR a b=u;dsimp only [dk];rw [bo];by_cases h3:u.2=0
   ·rw [if_pos h3,if_pos h3,h3]
    exact Mf u.1
   ·rw [if_neg h3,if_neg h3];rfl
  ·rw [if_neg h2,if_neg h2,if_pos rfl]
   exact Mf Blc
 ·rw [if_neg h,if_neg h];rfl
theorem aGg (x:Int):-9223372036854775808<=w64 x/\w64 x<=9223372036854775807:=by
 have:w64 x=IntKind.wrap .i64 x:=rfl;rw [this,IntKind.wrap_i64];omega
theorem atw {x y:Int}(h:y=w64 x):w64 (1*y)=y:=by
 subst h;have:=aGg x;rw [Int.one_mul,aj (by omega) (by omega)]
theorem axH (A:Ask)(l:L5)(n:Nat)(e:Int):w64 (1*(gX A l n e).1.1)=(gX A l n e).1.1/\w64 (1*(gX A l n e).1.2.1)=(gX A l n e).1.2.1/\w64 (1*(gX A l n e).1.2.2.1)=(gX A l n e).1.2.2.1/\w64 (1*(gX A l n e).1.2.2.2)=(gX A l n e).1.2.2.2:=by
 have key:∀ a b c d e1,w64 (1*(rG A l a b c d e1).1.1)=(rG A l a b c d e1).1.1/\w64 (1*(rG A l a b c d e1).1.2.1)=(rG A l a b c d e1).1.2.1/\w64 (1*(rG A l a b c d e1).1.2.2.1)=(rG A l a b c d e1).1.2.2.1/\w64 (1*(rG A l a b c d e1).1.2.2.2)=(rG A l a b c d e1).1.2.2.2:=
  fun a b c d e1=>⟨atw rfl,atw rfl,atw rfl,atw rfl⟩
 unfold gX;rw [fq,cX];split
 ·split
  ·exact key _ _ _ _ _
  ·exact key _ _ _ _ _
 ·exact key _ _ _ _ _
theorem Vt {A:Ask}(h:ckA A=0){i:Nat}{l:L5}(hl:A.ls[i]?=some l)(e:Int){k:DC4 α} :
  kP α e A.ix A.s1 A.s2 A.w1 A.w2 (A.ls.map rL) A.oi A.ol ((i+1:Nat):Int) true k=bnd (eD A l (i+1) 2 e) (dk k) /\
  kP α e A.ix A.s1 A.s2 A.w1 A.w2 (A.ls.map rL) A.oi A.ol ((i+1:Nat):Int) false k=bnd (eD A l (i+1) 1 e) (dk k):=by
 obtain⟨q1,q2,q3,q4⟩:=axH A l (i+1) e;constructor
 ·rw [kP,af,JV,Ym h hl,sp,cX,aP]
  dsimp only [KP];rw [po,af,xF,ap,Ja,af,WO];exact W3
 ·rw [kP,af,JV,Ym h hl,sp,cX,aP,q1,q2,q3,q4]
  dsimp only [KP];rw [po,af,xF,al];exact W3
theorem Pv (A:Ask)(l:L5)(n:Nat)(t:Int){e:Int}(h:e ≠ 0):eD A l n t e=(Bl0,e):=by
 have ht:(gX A l n e).2=e:=by
  unfold gX;rw [rz A n h,fq,cX,vH h];split
  ·rfl
  ·rfl
 rw [sp,cX,ht];exact if_neg h
abbrev azg (α:Type):=Int->Int->Int->Int->Int->Int->Int->Int->Int->Int->Int->Int->Int->Option α
def KMd (k:azg α)(u:Mt × Int):Option α:=
 k u.1.1.b.1 u.1.1.b.2.1 u.1.1.b.2.2 u.1.2.1.b.1 u.1.2.1.b.2.1 u.1.2.1.b.2.2 u.1.2.2.1.b.1 u.1.2.2.1.b.2.1 u.1.2.2.1.b.2.2 u.1.2.2.2.b.1 u.1.2.2.2.b.2.1 u.1.2.2.2.b.2.2 u.2
def Blh:Bl:=⟨(524288,0,0),by decide⟩
theorem abJ:yW 1 2=(Blh,0):=rfl
theorem ag7 (e:Int)(b:Bl){k:DC4 α}:eE α e 1048576 0 0 b.b.1 b.b.2.1 b.b.2.2 k=bnd (two fB e Bl1 b) (dk k):=we e Bl1 b
theorem adK (e:Int)(b:Bl){k:DC4 α}:mw α e 1048576 0 0 b.b.1 b.b.2.1 b.b.2.2 k=bnd (two jF e Bl1 b) (dk k):=J3 e Bl1 b
theorem awj (e:Int)(a:Bl){k:DC4 α}:ci α e a.b.1 a.b.2.1 a.b.2.2 524288 0 0 k=bnd (two bB e a Blh) (dk k):=mS e a Blh
theorem zX {k:Option α}:mm α k=k:=by rw [mm,af,Vb]
theorem apW {k:Option α}:ya α k=k:=by rw [ya,af,RA]
theorem aoF (e:Int)(y g:Bl){k:azg α}:xy α e y.b.1 y.b.2.1 y.b.2.2 g.b.1 g.b.2.1 g.b.2.2 k=KMd k (yc e y g):=by
 unfold yc;simp only [xy,af,WV,zX,apW,ag7,adK,awj,Ad,mS,aP,dk];by_cases h:e=0
 ·subst h
  have:t7 0 1 2=(Blh,0):=abJ;rw [this];rfl
 ·rw [uA h]
  simp only [bO h];rfl
theorem auq (e:Int)(p m:Mt){k:azg α} :
  yh α e p.1.b.1 p.1.b.2.1 p.1.b.2.2 p.2.1.b.1 p.2.1.b.2.1 p.2.1.b.2.2 p.2.2.1.b.1 p.2.2.1.b.2.1 p.2.2.1.b.2.2 p.2.2.2.b.1 p.2.2.2.b.2.1 p.2.2.2.b.2.2
   m.1.b.1 m.1.b.2.1 m.1.b.2.2 m.2.1.b.1 m.2.1.b.2.1 m.2.1.b.2.2 m.2.2.1.b.1 m.2.2.1.b.2.1 m.2.2.1.b.2.2 m.2.2.2.b.1 m.2.2.2.b.2.1 m.2.2.2.b.2.2 k=KMd k (xw e p m):=by
 unfold xw;simp only [yh,af,Yt,we,mS,aP,dk];rfl
end Go.AM.K

namespace Go.AM.K
set_option linter.unusedVariables false
set_option linter.unusedSimpArgs false
variable {α:Type}
abbrev awS (α:Type):=Int->Int->Int->Int->Int->Int->Int->Int->Int->Int->Int->Int->Int->Int->Int->Int->Option α
def KTd (k:awS α)(u:(Mt × Bl) × Int):Option α:=
 k u.1.1.1.b.1 u.1.1.1.b.2.1 u.1.1.1.b.2.2 u.1.1.2.1.b.1 u.1.1.2.1.b.2.1 u.1.1.2.1.b.2.2 u.1.1.2.2.1.b.1 u.1.1.2.2.1.b.2.1 u.1.1.2.2.1.b.2.2 u.1.1.2.2.2.b.1 u.1.1.2.2.2.b.2.1 u.1.1.2.2.2.b.2.2 u.1.2.b.1 u.1.2.b.2.1 u.1.2.b.2.2 u.2
theorem AT {e:Int}(h:e ≠ 0)(y g:Bl):(yc e y g).2=e:=by
 unfold yc;simp only [uA h,aP,bO h]
theorem Qk {e:Int}(h:e ≠ 0)(p m:Mt):(xw e p m).2=e:=by
 unfold xw;simp only [aP,bO h]
theorem zK (A:Ask)(fs:Bool)(ls:List L5)(n:Nat)(p:Mt)(a:Bl){e:Int}(h:e ≠ 0):zB A fs ls n p a e=((p,a),e):=by
 cases ls with
 | nil=>rfl
 | cons l ls=>exact if_neg h
def yt (A:Ask)(fs:Bool)(l:L5)(n:Nat)(p:Mt)(a:Bl)(e:Int):(Mt × Bl) × Int:=
 bnd (cj A n e) fun y e1=>bnd (eD A l n 2 e1) fun g e2=>
   if fs=true then
    bnd (eD A l n 1 e2) fun h e3=>bnd (two bB e3 a h) fun b e4=>oO (yc e4 y g) fun m e5=>oO (xw e5 p m) fun q e6=>((q,b),e6)
   else oO (yc e2 y g) fun m e3=>oO (xw e3 p m) fun q e4=>((q,a),e4)
theorem asQ (A:Ask)(fs:Bool)(l:L5)(ls:List L5)(n:Nat)(p:Mt)(a:Bl):zB A fs (l::ls) n p a 0=zB A fs ls (n+1) (yt A fs l n p a 0).1.1 (yt A fs l n p a 0).1.2 (yt A fs l n p a 0).2:=by
 rw [GT,if_pos rfl];unfold yt;simp only [aP,uD];cases fs
 ·rfl
 ·rfl
theorem auI (A:Ask)(fs:Bool)(l:L5)(n:Nat)(p:Mt)(a:Bl){e:Int}(h:e ≠ 0):(yt A fs l n p a e).2=e:=by
 unfold yt;simp only [Ax A n h,Pv A l n _ h,aP,uD,bO h];cases fs
 ·exact (Qk (by rw [AT h];exact h) p _).trans (AT h _ _)
 ·exact (Qk (by rw [AT h];exact h) p _).trans (AT h _ _)
theorem auv {A:Ask}(h:ckA A=0){fs:Bool}{K:awS α}{Z:Int->Option α}{k1:Int->Option α}
  {k2:Int->Bool->Int->Int->Int->Int->Int->Int->Int->Int->Int->Int->Int->Int->Int->Int->Int->Int->Option α}
  (hz:∀ m a e,e ≠ 0->KTd K ((m,a),e)=Z e) (h1:∀ e,k1 e=Z e)
  (h2:∀ x b e (m:Mt) (a:Bl),k2 x b e m.1.b.1 m.1.b.2.1 m.1.b.2.2 m.2.1.b.1 m.2.1.b.2.1 m.2.1.b.2.2 m.2.2.1.b.1 m.2.2.1.b.2.1 m.2.2.1.b.2.2 m.2.2.2.b.1 m.2.2.2.b.2.1 m.2.2.2.b.2.2 a.b.1 a.b.2.1 a.b.2.2=KTd K ((m,a),e)) :
  ∀ (rest:List L5) (i n:Nat) (m:Mt) (a:Bl) (e:Int),A.ls.drop i=rest->i<=A.ls.length->rest.length < n ->
  jv α fs A.ix A.s1 A.s2 A.pol A.w1 A.w2 (A.ls.map rL) A.oi A.ol k1 k2 n ((i+1:Nat):Int) e m.1.b.1 m.1.b.2.1 m.1.b.2.2 m.2.1.b.1 m.2.1.b.2.1 m.2.1.b.2.2 m.2.2.1.b.1 m.2.2.1.b.2.1 m.2.2.1.b.2.2 m.2.2.2.b.1 m.2.2.2.b.2.1 m.2.2.2.b.2.2 a.b.1 a.b.2.1 a.b.2.2=
   KTd K (zB A fs rest (i+1) m a e):=by
 obtain⟨_,_,_,_,h40,_⟩:=jY h;intro rest
 induction rest with
 | nil=>
  intro i n m a e hd hi hn;obtain⟨n,rfl⟩:∃ n',n=n'+1:=⟨n - 1,by simp only [List.length_nil] at hn;omega⟩
  have hl:A.ls.length<=i:=List.drop_eq_nil_iff.1 hd;simp only [jv,pm,List.length_map];rw [decide_eq_false (by omega),al,h2];rfl
 | cons l ls ih=>
  intro i n m a e hd hi hn;obtain⟨n,rfl⟩:∃ n',n=n'+1:=⟨n - 1,by omega⟩
  have hl:i < A.ls.length:=by
   by_cases h:i < A.ls.length
   ·exact h
   ·rw [List.drop_eq_nil_of_le (by omega)] at hd;cases hd
  have hg:A.ls[i]?=some l:=by
   have:=congrArg List.head? hd;rw [List.head?_drop] at this;exact this
  have hd':A.ls.drop (i+1)=ls:=by
   have:=congrArg List.tail hd;rw [List.tail_drop] at this;exact this
  have hw:w64 (((i+1:Nat):Int)+1)=((i+1+1:Nat):Int):=by rw [aj (by omega) (by omega)];omega
  have hi1:i+1 < 1000000:=by omega
  have hn':ls.length < n:=by simp only [List.length_cons] at hn;omega
  have ih':∀ (m:Mt) (a:Bl) (e:Int),_:=fun m a e=>ih (i+1) n m a e hd' (by omega) hn';have e1:∀ (e:Int) (k:DC4 α),kP α e A.ix A.s1 A.s2 A.w1 A.w2 (A.ls.map rL) A.oi A.ol ((i+1:Nat):Int) true k=bnd (eD A l (i+1) 2 e) (dk k):=fun e k=>(Vt h hg e).1;have e2:∀ (e:Int) (k:DC4 α),kP α e A.ix A.s1 A.s2 A.w1 A.w2 (A.ls.map rL) A.oi A.ol ((i+1:Nat):Int) false k=bnd (eD A l (i+1) 1 e) (dk k):=fun e k=>(Vt h hg e).2;have key:jv α fs A.ix A.s1 A.s2 A.pol A.w1 A.w2 (A.ls.map rL) A.oi A.ol k1 k2 (n+1) ((i+1:Nat):Int) e m.1.b.1 m.1.b.2.1 m.1.b.2.2 m.2.1.b.1 m.2.1.b.2.1 m.2.1.b.2.2 m.2.2.1.b.1 m.2.2.1.b.2.1 m.2.2.1.b.2.2 m.2.2.2.b.1 m.2.2.2.b.2.1 m.2.2.2.b.2.2 a.b.1 a.b.2.1 a.b.2.2=
    if (yt A fs l (i+1) m a e).2=0 then KTd K (zB A fs ls (i+1+1) (yt A fs l (i+1) m a e).1.1 (yt A fs l (i+1) m a e).1.2 (yt A fs l (i+1) m a e).2) else Z (yt A fs l (i+1) m a e).2:=by
   simp only [jv,pm,List.length_map];rw [decide_eq_true (by omega),ap];unfold yt;simp only [oK,af,GJ,AO h hi1,e1,e2,mS,aoF,auq,aP,uD,dk,KMd,hw,ih',h1,bo];cases fs
   ·rw [al];rfl
   ·rw [ap];rfl
  rw [key];by_cases c:e=0
  ·subst c
   rw [asQ];by_cases c2:(yt A fs l (i+1) m a 0).2=0
   ·rw [if_pos c2]
   ·rw [if_neg c2,zK A fs ls _ _ _ c2]
    exact (hz _ _ _ c2).symm
  ·rw [auI A fs l _ m a c,if_neg c,zK A fs (l::ls) _ m a c]
   exact (hz _ _ _ c).symm
theorem ata {A:Ask}(h:ckA A=0)(fs:Bool)(e:Int){k:awS α}(hz:∀ (m m':Mt) (a a':Bl) (e:Int),e ≠ 0->KTd k ((m,a),e)=KTd k ((m',a'),e)) :
  CR α e A.ix A.s1 A.s2 A.pol A.w1 A.w2 (A.ls.map rL) A.oi A.ol fs k=KTd k (fD A fs e):=by
 have hf:A.ls.length < aF:=by
  obtain⟨_,_,_,_,h40,_⟩:=jY h;have:=bC;omega
 rw [CR,af,Yz,zX,zX,zX,uG,af,Hc];exact auv h (K:=k) (Z:=fun e=>KTd k (((Bl0,Bl0,Bl0,Bl0),Bl0),e)) (fun m a e he=>hz m _ a _ e he) (fun _=>rfl) (fun _ _ _ _ _=>rfl) A.ls 0 aF (Bl1,Bl0,Bl0,Bl1) Bl1 e rfl (Nat.zero_le _) hf
def PW (A:Ask)(tr:Bool)(f:Bl)(p:Mt)(g:Bl)(e2:Int):Bl × Int:=
 bnd (cj A (A.ls.length+1) e2) fun l e3=>
 bnd (two bB e3 p.2.1 l) fun t1 e4=>bnd (two fB e4 p.1 t1) fun b e5=>bnd (two bB e5 p.2.2.2 l) fun t2 e6=>bnd (two fB e6 p.2.2.1 t2) fun c e7=>
 bnd (two bB e7 f b) fun a e8=>bnd (two fB e8 a c) fun d e9=>
 if tr=true then bnd (two fB e9 f f) fun s e10=>bnd (two bB e10 s g) fun z e11=>bnd (two uU e11 z d) fun v e12=>(v,e12)
 else bnd (two jF e9 a c) fun z e10=>bnd (two uU e10 z d) fun v e11=>(v,e11)
theorem OV (A:Ask)(tr:Bool)(e:Int):eI A tr e=PW A tr (cj A 0 e).1 (fD A tr (cj A 0 e).2).1.1 (fD A tr (cj A 0 e).2).1.2 (fD A tr (cj A 0 e).2).2:=by
 unfold eI PW;simp only [aP,ST]
theorem LK (A:Ask)(tr:Bool)(f:Bl)(p:Mt)(g:Bl){e2:Int}(h:(cj A (A.ls.length+1) e2).2 ≠ 0):PW A tr f p g e2=(Bl0,(cj A (A.ls.length+1) e2).2):=by
 unfold PW;simp only [aP,bO h,ite_self]
theorem nV (A:Ask)(tr:Bool)(f:Bl)(p:Mt)(g:Bl){e2:Int}(h:e2 ≠ 0):PW A tr f p g e2=(Bl0,e2):=by
 have e:=Ax A (A.ls.length+1) h;rw [LK A tr f p g (by rw [e];exact h),e]
theorem Bi {A:Ask}(h:ckA A=0)(tr:Bool)(f:Bl)(p:Mt)(g:Bl)(e2:Int){k:DC4 α} :
  jr α e2 A.ix A.s1 A.s2 A.pol (A.ls.map rL) A.oi A.ol (w64 ((((A.ls.map rL).length:Nat):Int)+1))
    (fun (x32:Int) (x33:Int) (x34:Int) (x35:Int)=>ci α x35 p.2.1.b.1 p.2.1.b.2.1 p.2.1.b.2.2 x32 x33 x34
     (fun (x36:Int) (x37:Int) (x38:Int) (x39:Int)=>eE α x39 p.1.b.1 p.1.b.2.1 p.1.b.2.2 x36 x37 x38
      (fun (x40:Int) (x41:Int) (x42:Int) (x43:Int)=>ci α x43 p.2.2.2.b.1 p.2.2.2.b.2.1 p.2.2.2.b.2.2 x32 x33 x34
       (fun (x44:Int) (x45:Int) (x46:Int) (x47:Int)=>eE α x47 p.2.2.1.b.1 p.2.2.1.b.2.1 p.2.2.1.b.2.2 x44 x45 x46
        (fun (x48:Int) (x49:Int) (x50:Int) (x51:Int)=>ci α x51 f.b.1 f.b.2.1 f.b.2.2 x40 x41 x42
         (fun (x52:Int) (x53:Int) (x54:Int) (x55:Int)=>eE α x55 x52 x53 x54 x48 x49 x50
          (fun (x56:Int) (x57:Int) (x58:Int) (x59:Int)=>cK tr
           (eE α x59 f.b.1 f.b.2.1 f.b.2.2 f.b.1 f.b.2.1 f.b.2.2
            (fun (x60:Int) (x61:Int) (x62:Int) (x63:Int)=>ci α x63 x60 x61 x62 g.b.1 g.b.2.1 g.b.2.2
             (fun (x64:Int) (x65:Int) (x66:Int) (x67:Int)=>kQ α x67 x64 x65 x66 x56 x57 x58
              (fun (x68:Int) (x69:Int) (x70:Int) (x71:Int)=>k x68 x69 x70 x71))))
           (mw α x59 x52 x53 x54 x48 x49 x50
            (fun (x72:Int) (x73:Int) (x74:Int) (x75:Int)=>kQ α x75 x72 x73 x74 x56 x57 x58
             (fun (x76:Int) (x77:Int) (x78:Int) (x79:Int)=>k x76 x77 x78 x79))))))))))=DK k (PW A tr f p g e2):=by
 obtain⟨_,_,_,_,h40,_⟩:=jY h;have hw:w64 ((((A.ls.map rL).length:Nat):Int)+1)=((A.ls.length+1:Nat):Int):=by rw [List.length_map,aj (by omega) (by omega)];omega
 unfold PW;simp only [hw,AO h (n:=A.ls.length+1) (by omega),mS,we,J3,Ad,aP,dk];cases tr
 ·rw [al];rfl
 ·rw [ap];rfl
theorem Lr {A:Ask}(h:ckA A=0)(e:Int){k:DC4 α}:jr α e A.ix A.s1 A.s2 A.pol (A.ls.map rL) A.oi A.ol 0 k=bnd (cj A 0 e) (dk k):=AO h (n:=0) (by decide) e
theorem J7 {A:Ask}(h:ckA A=0)(tr:Bool)(e:Int){k:DC4 α} :
  xj α e A.ix A.s1 A.s2 A.pol A.w1 A.w2 (A.ls.map rL) A.oi A.ol tr k=DK k (eI A tr e):=by
 rw [xj,af,YW];refine (Lr h e).trans ?_;rw [aP,OV];dsimp only [dk];generalize cj A 0 e=u;refine (ata h tr u.2 ?_).trans ?_
 ·intro m m' a a' e he
  refine (Bi h tr u.1 m a e).trans (Eq.trans ?_ (Bi h tr u.1 m' a' e).symm);rw [nV A tr u.1 m a he,nV A tr u.1 m' a' he]
 ·exact Bi h tr u.1 _ _ _
end Go.AM.K

namespace Go.AM.K
set_option linter.unusedVariables false
set_option linter.unusedSimpArgs false
variable {α:Type}
def lsB (l:L5):Bool:=l.2.2.2.2 != 0
theorem ars {A:Ask}:∀ (rest:List L5) (i:Nat),A.ls.drop i=rest->i<=A.ls.length->lsy A (rest.length+1) (i+1)=(rest.any lsB || A.ol != 0):=by
 intro rest
 induction rest with
 | nil=>
  intro i hd hi;have hl:A.ls.length<=i:=List.drop_eq_nil_iff.1 hd;show (if (eN A (i+1)).2.2=0 then lsy A 0 (i+1+1) else true)=_;rw [qV (List.getElem?_eq_none_iff.2 hl)];by_cases c:A.ol=0
  ·rw [if_pos c,c];rfl
  ·rw [if_neg c,bne_iff_ne.2 c];rfl
 | cons l ls ih=>
  intro i hd hi;obtain⟨hg,hd'⟩:=bT hd;have hl:=(List.getElem?_eq_some_iff.1 hg).1;show (if (eN A (i+1)).2.2=0 then lsy A (ls.length+1) (i+1+1) else true)=_;rw [mi hg,ih (i+1) hd' (by omega),List.any_cons,Bool.or_assoc];unfold lsB;by_cases c:l.2.2.2.2=0
  ·rw [if_pos c,c];rfl
  ·rw [if_neg c,bne_iff_ne.2 c];rfl
theorem acm (A:Ask):Nt A=(A.ls.any lsB || A.ol != 0):=ars A.ls 0 rfl (Nat.zero_le _)
theorem aui {ls:List L5}(hA:ls.length<=40){k1:Bool->Int->Bool->Option α}{Y:Bool->Option α}(h1:∀ b x z,k1 b x z=Y b) :
  ∀ (rest:List L5) (i n:Nat) (b:Bool),ls.drop i=rest->i<=ls.length->rest.length < n->lg α (ls.map rL) k1 n b (i:Int)=Y (b || rest.any lsB):=by
 intro rest
 induction rest with
 | nil=>
  intro i n b hd hi hn;obtain⟨n,rfl⟩:∃ n',n=n'+1:=⟨n - 1,by simp only [List.length_nil] at hn;omega⟩
  have hl:ls.length<=i:=List.drop_eq_nil_iff.1 hd;rw [lg];simp only [pq,List.length_map];rw [decide_eq_false (by omega),al,h1,List.any_nil,Bool.or_false]
 | cons l rs ih=>
  intro i n b hd hi hn;obtain⟨n,rfl⟩:∃ n',n=n'+1:=⟨n - 1,by omega⟩
  obtain⟨hg,hd'⟩:=bT hd;have hl:=(List.getElem?_eq_some_iff.1 hg).1;have hw:w64 ((i:Int)+1)=((i+1:Nat):Int):=by rw [aj (by omega) (by omega)];omega
  have hn':rs.length < n:=by simp only [List.length_cons] at hn;omega
  rw [lg];simp only [pq,List.length_map];rw [decide_eq_true (by omega),ap,ON hg,hw,ih (i+1) n true hd' (by omega) hn',ih (i+1) n _ hd' (by omega) hn',List.any_cons];cases b
  ·rw [al,Bool.false_or];rfl
  ·rw [ap,Bool.true_or,Bool.true_or]
theorem Ys (A:Ask)(hA:A.ls.length<=40){k:Bool->Option α}:nQ α (A.ls.map rL) A.ol k=k (Nt A):=by
 have hf:A.ls.length < aF:=by have:=bC;omega
 rw [nQ,af,Ri,vb,af,GM,acm,Bool.or_comm];exact aui hA (Y:=k) (fun _ _ _=>rfl) A.ls 0 aF _ rfl (Nat.zero_le _) hf
theorem SB {x y:Int}{k:Int->Int->Option α}:yo α x y k=k (iv x) (iv y):=by
 have e:∀ x:Int,(if x < 1048576 then x else 1048576)=iv x:=fun x=>by unfold iv;split <;> split <;> omega
 rw [yo,af,V7,e,e]
theorem RH {a b c d:Int}{k:Int->Int->Option α}:nG α a b c d k=k (LO b d) (LO a c):=by rw [nG,af,Rk];rfl
theorem PA {A:Ask}{n:Nat}(h:(cj A n 0).2=0):(bJ A n 0).2.2=0:=by
 refine Classical.byContradiction fun c=>?_;unfold cj at h;rw [fq] at h;simp only [jf A n c,aP,bO c,ite_self] at h;by_cases cp:A.pol=0
 ·rw [if_pos cp] at h;exact c h
 ·rw [if_neg cp] at h;exact c h
theorem aDQ (A:Ask)(hA:A.ls.length<=40){st:Bool}{a b c d:Int}{k:Int->Int->Int->Int->Int->Int->Int->Option α} :
  oY α st (nQ α (A.ls.map rL) A.ol fun x=>cK x (nG α a b 0 0 fun x82 x83=>k a b 0 0 x82 x83 0) (k a b 0 0 0 0 0))
   (nQ α (A.ls.map rL) A.ol fun x=>cK x (nG α a b c d fun x85 x86=>k a b c d x85 x86 0) (k a b c d 0 0 0))=KS k (Ek A st a b c d):=by
 rw [oY,af,G8,Ys A hA,Ys A hA,RH,RH,rH,rH,rH];unfold Ek;simp only [apply_ite (KS k),aA6]
theorem atL {A:Ask}(h:ckA A=0){k:Int->Int->Int->Int->Int->Int->Int->Option α} :
  ∃ e:Int,e ≠ 0/\BU α A.ix A.s1 A.s2 A.pol A.w1 A.w2 (A.ls.map rL) A.oi A.ol k=if (gC A).2=0 then KS k (gC A) else KS k (z6,e):=by
 obtain⟨_,_,_,_,h40,_⟩:=jY h;have hw:w64 ((((A.ls.map rL).length:Nat):Int)+1)=((A.ls.length+1:Nat):Int):=by rw [List.length_map,aj (by omega) (by omega)];omega
 have hl:A.ls.length+1 < 1000000:=by omega
 have hs:gC A=bnd (eI A false 0) fun r e1=>bnd (eI A true e1) fun t e2=>bnd (cj A (A.ls.length+1) e2) fun l e3=>
  iI (jz e3 l) fun ul uh _ _ e4=>bnd (cj A 0 e4) fun f e5=>iI (jz e5 f) fun fl fh _ _ e6=>
  zA (bJ A (A.ls.length+1) e6) fun _ st e7=>
  if e7=0 then
   if fl<=0 then (z6,9) else
   kF (ng r) fun bl bh e8=>if e8=0 then
    kF (ng t) fun tl th e9=>if e9=0 then
     Ek A st (iv bl) (iv bh) (iv (dnI (w64 (pos ul*tl)) fh)) (iv (upI (w64 (pos uh*th)) fl))
    else (z6,e9)
   else (z6,e8)
  else (z6,e7):=by unfold gC;rw [if_pos h]
 have amp0:∀ (tr:Bool) {e:Int},e ≠ 0->eI A tr e=(Bl0,e):=fun tr e he=>by
  rw [OV,Ax A 0 he];unfold fD;rw [zK A tr A.ls 1 _ _ he];exact nV A tr _ _ _ he
 have amp_adm:∀ tr:Bool,(eI A tr 0).2=0->(cj A 0 0).2=0/\(cj A (A.ls.length+1) 0).2=0:=fun tr he=>by
  rw [OV] at he;by_cases c:(cj A 0 0).2=0
  ·refine⟨c,?_⟩
   rw [c] at he;by_cases c2:(fD A tr 0).2=0
   ·rw [c2] at he
    refine Classical.byContradiction fun q=>?_;rw [LK A tr _ _ _ q] at he;exact q he
   ·rw [nV A tr _ _ _ c2] at he
    exact absurd he c2
  ·unfold fD at he
   rw [zK A tr A.ls 1 _ _ c,nV A tr _ _ _ c] at he;exact absurd he c
 have zero7:∀ {e:Int},e ≠ 0->(bnd (cj A (A.ls.length+1) e) fun l e3=>
  iI (jz e3 l) fun ul uh _ _ e4=>bnd (cj A 0 e4) fun f e5=>iI (jz e5 f) fun fl fh _ _ e6=>
  zA (bJ A (A.ls.length+1) e6) fun _ st e7=>
  if e7=0 then
   if fl<=0 then (z6,(9:Int)) else
   kF (ng (eI A false 0).1) fun bl bh e8=>if e8=0 then
    kF (ng (eI A true (eI A false 0).2).1) fun tl th e9=>if e9=0 then
     Ek A st (iv bl) (iv bh) (iv (dnI (w64 (pos ul*tl)) fh)) (iv (upI (w64 (pos uh*th)) fl))
    else (z6,e9)
   else (z6,e8)
  else (z6,e7))=(z6,e):=fun he=>by
  simp only [Ax A _ he,aP,cX,vH he,rz A _ he,fq,if_neg he]
 rw [hs,aP,aP];rw [BU,af,Rn,JP,af,Zb,J7 h];by_cases c1:(eI A false 0).2=0
 ·rw [c1] at zero7 ⊢
  by_cases c2:(eI A true 0).2=0
  ·obtain⟨a1,a2⟩:=amp_adm false c1
   have a3:=PA a2;have hv:(bnd (cj A (A.ls.length+1) (eI A true 0).2) fun l e3=>
    iI (jz e3 l) fun ul uh _ _ e4=>bnd (cj A 0 e4) fun f e5=>iI (jz e5 f) fun fl fh _ _ e6=>
    zA (bJ A (A.ls.length+1) e6) fun _ st e7=>
    if e7=0 then
     if fl<=0 then (z6,(9:Int)) else
     kF (ng (eI A false 0).1) fun bl bh e8=>if e8=0 then
      kF (ng (eI A true 0).1) fun tl th e9=>if e9=0 then
       Ek A st (iv bl) (iv bh) (iv (dnI (w64 (pos ul*tl)) fh)) (iv (upI (w64 (pos uh*th)) fl))
      else (z6,e9)
     else (z6,e8)
    else (z6,e7))=if (cj A 0 0).1.lo1<=0 then (z6,9) else Ek A (bJ A (A.ls.length+1) 0).2.1 (iv (eI A false 0).1.eLo) (iv (eI A false 0).1.eHi)
     (iv (dnI (w64 (pos (cj A (A.ls.length+1) 0).1.lo1*(eI A true 0).1.eLo)) (cj A 0 0).1.hi1)) (iv (upI (w64 (pos (cj A (A.ls.length+1) 0).1.hi1*(eI A true 0).1.eHi)) (cj A 0 0).1.lo1)):=by
    rw [c2,aP,a2,cX];unfold jz;rw [if_pos rfl];dsimp only;rw [aP,a1,if_pos rfl,cX];dsimp only;rw [fq,a3,if_pos rfl];unfold ng;simp only [ki,if_true]
   rw [hv];refine⟨9,by decide,?_⟩;dsimp only [DK];rw [c1,bo,if_pos rfl,Da,af,IE];refine (J7 h true 0).trans ?_;dsimp only [DK];rw [c2,bo,if_pos rfl,hw];refine (Lr h 0).trans ?_;rw [aP,a1];dsimp only [dk];refine (AO h hl 0).trans ?_;rw [aP,a2];dsimp only [dk];refine (ada h hl 0).trans ?_;rw [A0,A0,Ku,aK];have g:=(cj A 0 0).1.bd;have b1:=axe (eI A true 0).1;have b2:=(cj A (A.ls.length+1) 0).1.bd;have p1:(cj A (A.ls.length+1) 0).1.lo1<=134217728:=by unfold Bl.lo1;omega
   have p2:(cj A (A.ls.length+1) 0).1.hi1<=134217728:=by unfold Bl.hi1;omega
   have q1:=OO p1;have q2:=OO p2;by_cases c3:(cj A 0 0).1.lo1<=0
   ·rw [if_pos c3,if_pos c3,if_neg (show ¬ (9:Int)=0 by decide)];rfl
   ·rw [if_neg c3,if_neg c3,Zi,Zi,SB]
    have hh:0 < (cj A 0 0).1.hi1/\(cj A 0 0).1.hi1<=134217728/\(cj A 0 0).1.lo1<=134217728:=by
     unfold Bl.lo1 at *;unfold Bl.hi1;omega
    have r1:=mc q1.1 q1.2 b1.1.1 b1.1.2;have r2:=mc q2.1 q2.2 b1.2.1 b1.2.2;have s1:w64 (pos (cj A (A.ls.length+1) 0).1.lo1*(eI A true 0).1.eLo)=pos (cj A (A.ls.length+1) 0).1.lo1*(eI A true 0).1.eLo:=aj (by have:(0:Int)<=pos (cj A (A.ls.length+1) 0).1.lo1*(ng (eI A true 0).1).1:=r1.1;exact Int.le_trans (by decide) this) (by have:pos (cj A (A.ls.length+1) 0).1.lo1*(ng (eI A true 0).1).1<=134217728*8589934592:=r1.2;exact Int.le_trans this (by decide));have s2:w64 (pos (cj A (A.ls.length+1) 0).1.hi1*(eI A true 0).1.eHi)=pos (cj A (A.ls.length+1) 0).1.hi1*(eI A true 0).1.eHi:=aj (by have:(0:Int)<=pos (cj A (A.ls.length+1) 0).1.hi1*(ng (eI A true 0).1).2.1:=r2.1;exact Int.le_trans (by decide) this) (by have:pos (cj A (A.ls.length+1) 0).1.hi1*(ng (eI A true 0).1).2.1<=134217728*34359738368:=r2.2;exact Int.le_trans this (by decide));have t1:0<=pos (cj A (A.ls.length+1) 0).1.lo1*(eI A true 0).1.eLo:=r1.1;have t2:0<=pos (cj A (A.ls.length+1) 0).1.hi1*(eI A true 0).1.eHi:=r2.1;have t3:pos (cj A (A.ls.length+1) 0).1.hi1*(eI A true 0).1.eHi<=4611686018427387904:=Int.le_trans r2.2 (by decide);rw [s1,s2,Mb.f91_raw (by omega),Mb.f69_raw (by omega),Cm t1 hh.1,yn t2 t3 (by omega) (by omega),SB];refine (aDQ A h40).trans ?_;have f0:∀ (st:Bool) (a b c d:Int),(Ek A st a b c d).2=0:=fun st a b c d=>by
     unfold Ek;split
     ·split <;> rfl
     ·split <;> rfl
    rw [if_pos (f0 _ _ _ _ _)]
  ·rw [zero7 c2]
   refine⟨(eI A true 0).2,c2,?_⟩;dsimp only [DK];rw [c1,bo,if_pos rfl,Da,af,IE];refine (J7 h true 0).trans ?_;dsimp only [DK];rw [bo,if_neg c2,if_neg c2];rfl
 ·rw [amp0 true c1]
  dsimp only;rw [amp0 true c1] at zero7;rw [zero7 c1];refine⟨(eI A false 0).2,c1,?_⟩;dsimp only [DK];rw [bo,if_neg c1,if_neg c1];rfl
theorem aKP {s a b c d e f:Int}(hs:0<=s/\s<=2){k:Int->Int->Option α} :
  ixK [[DC.v (.int .i64 a),DC.v (.int .i64 b)],[DC.v (.int .i64 c),DC.v (.int .i64 d)],[DC.v (.int .i64 e),DC.v (.int .i64 f)]] s 2
    (ldK [[DC.v (.int .i64 a),DC.v (.int .i64 b)],[DC.v (.int .i64 c),DC.v (.int .i64 d)],[DC.v (.int .i64 e),DC.v (.int .i64 f)]] (Int.toNat s) 0 [.int .i64,.int .i64] k)=
   k (arM s (a,b,c,d,e,f)).1 (arM s (a,b,c,d,e,f)).2:=by
 have:s=0\/s=1\/s=2:=by omega
 rcases this with rfl | rfl | rfl
 ·rfl
 ·rfl
 ·rfl
theorem arJ {d:Dm}(hs:0<=d.sh/\d.sh<=2){ls:List L5}{oi ol:Int}(h:ckA (j3 d ls oi ol)=0){k:Int->Int->Int->Option α} :
  ∃ e:Int,e ≠ 0/\CZ α (ls.map rL) oi ol d.sh d.pol d.ix d.w1 d.w2 d.s1 d.s2 k=if (r9 d ls oi ol).2=0 then k (r9 d ls oi ol).1.1 (r9 d ls oi ol).1.2 0 else k 0 0 e:=by
 rw [CZ,af,XA];obtain⟨e,he,hk⟩:=atL (α:=α) h (k:=fun (x18:Int) (x19:Int) (x20:Int) (x21:Int) (x22:Int) (x23:Int) (x24:Int)=>cK (x24 != 0)
   (k 0 0 x24)
   (ixK [[DC.v (.int .i64 x18),DC.v (.int .i64 x19)],[DC.v (.int .i64 x20),DC.v (.int .i64 x21)],[DC.v (.int .i64 x22),DC.v (.int .i64 x23)]] d.sh 2
    (ldK [[DC.v (.int .i64 x18),DC.v (.int .i64 x19)],[DC.v (.int .i64 x20),DC.v (.int .i64 x21)],[DC.v (.int .i64 x22),DC.v (.int .i64 x23)]] (Int.toNat d.sh) 0 [.int .i64,.int .i64]
     (fun (x25:Int) (x26:Int)=>k x25 x26 0))))
 refine⟨e,he,hk.trans ?_⟩;clear hk;unfold KS r9;dsimp only;by_cases c:(gC (j3 d ls oi ol)).2=0
 ·rw [if_pos c,if_pos c,if_pos rfl,bo,if_pos c,aKP hs]
 ·rw [if_neg c,if_neg c,if_neg c,bo,if_neg he]
theorem aqu {a b c d:Int}{k1:Option α}{k2:Bool->Option α}{Y:Option α}(h2:∀ b,k2 b=Y):lR α a b c d k1 k2=if w64 (a*1048576)<=w64 (c*10000)/\w64 (d*10000)<=w64 (b*1048576) then k1 else Y:=by
 rw [lR,af,HF,aK,aK];by_cases c1:w64 (a*1048576)<=w64 (c*10000)
 ·rw [if_pos c1]
  by_cases c2:w64 (d*10000)<=w64 (b*1048576)
  ·rw [if_pos c2,if_pos ⟨c1,c2⟩]
  ·rw [if_neg c2,if_neg (fun h=>c2 h.2),h2]
 ·rw [if_neg c1,if_neg (fun h=>c1 h.1),h2]
theorem UI {d:Dm}(hs:0<=d.sh/\d.sh<=2){ls:List L5}{oi ol:Int}(h:ckA (j3 d ls oi ol)=0){k:Int->Option α} :
  ed α (ls.map rL) oi ol d.sh d.pol d.ix d.lo d.hi d.w1 d.w2 d.s1 d.s2 k=k (gx d ls oi ol):=by
 rw [ed,af,Y5];obtain⟨e,he,hk⟩:=arJ (α:=α) hs h (k:=fun (x18:Int) (x19:Int) (x20:Int)=>cK (x20 != 0)
   (k 1)
   (lR α d.lo d.hi x18 x19
    (k 2)
    (fun (x34:Bool)=>cK (decide ((w64 (x19*10000)) < (w64 (d.lo*1048576))))
     (k 0)
     (cK (decide ((w64 (d.hi*1048576)) < (w64 (x18*10000))))
      (k 0)
      (k 1)))))
 refine hk.trans ?_;clear hk;unfold gx;generalize r9 d ls oi ol=u;by_cases c:u.2=0
 ·rw [if_pos c,if_pos c,bo,if_pos rfl,aqu (fun _=>rfl),aK,aK]
  split
  ·rfl
  ·split
   ·rfl
   ·split <;> rfl
 ·rw [if_neg c,if_neg c,bo,if_neg he]
end Go.AM.K
