/- Texts of one kind, put together. -/
import Derived.Test.YtffcelhcekillaaGreatYe
import Derived.Test.YtffcelhcekillaaGreatYc
import Derived.Test.YtffcelhcekillaaGreatYd
namespace Go.AM.K
set_option linter.unusedVariables false
set_option linter.unusedSimpArgs false
variable {α:Type}
abbrev DC4 (α:Type):=Int->Int->Int->Int->Option α
def dk (k:DC4 α)(u:Bl)(e:Int):Option α:=k u.b.1 u.b.2.1 u.b.2.2 e
theorem qs (e:Int){u:Bl × Int}(hn:Nz u){k:DC4 α}:DK (fun x y r e'=>du α e x y r e' k) u=bnd (if e=0 then u else (Bl0,e)) (dk k):=by
 rw [aP];unfold DK dk;simp only [du,af,WI,bj];by_cases h:e=0
 ·rw [if_pos h,if_pos h]
  by_cases h2:u.2=0
  ·rw [if_pos h2,h,h2]
  ·rw [if_neg h2,hn h2];rfl
 ·rw [if_neg h,if_neg h];rfl
theorem tB {e:Int}{u:Bl × Int}(hn:Nz u){k:DC4 α}:(if e=0 then DK (fun x y r e'=>du α e x y r e' k) u else k 0 0 0 e)=bnd (if e=0 then u else (Bl0,e)) (dk k):=by
 by_cases h:e=0
 ·rw [if_pos h];exact qs e hn
 ·rw [if_neg h,if_neg h,aP];rfl
theorem vw (e:Int)(a b:Bl){k:DC4 α}:eB α e a.b.1 a.b.2.1 a.b.2.2 b.b.1 b.b.2.1 b.b.2.2 k=bnd (two fA e a b) (dk k):=by
 rw [eB,af,Vt,apa,bj];exact tB (uT _)
theorem mZ (e:Int)(a b:Bl){k:DC4 α}:ci α e a.b.1 a.b.2.1 a.b.2.2 b.b.1 b.b.2.1 b.b.2.2 k=bnd (two bA e a b) (dk k):=by
 rw [ci,af,U9,anI,bj];exact tB (uT _)
theorem Ie (e:Int)(a b:Bl){k:DC4 α}:mu α e a.b.1 a.b.2.1 a.b.2.2 b.b.1 b.b.2.1 b.b.2.2 k=bnd (two jk e a b) (dk k):=by
 rw [mu,af,V6,auM,bj];exact tB (uT _)
theorem zO (e:Int)(a b:Bl){k:DC4 α}:kZ α e a.b.1 a.b.2.1 a.b.2.2 b.b.1 b.b.2.1 b.b.2.2 k=bnd (two vj e a b) (dk k):=by
 rw [kZ,af,RA,amG,bj];exact tB (axU _ _)
theorem PK {e lo hi:Int}{k:DC4 α}:g6 α lo hi (fun x y r e'=>du α e x y r e' k)=bnd (iJ e lo hi) (dk k):=by
 rw [zP];exact qs e (vW _ _)
theorem axK (e:Int)(a:Bl){k:DC4 α}:xr α a.b.1 a.b.2.1 a.b.2.2 (fun x y r e'=>du α e x y r e' k)=bnd (if e=0 then oQ a else (Bl0,e)) (dk k):=by
 rw [ani];exact qs e (ath _)
theorem asD {e lo hi:Int}{k:DC4 α}:xy α lo hi (fun x y r e'=>du α e x y r e' k)=bnd (if e=0 then jp lo hi else (Bl0,e)) (dk k):=by
 rw [ann];exact qs e (ahl _ _)
theorem aFr {e lo hi:Int}{k:DC4 α}:xG α lo hi (fun x y r e'=>du α e x y r e' k)=bnd (if e=0 then DT lo hi else (Bl0,e)) (dk k):=by
 rw [aus];exact qs e (aw1 _ _)
theorem awL {e n:Int}(h1:0<=n)(h2:n<=80000){k:DC4 α}:yj α n 10000 (fun x y r e'=>du α e x y r e' k)=bnd (tQ e n 10000) (dk k):=by
 rw [amt h1 h2];exact qs e (WB _ _)
theorem Bf {n d:Int}(h0:0<=n)(hd:0 < d):flr n d=dnI n d:=by
 unfold flr dnI;rw [if_neg];rw [Int.tmod_eq_emod_of_nonneg h0];have:=Int.emod_nonneg n (Int.ne_of_gt hd);omega
theorem yE {n d:Int}(h0:0<=n)(h1:n<=4611686018427387904)(hd:0 < d)(hd2:d<=1000000000):cel n d=upI n d:=by
 rw [rx hd (by omega) (by omega) (by omega)];unfold upI cdv;rw [aj (n:=n+d) (by omega) (by omega),aj (n:=n+d - 1) (by omega) (by omega),Int.tdiv_eq_ediv_of_nonneg (by omega)];have a:=Int.ediv_nonneg (a:=n+d - 1) (by omega) (Int.le_of_lt hd);have b:=Int.ediv_le_self (a:=n+d - 1) d (by omega);rw [aj (by omega) (by omega)];have e:=Int.emod_add_mul_ediv (n+d - 1) d;have e1:=Int.emod_nonneg (n+d - 1) (Int.ne_of_gt hd);have e2:=Int.emod_lt_of_pos (n+d - 1) hd;have:=(Int.ediv_emod_unique (a:=-n) (q:=-((n+d - 1) / d)) (r:=d - 1 - (n+d - 1) % d) hd).2 ⟨by rw [Int.mul_neg];omega,by omega,by omega⟩;rw [this.1,Int.neg_neg]
theorem amq:∀ {ls:List L5},lsE ls=0->∀ l ∈ ls,uc l=0:=by
 intro ls
 induction ls with
 | nil=>intro _ l hl;cases hl
 | cons x xs ih=>
  intro h l hl;unfold lsE at h;by_cases c:uc x=0
  ·rw [if_pos c] at h
   rcases List.mem_cons.1 hl with rfl | hl
   ·exact c
   ·exact ih h l hl
  ·rw [if_neg c] at h;exact absurd h c
theorem as3 {l:L5}(h:uc l=0):((5000<=l.1/\l.1<=80000)/\5000<=l.2.1/\l.2.1<=80000)/\((0<=l.2.2.1/\l.2.2.1<=1000000)/\0<=l.2.2.2.1/\l.2.2.2.1<=1000000)/\0<=l.2.2.2.2/\l.2.2.2.2<=80000:=by
 unfold uc at h;by_cases c:Z0 l=true
 ·exact of_decide_eq_true c
 ·rw [if_neg c] at h;exact absurd h (by decide)
theorem afO {A:Ask}(h:ckA A=0){i:Nat}{l:L5}(hl:A.ls[i]?=some l):((5000<=l.1/\l.1<=80000)/\5000<=l.2.1/\l.2.1<=80000)/\((0<=l.2.2.1/\l.2.2.1<=1000000)/\0<=l.2.2.2.1/\l.2.2.2.1<=1000000)/\0<=l.2.2.2.2/\l.2.2.2.2<=80000:=by
 obtain⟨_,_,_,_,_,h6,_⟩:=j0 h;exact as3 (amq h6 l (List.mem_of_getElem? hl))
theorem ayQ {A:Ask}(h:ckA A=0)(n:Nat):(5000<=(eO A n).1/\(eO A n).1<=80000)/\(5000<=(eO A n).2.1/\(eO A n).2.1<=80000)/\0<=(eO A n).2.2/\(eO A n).2.2<=80000:=by
 obtain⟨h1,_,_,_,_,_,h7,h8⟩:=j0 h;cases n with
 | zero=>exact⟨h1,h1,by show (0:Int)<=0;omega,by show (0:Int)<=80000;omega⟩
 | succ n=>
  cases hl:A.ls[n]? with
  | none=>rw [p8 hl];exact⟨h7,h7,h8⟩
  | some l=>
   have:=afO h hl;rw [mi hl];exact⟨this.1.1,this.1.2,this.2.2⟩
def thE (A:Ask)(n:Nat):Int × Int:=match n with
 | 0=>(0,0)
 | n+1=>match A.ls[n]? with
  | some l=>(l.2.2.1,l.2.2.2.1)
  | none=>(0,0)
theorem JF (A:Ask){n:Nat}(hn:n < 1000000){k:Int->Int->Int->Int->Int->Option α} :
  rY α A.ix (A.ls.map rL) A.oi A.ol (n:Int) k=k (eO A n).1 (eO A n).2.1 (thE A n).1 (thE A n).2 (eO A n).2.2:=by
 simp only [rY,af,WM,gw,aJ,List.length_map];cases n with
 | zero=>rw [if_pos (show ((0:Nat):Int)=0 from rfl)];rfl
 | succ n=>
  rw [if_neg (by omega)];cases h:A.ls[n]? with
  | some l=>
   have hl:n < A.ls.length:=(List.getElem?_eq_some_iff.1 h).1;rw [if_neg (by omega),af5 h (by omega),mi h];unfold thE;simp only [h]
  | none=>
   have hl:A.ls.length<=n:=List.getElem?_eq_none_iff.1 h;rw [if_pos (by omega),p8 h];unfold thE;simp only [h]
theorem atU (e lo hi:Int):Nz (iJ e lo hi):=by
 unfold iJ;split
 ·exact vW _ _
 ·exact zo _
theorem awB (e n d:Int):Nz (tQ e n d):=by
 unfold tQ;split
 ·exact WB _ _
 ·exact zo _
theorem bR {op:Bl->Bl->Bl × Int}{e:Int}(h:e ≠ 0)(a b:Bl):two op e a b=(Bl0,e):=if_neg h
theorem tc {e lo hi:Int}(h:e ≠ 0):iJ e lo hi=(Bl0,e):=if_neg h
theorem uy {e n d:Int}(h:e ≠ 0):tQ e n d=(Bl0,e):=if_neg h
theorem wv {e:Int}{a:Bl}(h:e ≠ 0):jt e a=((0,0,0,0),e):=if_neg h
theorem i9 (A:Ask)(n:Nat){e:Int}(h:e ≠ 0):eu A n e=(Bl0,e):=by
 unfold eu;simp only [tc h,aP,uy h,bR h,if_neg h,ite_self]
theorem ro (A:Ask)(n:Nat){e:Int}(h:e ≠ 0):bH A n e=(Bl0,false,e):=by
 unfold bH;simp only [i9 A n h,tc h,aP,bR h,wv h,cT,if_neg h,ite_self]
theorem AJ (A:Ask)(n:Nat){e:Int}(h:e ≠ 0):ck A n e=(Bl0,e):=by
 unfold ck;simp only [ro A n h,i9 A n h,aP,fq,bR h,ite_self]
theorem ZQ {A:Ask}(h:ckA A=0){n:Nat}(hn:n < 1000000)(e:Int){k:DC4 α} :
  yP α e A.ix (A.ls.map rL) A.oi A.ol (n:Int) k=bnd (eu A n e) (dk k):=by
 obtain⟨m1,m2,m3⟩:=ayQ h n;have e1:flr (w64 ((eO A n).1*1048576)) 10000=dnI (w64 ((eO A n).1*1048576)) 10000:=Bf (by rw [aj (by omega) (by omega)];omega) (by decide);have e2:cel (w64 ((eO A n).2.1*1048576)) 10000=upI (w64 ((eO A n).2.1*1048576)) 10000:=yE (by rw [aj (by omega) (by omega)];omega) (by rw [aj (by omega) (by omega)];omega) (by decide) (by decide);rw [yP,af,Yw,JF A hn,Mb.f91_raw (by decide),Mb.f69_raw (by decide),e1,e2];refine PK.trans ?_;rw [aP,aP];show _=DK k (eu A n e);unfold eu;rw [aP];have nu:=atU e (dnI (w64 ((eO A n).1*1048576)) 10000) (upI (w64 ((eO A n).2.1*1048576)) 10000);generalize iJ e (dnI (w64 ((eO A n).1*1048576)) 10000) (upI (w64 ((eO A n).2.1*1048576)) 10000)=u at *;dsimp only [dk];rw [gw];by_cases c:(eO A n).2.2=0
 ·rw [if_pos c,if_pos c];rfl
 ·rw [if_neg c,if_neg c,bj]
  by_cases c2:u.2=0
  ·rw [if_pos c2]
   refine (awL m3.1 m3.2).trans ?_;rw [aP,aP];have nv:=awB u.2 (eO A n).2.2 10000;generalize tQ u.2 (eO A n).2.2 10000=v at *;dsimp only [dk];have gb:=v.1.bd;refine (ad8 (by omega) (by omega)).trans ?_;by_cases c3:v.2=0
   ·rw [if_pos c3,aP,Ot,aP]
    dsimp only;rw [c3];exact (vw 0 u.1 ⟨(-v.1.b.2.1,v.1.b.1,v.1.b.2.2),IP v.1⟩).trans (aP _ _)
   ·rw [if_neg c3,nv c3,aP,bR c3]
    refine (vw v.2 u.1 Bl0).trans ?_;rw [bR c3,aP];rfl
  ·rw [if_neg c2,aP,uy c2,if_neg c2,aP,bR c2,nu c2];rfl
theorem amh {A:Ask}(h:ckA A=0){n:Nat}(hn:n < 1000000)(e:Int){k:DC4 α} :
  yP α e A.ix (A.ls.map rL) A.oi A.ol (n:Int) (fun a b c d=>k a b c d)=bnd (eu A n e) (dk k):=ZQ h hn e
theorem aoc {A:Ask}(h:ckA A=0)(e:Int){k:DC4 α} :
  Du α e A.ix A.s1 A.s2 k=bnd (iJ e (dnI (w64 ((w64 (A.ix*A.s1))*1048576)) 100000000) (upI (w64 ((w64 (A.ix*A.s2))*1048576)) 100000000)) (dk k):=by
 obtain⟨h1,h2,_⟩:=j0 h;obtain⟨g1,g2,_⟩:=Jr h2;have m1:=ld (x:=A.ix) (y:=A.s1) (A:=80000) (B:=9999) (by omega) h1.2 g1.1 g1.2;have m2:=ld (x:=A.ix) (y:=A.s2) (A:=80000) (B:=9999) (by omega) h1.2 g2.1 g2.2;have w1:w64 (A.ix*A.s1)=A.ix*A.s1:=aj (by omega) (by omega);have w2:w64 (A.ix*A.s2)=A.ix*A.s2:=aj (by omega) (by omega);rw [Du,af,SH,Mb.f91_raw (by decide),Mb.f69_raw (by decide),w1,w2,
  Bf (by rw [aj (by omega) (by omega)];omega) (by decide),yE (by rw [aj (by omega) (by omega)];omega) (by rw [aj (by omega) (by omega)];omega) (by decide) (by decide)]
 exact PK
def sqE (A:Ask)(n:Nat)(e:Int):Bl × Bl × Int:=
 bnd (eu A n e) fun u e1=>
 bnd (iJ e1 (dnI (w64 ((w64 (A.ix*A.s1))*1048576)) 100000000) (upI (w64 ((w64 (A.ix*A.s2))*1048576)) 100000000)) fun b e2=>
 bnd (two bA e2 u u) fun v e3=>bnd (two bA e3 b b) fun c e4=>bnd (two jk e4 v c) fun d e5=>(v,d,e5)
theorem amn {A:Ask}(h:ckA A=0){n:Nat}(hn:n < 1000000)(e:Int){k:Int->Int->Int->Int->Int->Int->Int->Option α} :
  C5 α e A.ix A.s1 A.s2 (A.ls.map rL) A.oi A.ol (n:Int) k=k (sqE A n e).1.b.1 (sqE A n e).1.b.2.1 (sqE A n e).1.b.2.2 (sqE A n e).2.1.b.1 (sqE A n e).2.1.b.2.1 (sqE A n e).2.1.b.2.2 (sqE A n e).2.2:=by
 unfold sqE;simp only [C5,af,WV,amh h hn,aoc h,mZ,Ie,aP,dk]
theorem axu (A:Ask)(n:Nat){e:Int}(h:e ≠ 0):sqE A n e=(Bl0,Bl0,e):=by
 unfold sqE;simp only [i9 A n h,tc h,aP,bR h]
theorem VK {A:Ask}(h:ckA A=0){n:Nat}(hn:n < 1000000)(e:Int){k:Int->Int->Int->Int->Int->Int->Bool->Int->Option α} :
  nZ α e A.ix A.s1 A.s2 (A.ls.map rL) A.oi A.ol (n:Int) k=
   if (sqE A n e).2.2=0 then k (bH A n e).1.b.1 (bH A n e).1.b.2.1 (bH A n e).1.b.2.2 (sqE A n e).1.b.1 (sqE A n e).1.b.2.1 (sqE A n e).1.b.2.2 (bH A n e).2.1 (bH A n e).2.2
   else k 0 0 0 0 0 0 false (sqE A n e).2.2:=by
 rw [nZ,af,TJ,amn h hn,JF A hn];rw [bj];have hno:bH A n e=if (eO A n).2.2=0 then
   iX (jt (sqE A n e).2.2 (sqE A n e).2.1) fun lo hi _ _ e6=>if e6=0 then bnd (jp lo hi) fun q e7=>(q,decide (lo < 0),e7) else (Bl0,false,e6)
  else if (sqE A n e).2.2=0 then bnd (oQ (sqE A n e).2.1) fun q e6=>(q,false,e6) else (Bl0,false,(sqE A n e).2.2):=by
  unfold bH sqE;simp only [aP]
 rw [hno];clear hno;generalize sqE A n e=s;by_cases c:s.2.2=0
 ·rw [if_pos c,if_pos c,bj]
  by_cases c2:(eO A n).2.2=0
  ·rw [if_pos c2,if_pos c2,Ad,c]
   refine asD.trans ?_;rw [if_pos rfl,aP,cT];unfold jt;simp only [if_true,aP,dk]
  ·rw [if_neg c2,if_neg c2,if_pos c,c]
   refine (axK 0 s.2.1).trans ?_;rw [if_pos rfl,aP,aP];rfl
 ·rw [if_neg c,if_neg c]
theorem Sj {A:Ask}{n:Nat}{e:Int}(h:(sqE A n e).2.2 ≠ 0):bH A n e=(Bl0,false,(sqE A n e).2.2):=by
 have hno:bH A n e=if (eO A n).2.2=0 then
   iX (jt (sqE A n e).2.2 (sqE A n e).2.1) fun lo hi _ _ e6=>if e6=0 then bnd (jp lo hi) fun q e7=>(q,decide (lo < 0),e7) else (Bl0,false,e6)
  else if (sqE A n e).2.2=0 then bnd (oQ (sqE A n e).2.1) fun q e6=>(q,false,e6) else (Bl0,false,(sqE A n e).2.2):=by
  unfold bH sqE;simp only [aP]
 rw [hno];simp only [wv h,cT,if_neg h,ite_self]
theorem zI {A:Ask}(h:ckA A=0){n:Nat}(hn:n < 1000000)(e:Int){k:DC4 α} :
  jz α e A.ix A.s1 A.s2 A.pol (A.ls.map rL) A.oi A.ol (n:Int) k=bnd (ck A n e) (dk k):=by
 rw [jz,af,Sy,VK h hn,gw,gw];unfold ck;rw [fq];by_cases c:(sqE A n e).2.2=0
 ·rw [if_pos c]
  by_cases cp:A.pol=0
  ·rw [if_pos cp,if_pos cp,aP];rfl
  ·rw [if_neg cp,if_neg cp]
   refine (zO _ _ _).trans ?_;rw [aP,aP,aP,aP,aP];by_cases c3:(bH A n e).2.2=0
   ·have he:e=0:=Classical.byContradiction fun he=>by
     rw [axu A n he] at c;exact he c
    subst he;rw [c3];have hv:(two bA (eu A n 0).2 (eu A n 0).1 (eu A n 0).1).2=0/\(sqE A n 0).1=(two bA (eu A n 0).2 (eu A n 0).1 (eu A n 0).1).1:=by
     unfold sqE at c ⊢;simp only [aP] at c ⊢;by_cases i0:(eu A n 0).2=0
     ·rw [i0] at c ⊢
      by_cases r0:(iJ 0 (dnI (w64 ((w64 (A.ix*A.s1))*1048576)) 100000000) (upI (w64 ((w64 (A.ix*A.s2))*1048576)) 100000000)).2=0
      ·rw [r0] at c ⊢
       refine⟨Classical.byContradiction fun q=>?_,rfl⟩;rw [bR q,bR q] at c;exact q c
      ·rw [bR r0,bR r0,bR r0] at c
       exact absurd c r0
     ·rw [tc i0,bR i0,bR i0,bR i0] at c
      exact absurd c i0
    rw [hv.1,hv.2]
   ·rw [bR c3,i9 A n c3,bR c3,bR c3]
 ·rw [if_neg c,Sj c,aP,aP,aP,i9 A n c,bR c,bR c]
  by_cases cp:A.pol=0
  ·rw [if_pos cp,if_pos cp];rfl
  ·rw [if_neg cp,if_neg cp]
   refine (zO _ Bl0 Bl0).trans ?_;rw [bR c,aP,aP]
end Go.AM.K

namespace Go.AM.K
set_option linter.unusedVariables false
set_option linter.unusedSimpArgs false
variable {α:Type}
theorem ajX {A:Ask}(h:ckA A=0){n:Nat}(hn:n < 1000000)(e:Int){k:Int->Int->Int->Bool->Int->Option α} :
  nZ α e A.ix A.s1 A.s2 (A.ls.map rL) A.oi A.ol (n:Int) (fun a b c _ _ _ s e=>k a b c s e)=k (bH A n e).1.b.1 (bH A n e).1.b.2.1 (bH A n e).1.b.2.2 (bH A n e).2.1 (bH A n e).2.2:=by
 rw [VK h hn];by_cases c:(sqE A n e).2.2=0
 ·rw [if_pos c]
 ·rw [if_neg c,Sj c];rfl
theorem JL {x y:Int}{k:Int->Int->Option α}:r7 α x y k=k (pos x) (pos y):=by rw [r7,af,Sd];rfl
theorem aa6 {s:Bool}{l:Int}{k1:Option α}{k2:Bool->Option α}{Y:Option α}(h:∀ b,k2 b=Y):oC α s l k1 k2=if l=0 then (if s=true then k1 else Y) else Y:=by
 rw [oC,af,Fm,pu,af,Gd,gw];by_cases c:l=0
 ·rw [if_pos c,if_pos c,rq,h]
 ·rw [if_neg c,if_neg c,al,h]
theorem aaj {s:Bool}{l:Int}{k1:Option α}{k2:Bool->Option α}{Y:Option α}(h:∀ b,k2 b=Y):oz α s l k1 k2=if l=0 then (if s=true then Y else k1) else Y:=by
 rw [oz,af,Fd,nV,af,FU,gw];by_cases c:l=0
 ·rw [if_pos c,if_pos c]
  cases s
  ·rw [Bool.not_false,aq,if_neg (by decide)]
  ·rw [Bool.not_true,al,if_pos rfl,h]
 ·rw [if_neg c,if_neg c,al,h]
theorem aam {s:Bool}{l:Int}{k1:Option α}{k2:Bool->Option α}{Y:Option α}(h:∀ b,k2 b=Y):pN α s l k1 k2=if l=0 then (if s=true then Y else k1) else Y:=by
 rw [pN,af,EX,oa,af,G4,gw];by_cases c:l=0
 ·rw [if_pos c,if_pos c]
  cases s
  ·rw [Bool.not_false,aq,if_neg (by decide)]
  ·rw [Bool.not_true,al,if_pos rfl,h]
 ·rw [if_neg c,if_neg c,al,h]
theorem w4:w64 (4*pos 0)=0:=by decide
theorem agC {x t:Int}(hx:x<=134217728)(h1:0<=t)(h2:t<=1000000):0<=w64 ((w64 (4*pos x))*t)/\w64 ((w64 (4*pos x))*t)<=4611686018427387904:=by
 have hp:=ON hx;rw [aj (n:=4*pos x) (by omega) (by omega)];have m:=ld (x:=4*pos x) (y:=t) (A:=536870912) (B:=1000000) (by omega) (by omega) h1 h2;rw [aj (by omega) (by omega)];omega
theorem ajw {x t d:Int}(hx:x<=134217728)(h1:0<=t)(h2:t<=1000000)(hd:0 < d){k:Int->Option α}:dC α (w64 ((w64 (4*pos x))*t)) d k=k (dnI (w64 ((w64 (4*pos x))*t)) d):=by
 rw [Mb.f91_raw (by omega),Bf (agC hx h1 h2).1 hd]
theorem ajh {x t d:Int}(hx:x<=134217728)(h1:0<=t)(h2:t<=1000000)(hd:0 < d)(hd2:d<=1000000000){k:Int->Option α}:cy α (w64 ((w64 (4*pos x))*t)) d k=k (upI (w64 ((w64 (4*pos x))*t)) d):=by
 rw [Mb.f69_raw (by omega),yE (agC hx h1 h2).1 (agC hx h1 h2).2 hd hd2]
theorem adP {A:Ask}{i:Nat}{l:L5}(h:A.ls[i]?=some l):thE A (i+1)=(l.2.2.1,l.2.2.2.1):=by
 show (match A.ls[i]? with
  | some l=>(l.2.2.1,l.2.2.2.1)
  | none=>(0,0))=_
 rw [h]
theorem Tb {A:Ask}(h:ckA A=0){i:Nat}{l:L5}(hl:A.ls[i]?=some l)(e:Int){k:Int->Int->Int->Int->Int->Option α} :
  A7 α e A.ix A.s1 A.s2 A.w1 A.w2 (A.ls.map rL) A.oi A.ol ((i+1:Nat):Int) k=KP k (gW A l (i+1) e):=by
 obtain⟨_,_,_,hw,h40,_⟩:=j0 h;obtain⟨g1,g2,_⟩:=Jr hw;have hi:i < A.ls.length:=(List.getElem?_eq_some_iff.1 hl).1;obtain⟨_,⟨⟨t1,t2⟩,t3,t4⟩,_⟩:=afO h hl;have hn:i+1 < 1000000:=by omega
 rw [A7,af,Sn];refine (ajX h hn e).trans ?_;unfold gW;rw [fq,cT,bj];generalize bH A (i+1) e=u;have hu:=u.1.bd;have b1:u.1.lo1<=134217728:=by unfold Bl.lo1;omega
 have b2:u.1.hi1<=134217728:=by unfold Bl.hi1;omega
 have b3:u.1.lo2<=134217728:=by unfold Bl.lo2;omega
 have b4:u.1.hi2<=134217728:=by unfold Bl.hi2;omega
 have b0:(0:Int)<=134217728:=by decide
 have z1:∀ t:Int,0*t=w64 (4*pos 0)*t:=fun t=>by rw [w4]
 by_cases c:u.2.2=0
 ·rw [if_pos c,JF A hn,Ad,JL,JL,adP hl,mi hl,aa6 (fun _=>rfl),aaj (fun _=>rfl),aam (fun _=>rfl)]
  unfold jt;rw [if_pos c];dsimp only;have hz:(0:Int)<=1000000:=by decide
  simp only [z1,ajw b0 t1 t2 (show 0 < A.w2 by omega),ajh b0 t3 t4 (show 0 < A.w1 by omega) (by omega),ajw b1 t1 t2 (show 0 < A.w2 by omega),ajh b2 t3 t4 (show 0 < A.w1 by omega) (by omega),ajw b3 t1 t2 (show 0 < A.w2 by omega),ajh b4 t3 t4 (show 0 < A.w1 by omega) (by omega),c];by_cases c2:l.2.2.2.2=0
  ·simp only [if_pos c2]
   cases u.2.1 with
   | false=>simp only [Bool.false_eq_true,if_false];rfl
   | true=>simp only [if_true];rfl
  ·simp only [if_neg c2];rfl
 ·rw [if_neg c,wv c]
  dsimp only;have zt:rR A l 0 0 0 0 u.2.2=((0,0,0,0),u.2.2):=by
   have zd:∀ t,dnI (w64 (w64 (4*pos 0)*t)) A.w2=0:=fun t=>by
    rw [w4,Int.zero_mul,<- Bf (show 0<=w64 0 by decide) (show 0 < A.w2 by omega),show w64 0=0 by decide,CO (by omega) (by omega) (by omega) (by omega),Int.zero_ediv]
   have zu:∀ t,upI (w64 (w64 (4*pos 0)*t)) A.w1=0:=fun t=>by
    rw [w4,Int.zero_mul,<- yE (show 0<=w64 0 by decide) (by decide) (show 0 < A.w1 by omega) (by omega),show w64 0=0 by decide,rx (by omega) (by omega) (by omega) (by omega)];unfold cdv;rw [Int.neg_zero,Int.zero_ediv];rfl
   unfold rR;rw [zd,zu]
  rw [zt,ite_self,ite_self];rfl
def ax3 (a b c d e1:Int):Bl × Int:=if e1=0 then
  (if w64 (b - a) < 1048576 then
   bnd (DT a b) fun z e2=>if e2=0 then
    kI (jD c d) fun p q e3=>if e3=0 then bnd (iJ e3 p q) fun s e4=>bnd (two bA e4 z s) fun v e5=>(v,e5) else (Bl0,e3)
   else (Bl0,e2)
  else if e1=0 then
    kI (jD c d) fun p q e3=>if e3=0 then bnd (iJ e3 p q) fun s e4=>bnd (two bA e4 Blc s) fun v e5=>(v,e5) else (Bl0,e3)
   else (Bl0,e1))
  else (Bl0,e1)
theorem rI (A:Ask)(l:L5)(n:Nat)(t e:Int):eC A l n t e=iX (gW A l n e) fun a b c d e1=>ax3 (w64 (t*a)) (w64 (t*b)) (w64 (t*c)) (w64 (t*d)) e1:=rfl
theorem Oo {c d:Int}(z:Bl){k:DC4 α} :
  r6 α c d (fun p q e3=>cK (e3 != 0) (k 0 0 0 e3) (g6 α p q (fun x35 x36 x37 x38=>du α 0 x35 x36 x37 x38 (fun x39 x40 x41 x42=>ci α x42 z.b.1 z.b.2.1 z.b.2.2 x39 x40 x41 k))))=
   DK k (kI (jD c d) fun p q e3=>if e3=0 then bnd (iJ e3 p q) fun s e4=>bnd (two bA e4 z s) fun v e5=>(v,e5) else (Bl0,e3)):=by
 rw [atX,kr,bj];generalize jD c d=u;by_cases h:u.2.2=0
 ·rw [if_pos h,if_pos h,h]
  refine PK.trans ?_;rw [aP,aP];dsimp only [dk];refine (mZ _ z _).trans ?_;rw [aP,aP];rfl
 ·rw [if_neg h,if_neg h];rfl
theorem Xv {a b c d e:Int}{k:DC4 α}:yG α e a b c d k=DK k (ax3 a b c d e):=by
 rw [yG,af,SU,bj];unfold ax3;by_cases h:e=0
 ·subst h
  rw [if_pos rfl,if_pos rfl,wT,af,Hg,aJ];by_cases h2:w64 (b - a) < 1048576
  ·rw [if_pos h2,if_pos h2]
   refine aFr.trans ?_;rw [if_pos rfl,aP,aP];generalize DT a b=u;dsimp only [dk];rw [bj];by_cases h3:u.2=0
   ·rw [if_pos h3,if_pos h3,h3]
    exact Oo u.1
   ·rw [if_neg h3,if_neg h3];rfl
  ·rw [if_neg h2,if_neg h2,if_pos rfl]
   exact Oo Blc
 ·rw [if_neg h,if_neg h];rfl
theorem aBx (x:Int):-9223372036854775808<=w64 x/\w64 x<=9223372036854775807:=by
 have:w64 x=IntKind.wrap .i64 x:=rfl;rw [this,IntKind.wrap_i64];omega
theorem aqN {x y:Int}(h:y=w64 x):w64 (1*y)=y:=by
 subst h;have:=aBx x;rw [Int.one_mul,aj (by omega) (by omega)]
theorem ayI (A:Ask)(l:L5)(n:Nat)(e:Int):w64 (1*(gW A l n e).1.1)=(gW A l n e).1.1/\w64 (1*(gW A l n e).1.2.1)=(gW A l n e).1.2.1/\w64 (1*(gW A l n e).1.2.2.1)=(gW A l n e).1.2.2.1/\w64 (1*(gW A l n e).1.2.2.2)=(gW A l n e).1.2.2.2:=by
 have key:∀ a b c d e1,w64 (1*(rR A l a b c d e1).1.1)=(rR A l a b c d e1).1.1/\w64 (1*(rR A l a b c d e1).1.2.1)=(rR A l a b c d e1).1.2.1/\w64 (1*(rR A l a b c d e1).1.2.2.1)=(rR A l a b c d e1).1.2.2.1/\w64 (1*(rR A l a b c d e1).1.2.2.2)=(rR A l a b c d e1).1.2.2.2:=
  fun a b c d e1=>⟨aqN rfl,aqN rfl,aqN rfl,aqN rfl⟩
 unfold gW;rw [fq,cT];split
 ·split
  ·exact key _ _ _ _ _
  ·exact key _ _ _ _ _
 ·exact key _ _ _ _ _
theorem Vc {A:Ask}(h:ckA A=0){i:Nat}{l:L5}(hl:A.ls[i]?=some l)(e:Int){k:DC4 α} :
  kS α e A.ix A.s1 A.s2 A.w1 A.w2 (A.ls.map rL) A.oi A.ol ((i+1:Nat):Int) true k=bnd (eC A l (i+1) 2 e) (dk k) /\
  kS α e A.ix A.s1 A.s2 A.w1 A.w2 (A.ls.map rL) A.oi A.ol ((i+1:Nat):Int) false k=bnd (eC A l (i+1) 1 e) (dk k):=by
 obtain⟨q1,q2,q3,q4⟩:=ayI A l (i+1) e;constructor
 ·rw [kS,af,IG,Tb h hl,rI,cT,aP]
  dsimp only [KP];rw [nC,af,yb,aq,IN,af,WQ];exact Xv
 ·rw [kS,af,IG,Tb h hl,rI,cT,aP,q1,q2,q3,q4]
  dsimp only [KP];rw [nC,af,yb,al];exact Xv
theorem O6 (A:Ask)(l:L5)(n:Nat)(t:Int){e:Int}(h:e ≠ 0):eC A l n t e=(Bl0,e):=by
 have ht:(gW A l n e).2=e:=by
  unfold gW;rw [ro A n h,fq,cT,wv h];split
  ·rfl
  ·rfl
 rw [rI,cT,ht];exact if_neg h
abbrev ayk (α:Type):=Int->Int->Int->Int->Int->Int->Int->Int->Int->Int->Int->Int->Int->Option α
def KMd (k:ayk α)(u:Mt × Int):Option α:=
 k u.1.1.b.1 u.1.1.b.2.1 u.1.1.b.2.2 u.1.2.1.b.1 u.1.2.1.b.2.1 u.1.2.1.b.2.2 u.1.2.2.1.b.1 u.1.2.2.1.b.2.1 u.1.2.2.1.b.2.2 u.1.2.2.2.b.1 u.1.2.2.2.b.2.1 u.1.2.2.2.b.2.2 u.2
def Blh:Bl:=⟨(524288,0,0),by decide⟩
theorem abv:yY 1 2=(Blh,0):=rfl
theorem afv (e:Int)(b:Bl){k:DC4 α}:eB α e 1048576 0 0 b.b.1 b.b.2.1 b.b.2.2 k=bnd (two fA e Bl1 b) (dk k):=vw e Bl1 b
theorem agI (e:Int)(b:Bl){k:DC4 α}:mu α e 1048576 0 0 b.b.1 b.b.2.1 b.b.2.2 k=bnd (two jk e Bl1 b) (dk k):=Ie e Bl1 b
theorem ayS (e:Int)(a:Bl){k:DC4 α}:ci α e a.b.1 a.b.2.1 a.b.2.2 524288 0 0 k=bnd (two bA e a Blh) (dk k):=mZ e a Blh
theorem AB {k:Option α}:mT α k=k:=by rw [mT,af,XO]
theorem aqk {k:Option α}:xi α k=k:=by rw [xi,af,Re]
theorem anE (e:Int)(y g:Bl){k:ayk α}:yC α e y.b.1 y.b.2.1 y.b.2.2 g.b.1 g.b.2.1 g.b.2.2 k=KMd k (yh e y g):=by
 unfold yh;simp only [yC,af,R5,AB,aqk,afv,agI,ayS,zO,mZ,aP,dk];by_cases h:e=0
 ·subst h
  have:tQ 0 1 2=(Blh,0):=abv;rw [this];rfl
 ·rw [uy h]
  simp only [bR h];rfl
theorem as0 (e:Int)(p m:Mt){k:ayk α} :
  xJ α e p.1.b.1 p.1.b.2.1 p.1.b.2.2 p.2.1.b.1 p.2.1.b.2.1 p.2.1.b.2.2 p.2.2.1.b.1 p.2.2.1.b.2.1 p.2.2.1.b.2.2 p.2.2.2.b.1 p.2.2.2.b.2.1 p.2.2.2.b.2.2
   m.1.b.1 m.1.b.2.1 m.1.b.2.2 m.2.1.b.1 m.2.1.b.2.1 m.2.1.b.2.2 m.2.2.1.b.1 m.2.2.1.b.2.1 m.2.2.1.b.2.2 m.2.2.2.b.1 m.2.2.2.b.2.1 m.2.2.2.b.2.2 k=KMd k (xo e p m):=by
 unfold xo;simp only [xJ,af,Vd,vw,mZ,aP,dk];rfl
end Go.AM.K

namespace Go.AM.K
set_option linter.unusedVariables false
set_option linter.unusedSimpArgs false
variable {α:Type}
abbrev awW (α:Type):=Int->Int->Int->Int->Int->Int->Int->Int->Int->Int->Int->Int->Int->Int->Int->Int->Option α
def KTd (k:awW α)(u:(Mt × Bl) × Int):Option α:=
 k u.1.1.1.b.1 u.1.1.1.b.2.1 u.1.1.1.b.2.2 u.1.1.2.1.b.1 u.1.1.2.1.b.2.1 u.1.1.2.1.b.2.2 u.1.1.2.2.1.b.1 u.1.1.2.2.1.b.2.1 u.1.1.2.2.1.b.2.2 u.1.1.2.2.2.b.1 u.1.1.2.2.2.b.2.1 u.1.1.2.2.2.b.2.2 u.1.2.b.1 u.1.2.b.2.1 u.1.2.b.2.2 u.2
theorem Al {e:Int}(h:e ≠ 0)(y g:Bl):(yh e y g).2=e:=by
 unfold yh;simp only [uy h,aP,bR h]
theorem QH {e:Int}(h:e ≠ 0)(p m:Mt):(xo e p m).2=e:=by
 unfold xo;simp only [aP,bR h]
theorem z7 (A:Ask)(fs:Bool)(ls:List L5)(n:Nat)(p:Mt)(a:Bl){e:Int}(h:e ≠ 0):zs A fs ls n p a e=((p,a),e):=by
 cases ls with
 | nil=>rfl
 | cons l ls=>exact if_neg h
def xV (A:Ask)(fs:Bool)(l:L5)(n:Nat)(p:Mt)(a:Bl)(e:Int):(Mt × Bl) × Int:=
 bnd (ck A n e) fun y e1=>bnd (eC A l n 2 e1) fun g e2=>
   if fs=true then
    bnd (eC A l n 1 e2) fun h e3=>bnd (two bA e3 a h) fun b e4=>nH (yh e4 y g) fun m e5=>nH (xo e5 p m) fun q e6=>((q,b),e6)
   else nH (yh e2 y g) fun m e3=>nH (xo e3 p m) fun q e4=>((q,a),e4)
theorem auB (A:Ask)(fs:Bool)(l:L5)(ls:List L5)(n:Nat)(p:Mt)(a:Bl):zs A fs (l::ls) n p a 0=zs A fs ls (n+1) (xV A fs l n p a 0).1.1 (xV A fs l n p a 0).1.2 (xV A fs l n p a 0).2:=by
 rw [Hm,if_pos rfl];unfold xV;simp only [aP,tp];cases fs
 ·rfl
 ·rfl
theorem apw (A:Ask)(fs:Bool)(l:L5)(n:Nat)(p:Mt)(a:Bl){e:Int}(h:e ≠ 0):(xV A fs l n p a e).2=e:=by
 unfold xV;simp only [AJ A n h,O6 A l n _ h,aP,tp,bR h];cases fs
 ·exact (QH (by rw [Al h];exact h) p _).trans (Al h _ _)
 ·exact (QH (by rw [Al h];exact h) p _).trans (Al h _ _)
theorem asT {A:Ask}(h:ckA A=0){fs:Bool}{K:awW α}{Z:Int->Option α}{k1:Int->Option α}
  {k2:Int->Bool->Int->Int->Int->Int->Int->Int->Int->Int->Int->Int->Int->Int->Int->Int->Int->Int->Option α}
  (hz:∀ m a e,e ≠ 0->KTd K ((m,a),e)=Z e) (h1:∀ e,k1 e=Z e)
  (h2:∀ x b e (m:Mt) (a:Bl),k2 x b e m.1.b.1 m.1.b.2.1 m.1.b.2.2 m.2.1.b.1 m.2.1.b.2.1 m.2.1.b.2.2 m.2.2.1.b.1 m.2.2.1.b.2.1 m.2.2.1.b.2.2 m.2.2.2.b.1 m.2.2.2.b.2.1 m.2.2.2.b.2.2 a.b.1 a.b.2.1 a.b.2.2=KTd K ((m,a),e)) :
  ∀ (rest:List L5) (i n:Nat) (m:Mt) (a:Bl) (e:Int),A.ls.drop i=rest->i<=A.ls.length->rest.length < n ->
  jx α fs A.ix A.s1 A.s2 A.pol A.w1 A.w2 (A.ls.map rL) A.oi A.ol k1 k2 n ((i+1:Nat):Int) e m.1.b.1 m.1.b.2.1 m.1.b.2.2 m.2.1.b.1 m.2.1.b.2.1 m.2.1.b.2.2 m.2.2.1.b.1 m.2.2.1.b.2.1 m.2.2.1.b.2.2 m.2.2.2.b.1 m.2.2.2.b.2.1 m.2.2.2.b.2.2 a.b.1 a.b.2.1 a.b.2.2=
   KTd K (zs A fs rest (i+1) m a e):=by
 obtain⟨_,_,_,_,h40,_⟩:=j0 h;intro rest
 induction rest with
 | nil=>
  intro i n m a e hd hi hn;obtain⟨n,rfl⟩:∃ n',n=n'+1:=⟨n - 1,by simp only [List.length_nil] at hn;omega⟩
  have hl:A.ls.length<=i:=List.drop_eq_nil_iff.1 hd;simp only [jx,o6,List.length_map];rw [decide_eq_false (by omega),al,h2];rfl
 | cons l ls ih=>
  intro i n m a e hd hi hn;obtain⟨n,rfl⟩:∃ n',n=n'+1:=⟨n - 1,by omega⟩
  have hl:i < A.ls.length:=by
   by_cases h:i < A.ls.length
   ·exact h
   ·rw [List.drop_eq_nil_of_le (by omega)] at hd;cases hd
  have hg:A.ls[i]?=some l:=by
   have:=congrArg List.head? hd;rw [List.head?_drop] at this;exact this
  have hd':A.ls.drop (i+1)=ls:=by
   have:=congrArg List.tail hd;rw [List.tail_drop] at this;exact this
  have hw:w64 (((i+1:Nat):Int)+1)=((i+1+1:Nat):Int):=by rw [aj (by omega) (by omega)];omega
  have hi1:i+1 < 1000000:=by omega
  have hn':ls.length < n:=by simp only [List.length_cons] at hn;omega
  have ih':∀ (m:Mt) (a:Bl) (e:Int),_:=fun m a e=>ih (i+1) n m a e hd' (by omega) hn';have e1:∀ (e:Int) (k:DC4 α),kS α e A.ix A.s1 A.s2 A.w1 A.w2 (A.ls.map rL) A.oi A.ol ((i+1:Nat):Int) true k=bnd (eC A l (i+1) 2 e) (dk k):=fun e k=>(Vc h hg e).1;have e2:∀ (e:Int) (k:DC4 α),kS α e A.ix A.s1 A.s2 A.w1 A.w2 (A.ls.map rL) A.oi A.ol ((i+1:Nat):Int) false k=bnd (eC A l (i+1) 1 e) (dk k):=fun e k=>(Vc h hg e).2;have key:jx α fs A.ix A.s1 A.s2 A.pol A.w1 A.w2 (A.ls.map rL) A.oi A.ol k1 k2 (n+1) ((i+1:Nat):Int) e m.1.b.1 m.1.b.2.1 m.1.b.2.2 m.2.1.b.1 m.2.1.b.2.1 m.2.1.b.2.2 m.2.2.1.b.1 m.2.2.1.b.2.1 m.2.2.1.b.2.2 m.2.2.2.b.1 m.2.2.2.b.2.1 m.2.2.2.b.2.2 a.b.1 a.b.2.1 a.b.2.2=
    if (xV A fs l (i+1) m a e).2=0 then KTd K (zs A fs ls (i+1+1) (xV A fs l (i+1) m a e).1.1 (xV A fs l (i+1) m a e).1.2 (xV A fs l (i+1) m a e).2) else Z (xV A fs l (i+1) m a e).2:=by
   simp only [jx,o6,List.length_map];rw [decide_eq_true (by omega),aq];unfold xV;simp only [oV,af,Gj,zI h hi1,e1,e2,mZ,anE,as0,aP,tp,dk,KMd,hw,ih',h1,bj];cases fs
   ·rw [al];rfl
   ·rw [aq];rfl
  rw [key];by_cases c:e=0
  ·subst c
   rw [auB];by_cases c2:(xV A fs l (i+1) m a 0).2=0
   ·rw [if_pos c2]
   ·rw [if_neg c2,z7 A fs ls _ _ _ c2]
    exact (hz _ _ _ c2).symm
  ·rw [apw A fs l _ m a c,if_neg c,z7 A fs (l::ls) _ m a c]
   exact (hz _ _ _ c).symm
theorem auV {A:Ask}(h:ckA A=0)(fs:Bool)(e:Int){k:awW α}(hz:∀ (m m':Mt) (a a':Bl) (e:Int),e ≠ 0->KTd k ((m,a),e)=KTd k ((m',a'),e)) :
  Eg α e A.ix A.s1 A.s2 A.pol A.w1 A.w2 (A.ls.map rL) A.oi A.ol fs k=KTd k (fI A fs e):=by
 have hf:A.ls.length < aG:=by
  obtain⟨_,_,_,_,h40,_⟩:=j0 h;have:=bF;omega
 rw [Eg,af,Ra,AB,AB,AB,wo,af,FL];exact asT h (K:=k) (Z:=fun e=>KTd k (((Bl0,Bl0,Bl0,Bl0),Bl0),e)) (fun m a e he=>hz m _ a _ e he) (fun _=>rfl) (fun _ _ _ _ _=>rfl) A.ls 0 aG (Bl1,Bl0,Bl0,Bl1) Bl1 e rfl (Nat.zero_le _) hf
def Pi (A:Ask)(tr:Bool)(f:Bl)(p:Mt)(g:Bl)(e2:Int):Bl × Int:=
 bnd (ck A (A.ls.length+1) e2) fun l e3=>
 bnd (two bA e3 p.2.1 l) fun t1 e4=>bnd (two fA e4 p.1 t1) fun b e5=>bnd (two bA e5 p.2.2.2 l) fun t2 e6=>bnd (two fA e6 p.2.2.1 t2) fun c e7=>
 bnd (two bA e7 f b) fun a e8=>bnd (two fA e8 a c) fun d e9=>
 if tr=true then bnd (two fA e9 f f) fun s e10=>bnd (two bA e10 s g) fun z e11=>bnd (two vj e11 z d) fun v e12=>(v,e12)
 else bnd (two jk e9 a c) fun z e10=>bnd (two vj e10 z d) fun v e11=>(v,e11)
theorem Py (A:Ask)(tr:Bool)(e:Int):eH A tr e=Pi A tr (ck A 0 e).1 (fI A tr (ck A 0 e).2).1.1 (fI A tr (ck A 0 e).2).1.2 (fI A tr (ck A 0 e).2).2:=by
 unfold eH Pi;simp only [aP,V8]
theorem KJ (A:Ask)(tr:Bool)(f:Bl)(p:Mt)(g:Bl){e2:Int}(h:(ck A (A.ls.length+1) e2).2 ≠ 0):Pi A tr f p g e2=(Bl0,(ck A (A.ls.length+1) e2).2):=by
 unfold Pi;simp only [aP,bR h,ite_self]
theorem pC (A:Ask)(tr:Bool)(f:Bl)(p:Mt)(g:Bl){e2:Int}(h:e2 ≠ 0):Pi A tr f p g e2=(Bl0,e2):=by
 have e:=AJ A (A.ls.length+1) h;rw [KJ A tr f p g (by rw [e];exact h),e]
theorem EJ {A:Ask}(h:ckA A=0)(tr:Bool)(f:Bl)(p:Mt)(g:Bl)(e2:Int){k:DC4 α} :
  jz α e2 A.ix A.s1 A.s2 A.pol (A.ls.map rL) A.oi A.ol (w64 ((((A.ls.map rL).length:Nat):Int)+1))
    (fun (x32:Int) (x33:Int) (x34:Int) (x35:Int)=>ci α x35 p.2.1.b.1 p.2.1.b.2.1 p.2.1.b.2.2 x32 x33 x34
     (fun (x36:Int) (x37:Int) (x38:Int) (x39:Int)=>eB α x39 p.1.b.1 p.1.b.2.1 p.1.b.2.2 x36 x37 x38
      (fun (x40:Int) (x41:Int) (x42:Int) (x43:Int)=>ci α x43 p.2.2.2.b.1 p.2.2.2.b.2.1 p.2.2.2.b.2.2 x32 x33 x34
       (fun (x44:Int) (x45:Int) (x46:Int) (x47:Int)=>eB α x47 p.2.2.1.b.1 p.2.2.1.b.2.1 p.2.2.1.b.2.2 x44 x45 x46
        (fun (x48:Int) (x49:Int) (x50:Int) (x51:Int)=>ci α x51 f.b.1 f.b.2.1 f.b.2.2 x40 x41 x42
         (fun (x52:Int) (x53:Int) (x54:Int) (x55:Int)=>eB α x55 x52 x53 x54 x48 x49 x50
          (fun (x56:Int) (x57:Int) (x58:Int) (x59:Int)=>cK tr
           (eB α x59 f.b.1 f.b.2.1 f.b.2.2 f.b.1 f.b.2.1 f.b.2.2
            (fun (x60:Int) (x61:Int) (x62:Int) (x63:Int)=>ci α x63 x60 x61 x62 g.b.1 g.b.2.1 g.b.2.2
             (fun (x64:Int) (x65:Int) (x66:Int) (x67:Int)=>kZ α x67 x64 x65 x66 x56 x57 x58
              (fun (x68:Int) (x69:Int) (x70:Int) (x71:Int)=>k x68 x69 x70 x71))))
           (mu α x59 x52 x53 x54 x48 x49 x50
            (fun (x72:Int) (x73:Int) (x74:Int) (x75:Int)=>kZ α x75 x72 x73 x74 x56 x57 x58
             (fun (x76:Int) (x77:Int) (x78:Int) (x79:Int)=>k x76 x77 x78 x79))))))))))=DK k (Pi A tr f p g e2):=by
 obtain⟨_,_,_,_,h40,_⟩:=j0 h;have hw:w64 ((((A.ls.map rL).length:Nat):Int)+1)=((A.ls.length+1:Nat):Int):=by rw [List.length_map,aj (by omega) (by omega)];omega
 unfold Pi;simp only [hw,zI h (n:=A.ls.length+1) (by omega),mZ,vw,Ie,zO,aP,dk];cases tr
 ·rw [al];rfl
 ·rw [aq];rfl
theorem Mh {A:Ask}(h:ckA A=0)(e:Int){k:DC4 α}:jz α e A.ix A.s1 A.s2 A.pol (A.ls.map rL) A.oi A.ol 0 k=bnd (ck A 0 e) (dk k):=zI h (n:=0) (by decide) e
theorem IH {A:Ask}(h:ckA A=0)(tr:Bool)(e:Int){k:DC4 α} :
  xB α e A.ix A.s1 A.s2 A.pol A.w1 A.w2 (A.ls.map rL) A.oi A.ol tr k=DK k (eH A tr e):=by
 rw [xB,af,Wd];refine (Mh h e).trans ?_;rw [aP,Py];dsimp only [dk];generalize ck A 0 e=u;refine (auV h tr u.2 ?_).trans ?_
 ·intro m m' a a' e he
  refine (EJ h tr u.1 m a e).trans (Eq.trans ?_ (EJ h tr u.1 m' a' e).symm);rw [pC A tr u.1 m a he,pC A tr u.1 m' a' he]
 ·exact EJ h tr u.1 _ _ _
end Go.AM.K

namespace Go.AM.K
set_option linter.unusedVariables false
set_option linter.unusedSimpArgs false
variable {α:Type}
def lsB (l:L5):Bool:=l.2.2.2.2 != 0
theorem aqM {A:Ask}:∀ (rest:List L5) (i:Nat),A.ls.drop i=rest->i<=A.ls.length->lsy A (rest.length+1) (i+1)=(rest.any lsB || A.ol != 0):=by
 intro rest
 induction rest with
 | nil=>
  intro i hd hi;have hl:A.ls.length<=i:=List.drop_eq_nil_iff.1 hd;show (if (eO A (i+1)).2.2=0 then lsy A 0 (i+1+1) else true)=_;rw [p8 (List.getElem?_eq_none_iff.2 hl)];by_cases c:A.ol=0
  ·rw [if_pos c,c];rfl
  ·rw [if_neg c,bne_iff_ne.2 c];rfl
 | cons l ls ih=>
  intro i hd hi;obtain⟨hg,hd'⟩:=bT hd;have hl:=(List.getElem?_eq_some_iff.1 hg).1;show (if (eO A (i+1)).2.2=0 then lsy A (ls.length+1) (i+1+1) else true)=_;rw [mi hg,ih (i+1) hd' (by omega),List.any_cons,Bool.or_assoc];unfold lsB;by_cases c:l.2.2.2.2=0
  ·rw [if_pos c,c];rfl
  ·rw [if_neg c,bne_iff_ne.2 c];rfl
theorem ahM (A:Ask):LJ A=(A.ls.any lsB || A.ol != 0):=aqM A.ls 0 rfl (Nat.zero_le _)
theorem apN {ls:List L5}(hA:ls.length<=40){k1:Bool->Int->Bool->Option α}{Y:Bool->Option α}(h1:∀ b x z,k1 b x z=Y b) :
  ∀ (rest:List L5) (i n:Nat) (b:Bool),ls.drop i=rest->i<=ls.length->rest.length < n->lM α (ls.map rL) k1 n b (i:Int)=Y (b || rest.any lsB):=by
 intro rest
 induction rest with
 | nil=>
  intro i n b hd hi hn;obtain⟨n,rfl⟩:∃ n',n=n'+1:=⟨n - 1,by simp only [List.length_nil] at hn;omega⟩
  have hl:ls.length<=i:=List.drop_eq_nil_iff.1 hd;rw [lM];simp only [o5,List.length_map];rw [decide_eq_false (by omega),al,h1,List.any_nil,Bool.or_false]
 | cons l rs ih=>
  intro i n b hd hi hn;obtain⟨n,rfl⟩:∃ n',n=n'+1:=⟨n - 1,by omega⟩
  obtain⟨hg,hd'⟩:=bT hd;have hl:=(List.getElem?_eq_some_iff.1 hg).1;have hw:w64 ((i:Int)+1)=((i+1:Nat):Int):=by rw [aj (by omega) (by omega)];omega
  have hn':rs.length < n:=by simp only [List.length_cons] at hn;omega
  rw [lM];simp only [o5,List.length_map];rw [decide_eq_true (by omega),aq,Pd hg,hw,ih (i+1) n true hd' (by omega) hn',ih (i+1) n _ hd' (by omega) hn',List.any_cons];cases b
  ·rw [al,Bool.false_or];rfl
  ·rw [aq,Bool.true_or,Bool.true_or]
theorem V9 (A:Ask)(hA:A.ls.length<=40){k:Bool->Option α}:pL α (A.ls.map rL) A.ol k=k (LJ A):=by
 have hf:A.ls.length < aG:=by have:=bF;omega
 rw [pL,af,Yy,tn,af,Fe,ahM,Bool.or_comm];exact apN hA (Y:=k) (fun _ _ _=>rfl) A.ls 0 aG _ rfl (Nat.zero_le _) hf
theorem VJ {x y:Int}{k:Int->Int->Option α}:xX α x y k=k (ip x) (ip y):=by
 have e:∀ x:Int,(if x < 1048576 then x else 1048576)=ip x:=fun x=>by unfold ip;split <;> split <;> omega
 rw [xX,af,Za,e,e]
theorem Rf {a b c d:Int}{k:Int->Int->Option α}:nq α a b c d k=k (NH b d) (NH a c):=by rw [nq,af,To];rfl
theorem Pf {A:Ask}{n:Nat}(h:(ck A n 0).2=0):(bH A n 0).2.2=0:=by
 refine Classical.byContradiction fun c=>?_;unfold ck at h;rw [fq] at h;simp only [i9 A n c,aP,bR c,ite_self] at h;by_cases cp:A.pol=0
 ·rw [if_pos cp] at h;exact c h
 ·rw [if_neg cp] at h;exact c h
theorem aED (A:Ask)(hA:A.ls.length<=40){st:Bool}{a b c d:Int}{k:Int->Int->Int->Int->Int->Int->Int->Option α} :
  n8 α st (pL α (A.ls.map rL) A.ol fun x=>cK x (nq α a b 0 0 fun x82 x83=>k a b 0 0 x82 x83 0) (k a b 0 0 0 0 0))
   (pL α (A.ls.map rL) A.ol fun x=>cK x (nq α a b c d fun x85 x86=>k a b c d x85 x86 0) (k a b c d 0 0 0))=KS k (D9 A st a b c d):=by
 rw [n8,af,EV,V9 A hA,V9 A hA,Rf,Rf,rq,rq,rq];unfold D9;simp only [apply_ite (KS k),aA2]
theorem asv {A:Ask}(h:ckA A=0){k:Int->Int->Int->Int->Int->Int->Int->Option α} :
  ∃ e:Int,e ≠ 0/\Ew α A.ix A.s1 A.s2 A.pol A.w1 A.w2 (A.ls.map rL) A.oi A.ol k=if (gG A).2=0 then KS k (gG A) else KS k (z6,e):=by
 obtain⟨_,_,_,_,h40,_⟩:=j0 h;have hw:w64 ((((A.ls.map rL).length:Nat):Int)+1)=((A.ls.length+1:Nat):Int):=by rw [List.length_map,aj (by omega) (by omega)];omega
 have hl:A.ls.length+1 < 1000000:=by omega
 have hs:gG A=bnd (eH A false 0) fun r e1=>bnd (eH A true e1) fun t e2=>bnd (ck A (A.ls.length+1) e2) fun l e3=>
  iX (jt e3 l) fun ul uh _ _ e4=>bnd (ck A 0 e4) fun f e5=>iX (jt e5 f) fun fl fh _ _ e6=>
  zw (bH A (A.ls.length+1) e6) fun _ st e7=>
  if e7=0 then
   if fl<=0 then (z6,9) else
   kI (np r) fun bl bh e8=>if e8=0 then
    kI (np t) fun tl th e9=>if e9=0 then
     D9 A st (ip bl) (ip bh) (ip (dnI (w64 (pos ul*tl)) fh)) (ip (upI (w64 (pos uh*th)) fl))
    else (z6,e9)
   else (z6,e8)
  else (z6,e7):=by unfold gG;rw [if_pos h]
 have amp0:∀ (tr:Bool) {e:Int},e ≠ 0->eH A tr e=(Bl0,e):=fun tr e he=>by
  rw [Py,AJ A 0 he];unfold fI;rw [z7 A tr A.ls 1 _ _ he];exact pC A tr _ _ _ he
 have amp_adm:∀ tr:Bool,(eH A tr 0).2=0->(ck A 0 0).2=0/\(ck A (A.ls.length+1) 0).2=0:=fun tr he=>by
  rw [Py] at he;by_cases c:(ck A 0 0).2=0
  ·refine⟨c,?_⟩
   rw [c] at he;by_cases c2:(fI A tr 0).2=0
   ·rw [c2] at he
    refine Classical.byContradiction fun q=>?_;rw [KJ A tr _ _ _ q] at he;exact q he
   ·rw [pC A tr _ _ _ c2] at he
    exact absurd he c2
  ·unfold fI at he
   rw [z7 A tr A.ls 1 _ _ c,pC A tr _ _ _ c] at he;exact absurd he c
 have zero7:∀ {e:Int},e ≠ 0->(bnd (ck A (A.ls.length+1) e) fun l e3=>
  iX (jt e3 l) fun ul uh _ _ e4=>bnd (ck A 0 e4) fun f e5=>iX (jt e5 f) fun fl fh _ _ e6=>
  zw (bH A (A.ls.length+1) e6) fun _ st e7=>
  if e7=0 then
   if fl<=0 then (z6,(9:Int)) else
   kI (np (eH A false 0).1) fun bl bh e8=>if e8=0 then
    kI (np (eH A true (eH A false 0).2).1) fun tl th e9=>if e9=0 then
     D9 A st (ip bl) (ip bh) (ip (dnI (w64 (pos ul*tl)) fh)) (ip (upI (w64 (pos uh*th)) fl))
    else (z6,e9)
   else (z6,e8)
  else (z6,e7))=(z6,e):=fun he=>by
  simp only [AJ A _ he,aP,cT,wv he,ro A _ he,fq,if_neg he]
 rw [hs,aP,aP];rw [Ew,af,Vm,Jj,af,Sx,IH h];by_cases c1:(eH A false 0).2=0
 ·rw [c1] at zero7 ⊢
  by_cases c2:(eH A true 0).2=0
  ·obtain⟨a1,a2⟩:=amp_adm false c1
   have a3:=Pf a2;have hv:(bnd (ck A (A.ls.length+1) (eH A true 0).2) fun l e3=>
    iX (jt e3 l) fun ul uh _ _ e4=>bnd (ck A 0 e4) fun f e5=>iX (jt e5 f) fun fl fh _ _ e6=>
    zw (bH A (A.ls.length+1) e6) fun _ st e7=>
    if e7=0 then
     if fl<=0 then (z6,(9:Int)) else
     kI (np (eH A false 0).1) fun bl bh e8=>if e8=0 then
      kI (np (eH A true 0).1) fun tl th e9=>if e9=0 then
       D9 A st (ip bl) (ip bh) (ip (dnI (w64 (pos ul*tl)) fh)) (ip (upI (w64 (pos uh*th)) fl))
      else (z6,e9)
     else (z6,e8)
    else (z6,e7))=if (ck A 0 0).1.lo1<=0 then (z6,9) else D9 A (bH A (A.ls.length+1) 0).2.1 (ip (eH A false 0).1.eLo) (ip (eH A false 0).1.eHi)
     (ip (dnI (w64 (pos (ck A (A.ls.length+1) 0).1.lo1*(eH A true 0).1.eLo)) (ck A 0 0).1.hi1)) (ip (upI (w64 (pos (ck A (A.ls.length+1) 0).1.hi1*(eH A true 0).1.eHi)) (ck A 0 0).1.lo1)):=by
    rw [c2,aP,a2,cT];unfold jt;rw [if_pos rfl];dsimp only;rw [aP,a1,if_pos rfl,cT];dsimp only;rw [fq,a3,if_pos rfl];unfold np;simp only [kr,if_true]
   rw [hv];refine⟨9,by decide,?_⟩;dsimp only [DK];rw [c1,bj,if_pos rfl,BX,af,Je];refine (IH h true 0).trans ?_;dsimp only [DK];rw [c2,bj,if_pos rfl,hw];refine (Mh h 0).trans ?_;rw [aP,a1];dsimp only [dk];refine (zI h hl 0).trans ?_;rw [aP,a2];dsimp only [dk];refine (ajX h hl 0).trans ?_;rw [Ad,Ad,JL,aJ];have g:=(ck A 0 0).1.bd;have b1:=azd (eH A true 0).1;have b2:=(ck A (A.ls.length+1) 0).1.bd;have p1:(ck A (A.ls.length+1) 0).1.lo1<=134217728:=by unfold Bl.lo1;omega
   have p2:(ck A (A.ls.length+1) 0).1.hi1<=134217728:=by unfold Bl.hi1;omega
   have q1:=ON p1;have q2:=ON p2;by_cases c3:(ck A 0 0).1.lo1<=0
   ·rw [if_pos c3,if_pos c3,if_neg (show ¬ (9:Int)=0 by decide)];rfl
   ·rw [if_neg c3,if_neg c3,Xp,Xp,VJ]
    have hh:0 < (ck A 0 0).1.hi1/\(ck A 0 0).1.hi1<=134217728/\(ck A 0 0).1.lo1<=134217728:=by
     unfold Bl.lo1 at *;unfold Bl.hi1;omega
    have r1:=ld q1.1 q1.2 b1.1.1 b1.1.2;have r2:=ld q2.1 q2.2 b1.2.1 b1.2.2;have s1:w64 (pos (ck A (A.ls.length+1) 0).1.lo1*(eH A true 0).1.eLo)=pos (ck A (A.ls.length+1) 0).1.lo1*(eH A true 0).1.eLo:=aj (by have:(0:Int)<=pos (ck A (A.ls.length+1) 0).1.lo1*(np (eH A true 0).1).1:=r1.1;exact Int.le_trans (by decide) this) (by have:pos (ck A (A.ls.length+1) 0).1.lo1*(np (eH A true 0).1).1<=134217728*8589934592:=r1.2;exact Int.le_trans this (by decide));have s2:w64 (pos (ck A (A.ls.length+1) 0).1.hi1*(eH A true 0).1.eHi)=pos (ck A (A.ls.length+1) 0).1.hi1*(eH A true 0).1.eHi:=aj (by have:(0:Int)<=pos (ck A (A.ls.length+1) 0).1.hi1*(np (eH A true 0).1).2.1:=r2.1;exact Int.le_trans (by decide) this) (by have:pos (ck A (A.ls.length+1) 0).1.hi1*(np (eH A true 0).1).2.1<=134217728*34359738368:=r2.2;exact Int.le_trans this (by decide));have t1:0<=pos (ck A (A.ls.length+1) 0).1.lo1*(eH A true 0).1.eLo:=r1.1;have t2:0<=pos (ck A (A.ls.length+1) 0).1.hi1*(eH A true 0).1.eHi:=r2.1;have t3:pos (ck A (A.ls.length+1) 0).1.hi1*(eH A true 0).1.eHi<=4611686018427387904:=Int.le_trans r2.2 (by decide);rw [s1,s2,Mb.f91_raw (by omega),Mb.f69_raw (by omega),Bf t1 hh.1,yE t2 t3 (by omega) (by omega),VJ];refine (aED A h40).trans ?_;have f0:∀ (st:Bool) (a b c d:Int),(D9 A st a b c d).2=0:=fun st a b c d=>by
     unfold D9;split
     ·split <;> rfl
     ·split <;> rfl
    rw [if_pos (f0 _ _ _ _ _)]
  ·rw [zero7 c2]
   refine⟨(eH A true 0).2,c2,?_⟩;dsimp only [DK];rw [c1,bj,if_pos rfl,BX,af,Je];refine (IH h true 0).trans ?_;dsimp only [DK];rw [bj,if_neg c2,if_neg c2];rfl
 ·rw [amp0 true c1]
  dsimp only;rw [amp0 true c1] at zero7;rw [zero7 c1];refine⟨(eH A false 0).2,c1,?_⟩;dsimp only [DK];rw [bj,if_neg c1,if_neg c1];rfl
theorem aJf {s a b c d e f:Int}(hs:0<=s/\s<=2){k:Int->Int->Option α} :
  ixK [[DC.v (.int .i64 a),DC.v (.int .i64 b)],[DC.v (.int .i64 c),DC.v (.int .i64 d)],[DC.v (.int .i64 e),DC.v (.int .i64 f)]] s 2
    (ldK [[DC.v (.int .i64 a),DC.v (.int .i64 b)],[DC.v (.int .i64 c),DC.v (.int .i64 d)],[DC.v (.int .i64 e),DC.v (.int .i64 f)]] (Int.toNat s) 0 [.int .i64,.int .i64] k)=
   k (atF s (a,b,c,d,e,f)).1 (atF s (a,b,c,d,e,f)).2:=by
 have:s=0\/s=1\/s=2:=by omega
 rcases this with rfl | rfl | rfl
 ·rfl
 ·rfl
 ·rfl
theorem aq3 {d:Dm}(hs:0<=d.sh/\d.sh<=2){ls:List L5}{oi ol:Int}(h:ckA (jL d ls oi ol)=0){k:Int->Int->Int->Option α} :
  ∃ e:Int,e ≠ 0/\Cm α (ls.map rL) oi ol d.sh d.pol d.ix d.w1 d.w2 d.s1 d.s2 k=if (so d ls oi ol).2=0 then k (so d ls oi ol).1.1 (so d ls oi ol).1.2 0 else k 0 0 e:=by
 rw [Cm,af,UF];obtain⟨e,he,hk⟩:=asv (α:=α) h (k:=fun (x18:Int) (x19:Int) (x20:Int) (x21:Int) (x22:Int) (x23:Int) (x24:Int)=>cK (x24 != 0)
   (k 0 0 x24)
   (ixK [[DC.v (.int .i64 x18),DC.v (.int .i64 x19)],[DC.v (.int .i64 x20),DC.v (.int .i64 x21)],[DC.v (.int .i64 x22),DC.v (.int .i64 x23)]] d.sh 2
    (ldK [[DC.v (.int .i64 x18),DC.v (.int .i64 x19)],[DC.v (.int .i64 x20),DC.v (.int .i64 x21)],[DC.v (.int .i64 x22),DC.v (.int .i64 x23)]] (Int.toNat d.sh) 0 [.int .i64,.int .i64]
     (fun (x25:Int) (x26:Int)=>k x25 x26 0))))
 refine⟨e,he,hk.trans ?_⟩;clear hk;unfold KS so;dsimp only;by_cases c:(gG (jL d ls oi ol)).2=0
 ·rw [if_pos c,if_pos c,if_pos rfl,bj,if_pos c,aJf hs]
 ·rw [if_neg c,if_neg c,if_neg c,bj,if_neg he]
theorem arF {a b c d:Int}{k1:Option α}{k2:Bool->Option α}{Y:Option α}(h2:∀ b,k2 b=Y):lw α a b c d k1 k2=if w64 (a*1048576)<=w64 (c*10000)/\w64 (d*10000)<=w64 (b*1048576) then k1 else Y:=by
 rw [lw,af,Fx,aJ,aJ];by_cases c1:w64 (a*1048576)<=w64 (c*10000)
 ·rw [if_pos c1]
  by_cases c2:w64 (d*10000)<=w64 (b*1048576)
  ·rw [if_pos c2,if_pos ⟨c1,c2⟩]
  ·rw [if_neg c2,if_neg (fun h=>c2 h.2),h2]
 ·rw [if_neg c1,if_neg (fun h=>c1 h.1),h2]
theorem Sp {d:Dm}(hs:0<=d.sh/\d.sh<=2){ls:List L5}{oi ol:Int}(h:ckA (jL d ls oi ol)=0){k:Int->Option α} :
  ee α (ls.map rL) oi ol d.sh d.pol d.ix d.lo d.hi d.w1 d.w2 d.s1 d.s2 k=k (eK d ls oi ol):=by
 rw [ee,af,Qq];obtain⟨e,he,hk⟩:=aq3 (α:=α) hs h (k:=fun (x18:Int) (x19:Int) (x20:Int)=>cK (x20 != 0)
   (k 1)
   (lw α d.lo d.hi x18 x19
    (k 2)
    (fun (x34:Bool)=>cK (decide ((w64 (x19*10000)) < (w64 (d.lo*1048576))))
     (k 0)
     (cK (decide ((w64 (d.hi*1048576)) < (w64 (x18*10000))))
      (k 0)
      (k 1)))))
 refine hk.trans ?_;clear hk;unfold eK;generalize so d ls oi ol=u;by_cases c:u.2=0
 ·rw [if_pos c,if_pos c,bj,if_pos rfl,arF (fun _=>rfl),aJ,aJ]
  split
  ·rfl
  ·split
   ·rfl
   ·split <;> rfl
 ·rw [if_neg c,if_neg c,bj,if_neg he]
end Go.AM.K
