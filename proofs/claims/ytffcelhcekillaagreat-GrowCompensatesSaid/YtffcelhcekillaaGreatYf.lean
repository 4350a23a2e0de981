/- Texts of one kind, put together. -/
import Derived.Test.YtffcelhcekillaaGreatYe
import Derived.Test.YtffcelhcekillaaGreatYc
import Derived.Test.YtffcelhcekillaaGreatYd
namespace Go.AM.K
set_option linter.unusedVariables false
set_option linter.unusedSimpArgs false
variable {α:Type}
abbrev DC4 (α:Type):=Int->Int->Int->Int->Option α
def dk (k:DC4 α)(u:Bl)(e:Int):Option α:=k u.b.1 u.b.2.1 u.b.2.2 e
theorem qa (e:Int){u:Bl × Int}(hn:Nz u){k:DC4 α}:DK (fun x y r e'=>du α e x y r e' k) u=bnd (if e=0 then u else (Bl0,e)) (dk k):=by
 rw [aP];unfold DK dk;simp only [du,af,VN,bo];by_cases h:e=0
 ·rw [if_pos h,if_pos h]
  by_cases h2:u.2=0
  ·rw [if_pos h2,h,h2]
  ·rw [if_neg h2,hn h2];rfl
 ·rw [if_neg h,if_neg h];rfl
theorem uA {e:Int}{u:Bl × Int}(hn:Nz u){k:DC4 α}:(if e=0 then DK (fun x y r e'=>du α e x y r e' k) u else k 0 0 0 e)=bnd (if e=0 then u else (Bl0,e)) (dk k):=by
 by_cases h:e=0
 ·rw [if_pos h];exact qa e hn
 ·rw [if_neg h,if_neg h,aP];rfl
theorem u7 (e:Int)(a b:Bl){k:DC4 α}:eH α e a.b.1 a.b.2.1 a.b.2.2 b.b.1 b.b.2.1 b.b.2.2 k=bnd (two fD e a b) (dk k):=by
 rw [eH,af,SS,anG,bo];exact uA (vC _)
theorem my (e:Int)(a b:Bl){k:DC4 α}:cj α e a.b.1 a.b.2.1 a.b.2.2 b.b.1 b.b.2.1 b.b.2.2 k=bnd (two bD e a b) (dk k):=by
 rw [cj,af,Ze,aq3,bo];exact uA (vC _)
theorem IZ (e:Int)(a b:Bl){k:DC4 α}:mV α e a.b.1 a.b.2.1 a.b.2.2 b.b.1 b.b.2.1 b.b.2.2 k=bnd (two jW e a b) (dk k):=by
 rw [mV,af,WE,aoG,bo];exact uA (vC _)
theorem zY (e:Int)(a b:Bl){k:DC4 α}:kO α e a.b.1 a.b.2.1 a.b.2.2 b.b.1 b.b.2.1 b.b.2.2 k=bnd (two wO e a b) (dk k):=by
 rw [kO,af,X0,aow,bo];exact uA (ay4 _ _)
theorem OQ {e lo hi:Int}{k:DC4 α}:g7 α lo hi (fun x y r e'=>du α e x y r e' k)=bnd (iK e lo hi) (dk k):=by
 rw [zV];exact qa e (tf _ _)
theorem ayc (e:Int)(a:Bl){k:DC4 α}:xp α a.b.1 a.b.2.1 a.b.2.2 (fun x y r e'=>du α e x y r e' k)=bnd (if e=0 then o6 a else (Bl0,e)) (dk k):=by
 rw [aqu];exact qa e (amy _)
theorem amv {e lo hi:Int}{k:DC4 α}:xr α lo hi (fun x y r e'=>du α e x y r e' k)=bnd (if e=0 then jX lo hi else (Bl0,e)) (dk k):=by
 rw [arV];exact qa e (ajv _ _)
theorem aDR {e lo hi:Int}{k:DC4 α}:xo α lo hi (fun x y r e'=>du α e x y r e' k)=bnd (if e=0 then CL lo hi else (Bl0,e)) (dk k):=by
 rw [aoO];exact qa e (axi _ _)
theorem awq {e n:Int}(h1:0<=n)(h2:n<=80000){k:DC4 α}:yJ α n 10000 (fun x y r e'=>du α e x y r e' k)=bnd (u9 e n 10000) (dk k):=by
 rw [au0 h1 h2];exact qa e (P7 _ _)
theorem B0 {n d:Int}(h0:0<=n)(hd:0 < d):flr n d=dnI n d:=by
 unfold flr dnI;rw [if_neg];rw [Int.tmod_eq_emod_of_nonneg h0];have:=Int.emod_nonneg n (Int.ne_of_gt hd);omega
theorem xv {n d:Int}(h0:0<=n)(h1:n<=4611686018427387904)(hd:0 < d)(hd2:d<=1000000000):cel n d=upI n d:=by
 rw [sF hd (by omega) (by omega) (by omega)];unfold upI cdv;rw [aj (n:=n+d) (by omega) (by omega),aj (n:=n+d - 1) (by omega) (by omega),Int.tdiv_eq_ediv_of_nonneg (by omega)];have a:=Int.ediv_nonneg (a:=n+d - 1) (by omega) (Int.le_of_lt hd);have b:=Int.ediv_le_self (a:=n+d - 1) d (by omega);rw [aj (by omega) (by omega)];have e:=Int.emod_add_mul_ediv (n+d - 1) d;have e1:=Int.emod_nonneg (n+d - 1) (Int.ne_of_gt hd);have e2:=Int.emod_lt_of_pos (n+d - 1) hd;have:=(Int.ediv_emod_unique (a:=-n) (q:=-((n+d - 1) / d)) (r:=d - 1 - (n+d - 1) % d) hd).2 ⟨by rw [Int.mul_neg];omega,by omega,by omega⟩;rw [this.1,Int.neg_neg]
theorem auZ:∀ {ls:List L5},lsE ls=0->∀ l ∈ ls,uC l=0:=by
 intro ls
 induction ls with
 | nil=>intro _ l hl;cases hl
 | cons x xs ih=>
  intro h l hl;unfold lsE at h;by_cases c:uC x=0
  ·rw [if_pos c] at h
   rcases List.mem_cons.1 hl with rfl | hl
   ·exact c
   ·exact ih h l hl
  ·rw [if_neg c] at h;exact absurd h c
theorem aqN {l:L5}(h:uC l=0):((5000<=l.1/\l.1<=80000)/\5000<=l.2.1/\l.2.1<=80000)/\((0<=l.2.2.1/\l.2.2.1<=1000000)/\0<=l.2.2.2.1/\l.2.2.2.1<=1000000)/\0<=l.2.2.2.2/\l.2.2.2.2<=80000:=by
 unfold uC at h;by_cases c:aaR l=true
 ·exact of_decide_eq_true c
 ·rw [if_neg c] at h;exact absurd h (by decide)
theorem aeE {A:Ask}(h:ckA A=0){i:Nat}{l:L5}(hl:A.ls[i]?=some l):((5000<=l.1/\l.1<=80000)/\5000<=l.2.1/\l.2.1<=80000)/\((0<=l.2.2.1/\l.2.2.1<=1000000)/\0<=l.2.2.2.1/\l.2.2.2.1<=1000000)/\0<=l.2.2.2.2/\l.2.2.2.2<=80000:=by
 obtain⟨_,_,_,_,_,h6,_⟩:=jA h;exact aqN (auZ h6 l (List.mem_of_getElem? hl))
theorem azO {A:Ask}(h:ckA A=0)(n:Nat):(5000<=(eO A n).1/\(eO A n).1<=80000)/\(5000<=(eO A n).2.1/\(eO A n).2.1<=80000)/\0<=(eO A n).2.2/\(eO A n).2.2<=80000:=by
 obtain⟨h1,_,_,_,_,_,h7,h8⟩:=jA h;cases n with
 | zero=>exact⟨h1,h1,by show (0:Int)<=0;omega,by show (0:Int)<=80000;omega⟩
 | succ n=>
  cases hl:A.ls[n]? with
  | none=>rw [qE hl];exact⟨h7,h7,h8⟩
  | some l=>
   have:=aeE h hl;rw [lK hl];exact⟨this.1.1,this.1.2,this.2.2⟩
def thE (A:Ask)(n:Nat):Int × Int:=match n with
 | 0=>(0,0)
 | n+1=>match A.ls[n]? with
  | some l=>(l.2.2.1,l.2.2.2.1)
  | none=>(0,0)
theorem Ic (A:Ask){n:Nat}(hn:n < 1000000){k:Int->Int->Int->Int->Int->Option α} :
  sG α A.ix (A.ls.map rL) A.oi A.ol (n:Int) k=k (eO A n).1 (eO A n).2.1 (thE A n).1 (thE A n).2 (eO A n).2.2:=by
 simp only [sG,af,QZ,gz,aK,List.length_map];cases n with
 | zero=>rw [if_pos (show ((0:Nat):Int)=0 from rfl)];rfl
 | succ n=>
  rw [if_neg (by omega)];cases h:A.ls[n]? with
  | some l=>
   have hl:n < A.ls.length:=(List.getElem?_eq_some_iff.1 h).1;rw [if_neg (by omega),aif h (by omega),lK h];unfold thE;simp only [h]
  | none=>
   have hl:A.ls.length<=n:=List.getElem?_eq_none_iff.1 h;rw [if_pos (by omega),qE h];unfold thE;simp only [h]
theorem arj (e lo hi:Int):Nz (iK e lo hi):=by
 unfold iK;split
 ·exact tf _ _
 ·exact zw _
theorem axy (e n d:Int):Nz (u9 e n d):=by
 unfold u9;split
 ·exact P7 _ _
 ·exact zw _
theorem bR {op:Bl->Bl->Bl × Int}{e:Int}(h:e ≠ 0)(a b:Bl):two op e a b=(Bl0,e):=if_neg h
theorem wH {e lo hi:Int}(h:e ≠ 0):iK e lo hi=(Bl0,e):=if_neg h
theorem sY {e n d:Int}(h:e ≠ 0):u9 e n d=(Bl0,e):=if_neg h
theorem tE {e:Int}{a:Bl}(h:e ≠ 0):jY e a=((0,0,0,0),e):=if_neg h
theorem je (A:Ask)(n:Nat){e:Int}(h:e ≠ 0):eF A n e=(Bl0,e):=by
 unfold eF;simp only [wH h,aP,sY h,bR h,if_neg h,ite_self]
theorem rQ (A:Ask)(n:Nat){e:Int}(h:e ≠ 0):bK A n e=(Bl0,false,e):=by
 unfold bK;simp only [je A n h,wH h,aP,bR h,tE h,cV,if_neg h,ite_self]
theorem Ag (A:Ask)(n:Nat){e:Int}(h:e ≠ 0):ck A n e=(Bl0,e):=by
 unfold ck;simp only [rQ A n h,je A n h,aP,fx,bR h,ite_self]
theorem aaD {A:Ask}(h:ckA A=0){n:Nat}(hn:n < 1000000)(e:Int){k:DC4 α} :
  xQ α e A.ix (A.ls.map rL) A.oi A.ol (n:Int) k=bnd (eF A n e) (dk k):=by
 obtain⟨m1,m2,m3⟩:=azO h n;have e1:flr (w64 ((eO A n).1*1048576)) 10000=dnI (w64 ((eO A n).1*1048576)) 10000:=B0 (by rw [aj (by omega) (by omega)];omega) (by decide);have e2:cel (w64 ((eO A n).2.1*1048576)) 10000=upI (w64 ((eO A n).2.1*1048576)) 10000:=xv (by rw [aj (by omega) (by omega)];omega) (by rw [aj (by omega) (by omega)];omega) (by decide) (by decide);rw [xQ,af,S4,Ic A hn,Mb.f91_raw (by decide),Mb.f69_raw (by decide),e1,e2];refine OQ.trans ?_;rw [aP,aP];show _=DK k (eF A n e);unfold eF;rw [aP];have nu:=arj e (dnI (w64 ((eO A n).1*1048576)) 10000) (upI (w64 ((eO A n).2.1*1048576)) 10000);generalize iK e (dnI (w64 ((eO A n).1*1048576)) 10000) (upI (w64 ((eO A n).2.1*1048576)) 10000)=u at *;dsimp only [dk];rw [gz];by_cases c:(eO A n).2.2=0
 ·rw [if_pos c,if_pos c];rfl
 ·rw [if_neg c,if_neg c,bo]
  by_cases c2:u.2=0
  ·rw [if_pos c2]
   refine (awq m3.1 m3.2).trans ?_;rw [aP,aP];have nv:=axy u.2 (eO A n).2.2 10000;generalize u9 u.2 (eO A n).2.2 10000=v at *;dsimp only [dk];have gb:=v.1.bd;refine (akS (by omega) (by omega)).trans ?_;by_cases c3:v.2=0
   ·rw [if_pos c3,aP,L6,aP]
    dsimp only;rw [c3];exact (u7 0 u.1 ⟨(-v.1.b.2.1,v.1.b.1,v.1.b.2.2),KE v.1⟩).trans (aP _ _)
   ·rw [if_neg c3,nv c3,aP,bR c3]
    refine (u7 v.2 u.1 Bl0).trans ?_;rw [bR c3,aP];rfl
  ·rw [if_neg c2,aP,sY c2,if_neg c2,aP,bR c2,nu c2];rfl
theorem ard {A:Ask}(h:ckA A=0){n:Nat}(hn:n < 1000000)(e:Int){k:DC4 α} :
  xQ α e A.ix (A.ls.map rL) A.oi A.ol (n:Int) (fun a b c d=>k a b c d)=bnd (eF A n e) (dk k):=aaD h hn e
theorem au5 {A:Ask}(h:ckA A=0)(e:Int){k:DC4 α} :
  CW α e A.ix A.s1 A.s2 k=bnd (iK e (dnI (w64 ((w64 (A.ix*A.s1))*1048576)) 100000000) (upI (w64 ((w64 (A.ix*A.s2))*1048576)) 100000000)) (dk k):=by
 obtain⟨h1,h2,_⟩:=jA h;obtain⟨g1,g2,_⟩:=JH h2;have m1:=ld (x:=A.ix) (y:=A.s1) (A:=80000) (B:=9999) (by omega) h1.2 g1.1 g1.2;have m2:=ld (x:=A.ix) (y:=A.s2) (A:=80000) (B:=9999) (by omega) h1.2 g2.1 g2.2;have w1:w64 (A.ix*A.s1)=A.ix*A.s1:=aj (by omega) (by omega);have w2:w64 (A.ix*A.s2)=A.ix*A.s2:=aj (by omega) (by omega);rw [CW,af,Re,Mb.f91_raw (by decide),Mb.f69_raw (by decide),w1,w2,
  B0 (by rw [aj (by omega) (by omega)];omega) (by decide),xv (by rw [aj (by omega) (by omega)];omega) (by rw [aj (by omega) (by omega)];omega) (by decide) (by decide)]
 exact OQ
def sqE (A:Ask)(n:Nat)(e:Int):Bl × Bl × Int:=
 bnd (eF A n e) fun u e1=>
 bnd (iK e1 (dnI (w64 ((w64 (A.ix*A.s1))*1048576)) 100000000) (upI (w64 ((w64 (A.ix*A.s2))*1048576)) 100000000)) fun b e2=>
 bnd (two bD e2 u u) fun v e3=>bnd (two bD e3 b b) fun c e4=>bnd (two jW e4 v c) fun d e5=>(v,d,e5)
theorem auW {A:Ask}(h:ckA A=0){n:Nat}(hn:n < 1000000)(e:Int){k:Int->Int->Int->Int->Int->Int->Int->Option α} :
  EW α e A.ix A.s1 A.s2 (A.ls.map rL) A.oi A.ol (n:Int) k=k (sqE A n e).1.b.1 (sqE A n e).1.b.2.1 (sqE A n e).1.b.2.2 (sqE A n e).2.1.b.1 (sqE A n e).2.1.b.2.1 (sqE A n e).2.1.b.2.2 (sqE A n e).2.2:=by
 unfold sqE;simp only [EW,af,QU,ard h hn,au5 h,my,IZ,aP,dk]
theorem ayB (A:Ask)(n:Nat){e:Int}(h:e ≠ 0):sqE A n e=(Bl0,Bl0,e):=by
 unfold sqE;simp only [je A n h,wH h,aP,bR h]
theorem Wc {A:Ask}(h:ckA A=0){n:Nat}(hn:n < 1000000)(e:Int){k:Int->Int->Int->Int->Int->Int->Bool->Int->Option α} :
  o3 α e A.ix A.s1 A.s2 (A.ls.map rL) A.oi A.ol (n:Int) k=
   if (sqE A n e).2.2=0 then k (bK A n e).1.b.1 (bK A n e).1.b.2.1 (bK A n e).1.b.2.2 (sqE A n e).1.b.1 (sqE A n e).1.b.2.1 (sqE A n e).1.b.2.2 (bK A n e).2.1 (bK A n e).2.2
   else k 0 0 0 0 0 0 false (sqE A n e).2.2:=by
 rw [o3,af,Wm,auW h hn,Ic A hn];rw [bo];have hno:bK A n e=if (eO A n).2.2=0 then
   iQ (jY (sqE A n e).2.2 (sqE A n e).2.1) fun lo hi _ _ e6=>if e6=0 then bnd (jX lo hi) fun q e7=>(q,decide (lo < 0),e7) else (Bl0,false,e6)
  else if (sqE A n e).2.2=0 then bnd (o6 (sqE A n e).2.1) fun q e6=>(q,false,e6) else (Bl0,false,(sqE A n e).2.2):=by
  unfold bK sqE;simp only [aP]
 rw [hno];clear hno;generalize sqE A n e=s;by_cases c:s.2.2=0
 ·rw [if_pos c,if_pos c,bo]
  by_cases c2:(eO A n).2.2=0
  ·rw [if_pos c2,if_pos c2,zL,c]
   refine amv.trans ?_;rw [if_pos rfl,aP,cV];unfold jY;simp only [if_true,aP,dk]
  ·rw [if_neg c2,if_neg c2,if_pos c,c]
   refine (ayc 0 s.2.1).trans ?_;rw [if_pos rfl,aP,aP];rfl
 ·rw [if_neg c,if_neg c]
theorem Xi {A:Ask}{n:Nat}{e:Int}(h:(sqE A n e).2.2 ≠ 0):bK A n e=(Bl0,false,(sqE A n e).2.2):=by
 have hno:bK A n e=if (eO A n).2.2=0 then
   iQ (jY (sqE A n e).2.2 (sqE A n e).2.1) fun lo hi _ _ e6=>if e6=0 then bnd (jX lo hi) fun q e7=>(q,decide (lo < 0),e7) else (Bl0,false,e6)
  else if (sqE A n e).2.2=0 then bnd (o6 (sqE A n e).2.1) fun q e6=>(q,false,e6) else (Bl0,false,(sqE A n e).2.2):=by
  unfold bK sqE;simp only [aP]
 rw [hno];simp only [tE h,cV,if_neg h,ite_self]
theorem Ay {A:Ask}(h:ckA A=0){n:Nat}(hn:n < 1000000)(e:Int){k:DC4 α} :
  jN α e A.ix A.s1 A.s2 A.pol (A.ls.map rL) A.oi A.ol (n:Int) k=bnd (ck A n e) (dk k):=by
 rw [jN,af,XM,Wc h hn,gz,gz];unfold ck;rw [fx];by_cases c:(sqE A n e).2.2=0
 ·rw [if_pos c]
  by_cases cp:A.pol=0
  ·rw [if_pos cp,if_pos cp,aP];rfl
  ·rw [if_neg cp,if_neg cp]
   refine (zY _ _ _).trans ?_;rw [aP,aP,aP,aP,aP];by_cases c3:(bK A n e).2.2=0
   ·have he:e=0:=Classical.byContradiction fun he=>by
     rw [ayB A n he] at c;exact he c
    subst he;rw [c3];have hv:(two bD (eF A n 0).2 (eF A n 0).1 (eF A n 0).1).2=0/\(sqE A n 0).1=(two bD (eF A n 0).2 (eF A n 0).1 (eF A n 0).1).1:=by
     unfold sqE at c ⊢;simp only [aP] at c ⊢;by_cases i0:(eF A n 0).2=0
     ·rw [i0] at c ⊢
      by_cases r0:(iK 0 (dnI (w64 ((w64 (A.ix*A.s1))*1048576)) 100000000) (upI (w64 ((w64 (A.ix*A.s2))*1048576)) 100000000)).2=0
      ·rw [r0] at c ⊢
       refine⟨Classical.byContradiction fun q=>?_,rfl⟩;rw [bR q,bR q] at c;exact q c
      ·rw [bR r0,bR r0,bR r0] at c
       exact absurd c r0
     ·rw [wH i0,bR i0,bR i0,bR i0] at c
      exact absurd c i0
    rw [hv.1,hv.2]
   ·rw [bR c3,je A n c3,bR c3,bR c3]
 ·rw [if_neg c,Xi c,aP,aP,aP,je A n c,bR c,bR c]
  by_cases cp:A.pol=0
  ·rw [if_pos cp,if_pos cp];rfl
  ·rw [if_neg cp,if_neg cp]
   refine (zY _ Bl0 Bl0).trans ?_;rw [bR c,aP,aP]
theorem acJ {A:Ask}(h:ckA A=0){n:Nat}(hn:n < 1000000)(e:Int){k:Int->Int->Int->Bool->Int->Option α} :
  o3 α e A.ix A.s1 A.s2 (A.ls.map rL) A.oi A.ol (n:Int) (fun a b c _ _ _ s e=>k a b c s e)=k (bK A n e).1.b.1 (bK A n e).1.b.2.1 (bK A n e).1.b.2.2 (bK A n e).2.1 (bK A n e).2.2:=by
 rw [Wc h hn];by_cases c:(sqE A n e).2.2=0
 ·rw [if_pos c]
 ·rw [if_neg c,Xi c];rfl
theorem JI {x y:Int}{k:Int->Int->Option α}:rT α x y k=k (pos x) (pos y):=by rw [rT,af,TE];rfl
theorem aaN {s:Bool}{l:Int}{k1:Option α}{k2:Bool->Option α}{Y:Option α}(h:∀ b,k2 b=Y):p6 α s l k1 k2=if l=0 then (if s=true then k1 else Y) else Y:=by
 rw [p6,af,HH,nL,af,Hs,gz];by_cases c:l=0
 ·rw [if_pos c,if_pos c,oA,h]
 ·rw [if_neg c,if_neg c,al,h]
theorem abe {s:Bool}{l:Int}{k1:Option α}{k2:Bool->Option α}{Y:Option α}(h:∀ b,k2 b=Y):fK α s l k1 k2=if l=0 then (if s=true then Y else k1) else Y:=by
 rw [fK,af,yK,gN,af,xW,gz];by_cases c:l=0
 ·rw [if_pos c,if_pos c]
  cases s
  ·rw [Bool.not_false,ap,if_neg (by decide)]
  ·rw [Bool.not_true,al,if_pos rfl,h]
 ·rw [if_neg c,if_neg c,al,h]
theorem abX {s:Bool}{l:Int}{k1:Option α}{k2:Bool->Option α}{Y:Option α}(h:∀ b,k2 b=Y):fK α s l k1 k2=if l=0 then (if s=true then Y else k1) else Y:=by
 rw [fK,af,yK,gN,af,xW,gz];by_cases c:l=0
 ·rw [if_pos c,if_pos c]
  cases s
  ·rw [Bool.not_false,ap,if_neg (by decide)]
  ·rw [Bool.not_true,al,if_pos rfl,h]
 ·rw [if_neg c,if_neg c,al,h]
theorem w4:w64 (4*pos 0)=0:=by decide
theorem akw {x t:Int}(hx:x<=134217728)(h1:0<=t)(h2:t<=1000000):0<=w64 ((w64 (4*pos x))*t)/\w64 ((w64 (4*pos x))*t)<=4611686018427387904:=by
 have hp:=Pm hx;rw [aj (n:=4*pos x) (by omega) (by omega)];have m:=ld (x:=4*pos x) (y:=t) (A:=536870912) (B:=1000000) (by omega) (by omega) h1 h2;rw [aj (by omega) (by omega)];omega
theorem akN {x t d:Int}(hx:x<=134217728)(h1:0<=t)(h2:t<=1000000)(hd:0 < d){k:Int->Option α}:dD α (w64 ((w64 (4*pos x))*t)) d k=k (dnI (w64 ((w64 (4*pos x))*t)) d):=by
 rw [Mb.f91_raw (by omega),B0 (akw hx h1 h2).1 hd]
theorem aeo {x t d:Int}(hx:x<=134217728)(h1:0<=t)(h2:t<=1000000)(hd:0 < d)(hd2:d<=1000000000){k:Int->Option α}:cn α (w64 ((w64 (4*pos x))*t)) d k=k (upI (w64 ((w64 (4*pos x))*t)) d):=by
 rw [Mb.f69_raw (by omega),xv (akw hx h1 h2).1 (akw hx h1 h2).2 hd hd2]
theorem akB {A:Ask}{i:Nat}{l:L5}(h:A.ls[i]?=some l):thE A (i+1)=(l.2.2.1,l.2.2.2.1):=by
 show (match A.ls[i]? with
  | some l=>(l.2.2.1,l.2.2.2.1)
  | none=>(0,0))=_
 rw [h]
theorem YF {A:Ask}(h:ckA A=0){i:Nat}{l:L5}(hl:A.ls[i]?=some l)(e:Int){k:Int->Int->Int->Int->Int->Option α} :
  B8 α e A.ix A.s1 A.s2 A.w1 A.w2 (A.ls.map rL) A.oi A.ol ((i+1:Nat):Int) k=KP k (g4 A l (i+1) e):=by
 obtain⟨_,_,_,hw,h40,_⟩:=jA h;obtain⟨g1,g2,_⟩:=JH hw;have hi:i < A.ls.length:=(List.getElem?_eq_some_iff.1 hl).1;obtain⟨_,⟨⟨t1,t2⟩,t3,t4⟩,_⟩:=aeE h hl;have hn:i+1 < 1000000:=by omega
 rw [B8,af,SI];refine (acJ h hn e).trans ?_;unfold g4;rw [fx,cV,bo];generalize bK A (i+1) e=u;have hu:=u.1.bd;have b1:u.1.lo1<=134217728:=by unfold Bl.lo1;omega
 have b2:u.1.hi1<=134217728:=by unfold Bl.hi1;omega
 have b3:u.1.lo2<=134217728:=by unfold Bl.lo2;omega
 have b4:u.1.hi2<=134217728:=by unfold Bl.hi2;omega
 have b0:(0:Int)<=134217728:=by decide
 have z1:∀ t:Int,0*t=w64 (4*pos 0)*t:=fun t=>by rw [w4]
 by_cases c:u.2.2=0
 ·rw [if_pos c,Ic A hn,zL,JI,JI,akB hl,lK hl,aaN (fun _=>rfl),abe (fun _=>rfl),abX (fun _=>rfl)]
  unfold jY;rw [if_pos c];dsimp only;have hz:(0:Int)<=1000000:=by decide
  simp only [z1,akN b0 t1 t2 (show 0 < A.w2 by omega),aeo b0 t3 t4 (show 0 < A.w1 by omega) (by omega),akN b1 t1 t2 (show 0 < A.w2 by omega),aeo b2 t3 t4 (show 0 < A.w1 by omega) (by omega),akN b3 t1 t2 (show 0 < A.w2 by omega),aeo b4 t3 t4 (show 0 < A.w1 by omega) (by omega),c];by_cases c2:l.2.2.2.2=0
  ·simp only [if_pos c2]
   cases u.2.1 with
   | false=>simp only [Bool.false_eq_true,if_false];rfl
   | true=>simp only [if_true];rfl
  ·simp only [if_neg c2];rfl
 ·rw [if_neg c,tE c]
  dsimp only;have zt:rP A l 0 0 0 0 u.2.2=((0,0,0,0),u.2.2):=by
   have zd:∀ t,dnI (w64 (w64 (4*pos 0)*t)) A.w2=0:=fun t=>by
    rw [w4,Int.zero_mul,<- B0 (show 0<=w64 0 by decide) (show 0 < A.w2 by omega),show w64 0=0 by decide,DD (by omega) (by omega) (by omega) (by omega),Int.zero_ediv]
   have zu:∀ t,upI (w64 (w64 (4*pos 0)*t)) A.w1=0:=fun t=>by
    rw [w4,Int.zero_mul,<- xv (show 0<=w64 0 by decide) (by decide) (show 0 < A.w1 by omega) (by omega),show w64 0=0 by decide,sF (by omega) (by omega) (by omega) (by omega)];unfold cdv;rw [Int.neg_zero,Int.zero_ediv];rfl
   unfold rP;rw [zd,zu]
  rw [zt,ite_self,ite_self];rfl
def axH (a b c d e1:Int):Bl × Int:=if e1=0 then
  (if w64 (b - a) < 1048576 then
   bnd (CL a b) fun z e2=>if e2=0 then
    kR (jx c d) fun p q e3=>if e3=0 then bnd (iK e3 p q) fun s e4=>bnd (two bD e4 z s) fun v e5=>(v,e5) else (Bl0,e3)
   else (Bl0,e2)
  else if e1=0 then
    kR (jx c d) fun p q e3=>if e3=0 then bnd (iK e3 p q) fun s e4=>bnd (two bD e4 Blc s) fun v e5=>(v,e5) else (Bl0,e3)
   else (Bl0,e1))
  else (Bl0,e1)
theorem sD (A:Ask)(l:L5)(n:Nat)(t e:Int):eA A l n t e=iQ (g4 A l n e) fun a b c d e1=>axH (w64 (t*a)) (w64 (t*b)) (w64 (t*c)) (w64 (t*d)) e1:=rfl
theorem MF {c d:Int}(z:Bl){k:DC4 α} :
  r8 α c d (fun p q e3=>cK (e3 != 0) (k 0 0 0 e3) (g7 α p q (fun x35 x36 x37 x38=>du α 0 x35 x36 x37 x38 (fun x39 x40 x41 x42=>cj α x42 z.b.1 z.b.2.1 z.b.2.2 x39 x40 x41 k))))=
   DK k (kR (jx c d) fun p q e3=>if e3=0 then bnd (iK e3 p q) fun s e4=>bnd (two bD e4 z s) fun v e5=>(v,e5) else (Bl0,e3)):=by
 rw [ar2,kt,bo];generalize jx c d=u;by_cases h:u.2.2=0
 ·rw [if_pos h,if_pos h,h]
  refine OQ.trans ?_;rw [aP,aP];dsimp only [dk];refine (my _ z _).trans ?_;rw [aP,aP];rfl
 ·rw [if_neg h,if_neg h];rfl
theorem Zx {a b c d e:Int}{k:DC4 α}:xl α e a b c d k=DK k (axH a b c d e):=by
 rw [xl,af,Q5,bo];unfold axH;by_cases h:e=0
 ·subst h
  rw [if_pos rfl,if_pos rfl,w9,af,FT,aK];by_cases h2:w64 (b - a) < 1048576
  ·rw [if_pos h2,if_pos h2]
   refine aDR.trans ?_;rw [if_pos rfl,aP,aP];generalize CL a b=u;dsimp only [dk];rw [bo];by_cases h3:u.2=0
   ·rw [if_pos h3,if_pos h3,h3]
    exact MF u.1
   ·rw [if_neg h3,if_neg h3];rfl
  ·rw [if_neg h2,if_neg h2,if_pos rfl]
   exact MF Blc
 ·rw [if_neg h,if_neg h];rfl
theorem aHo (x:Int):-9223372036854775808<=w64 x/\w64 x<=9223372036854775807:=by
 have:w64 x=IntKind.wrap .i64 x:=rfl;rw [this,IntKind.wrap_i64];omega
theorem apH {x y:Int}(h:y=w64 x):w64 (1*y)=y:=by
 subst h;have:=aHo x;rw [Int.one_mul,aj (by omega) (by omega)]
theorem azG (A:Ask)(l:L5)(n:Nat)(e:Int):w64 (1*(g4 A l n e).1.1)=(g4 A l n e).1.1/\w64 (1*(g4 A l n e).1.2.1)=(g4 A l n e).1.2.1/\w64 (1*(g4 A l n e).1.2.2.1)=(g4 A l n e).1.2.2.1/\w64 (1*(g4 A l n e).1.2.2.2)=(g4 A l n e).1.2.2.2:=by
 have key:∀ a b c d e1,w64 (1*(rP A l a b c d e1).1.1)=(rP A l a b c d e1).1.1/\w64 (1*(rP A l a b c d e1).1.2.1)=(rP A l a b c d e1).1.2.1/\w64 (1*(rP A l a b c d e1).1.2.2.1)=(rP A l a b c d e1).1.2.2.1/\w64 (1*(rP A l a b c d e1).1.2.2.2)=(rP A l a b c d e1).1.2.2.2:=
  fun a b c d e1=>⟨apH rfl,apH rfl,apH rfl,apH rfl⟩
 unfold g4;rw [fx,cV];split
 ·split
  ·exact key _ _ _ _ _
  ·exact key _ _ _ _ _
 ·exact key _ _ _ _ _
theorem QH {A:Ask}(h:ckA A=0){i:Nat}{l:L5}(hl:A.ls[i]?=some l)(e:Int){k:DC4 α} :
  kL α e A.ix A.s1 A.s2 A.w1 A.w2 (A.ls.map rL) A.oi A.ol ((i+1:Nat):Int) true k=bnd (eA A l (i+1) 2 e) (dk k) /\
  kL α e A.ix A.s1 A.s2 A.w1 A.w2 (A.ls.map rL) A.oi A.ol ((i+1:Nat):Int) false k=bnd (eA A l (i+1) 1 e) (dk k):=by
 obtain⟨q1,q2,q3,q4⟩:=azG A l (i+1) e;constructor
 ·rw [kL,af,JJ,YF h hl,sD,cV,aP]
  dsimp only [KP];rw [nU,af,yo,ap,JX,af,RR];exact Zx
 ·rw [kL,af,JJ,YF h hl,sD,cV,aP,q1,q2,q3,q4]
  dsimp only [KP];rw [nU,af,yo,al];exact Zx
theorem PP (A:Ask)(l:L5)(n:Nat)(t:Int){e:Int}(h:e ≠ 0):eA A l n t e=(Bl0,e):=by
 have ht:(g4 A l n e).2=e:=by
  unfold g4;rw [rQ A n h,fx,cV,tE h];split
  ·rfl
  ·rfl
 rw [sD,cV,ht];exact if_neg h
abbrev aw9 (α:Type):=Int->Int->Int->Int->Int->Int->Int->Int->Int->Int->Int->Int->Int->Option α
def KMd (k:aw9 α)(u:Mt × Int):Option α:=
 k u.1.1.b.1 u.1.1.b.2.1 u.1.1.b.2.2 u.1.2.1.b.1 u.1.2.1.b.2.1 u.1.2.1.b.2.2 u.1.2.2.1.b.1 u.1.2.2.1.b.2.1 u.1.2.2.1.b.2.2 u.1.2.2.2.b.1 u.1.2.2.2.b.2.1 u.1.2.2.2.b.2.2 u.2
def Blh:Bl:=⟨(524288,0,0),by decide⟩
theorem abs:yZ 1 2=(Blh,0):=rfl
theorem alh (e:Int)(b:Bl){k:DC4 α}:eH α e 1048576 0 0 b.b.1 b.b.2.1 b.b.2.2 k=bnd (two fD e Bl1 b) (dk k):=u7 e Bl1 b
theorem agh (e:Int)(b:Bl){k:DC4 α}:mV α e 1048576 0 0 b.b.1 b.b.2.1 b.b.2.2 k=bnd (two jW e Bl1 b) (dk k):=IZ e Bl1 b
theorem axb (e:Int)(a:Bl){k:DC4 α}:cj α e a.b.1 a.b.2.1 a.b.2.2 524288 0 0 k=bnd (two bD e a Blh) (dk k):=my e a Blh
theorem Au {k:Option α}:mF α k=k:=by rw [mF,af,XC]
theorem at0 {k:Option α}:yE α k=k:=by rw [yE,af,Qq]
theorem aph (e:Int)(y g:Bl){k:aw9 α}:yl α e y.b.1 y.b.2.1 y.b.2.2 g.b.1 g.b.2.1 g.b.2.2 k=KMd k (ya e y g):=by
 unfold ya;simp only [yl,af,RY,Au,at0,alh,agh,axb,zY,my,aP,dk];by_cases h:e=0
 ·subst h
  have:u9 0 1 2=(Blh,0):=abs;rw [this];rfl
 ·rw [sY h]
  simp only [bR h];rfl
theorem atD (e:Int)(p m:Mt){k:aw9 α} :
  xg α e p.1.b.1 p.1.b.2.1 p.1.b.2.2 p.2.1.b.1 p.2.1.b.2.1 p.2.1.b.2.2 p.2.2.1.b.1 p.2.2.1.b.2.1 p.2.2.1.b.2.2 p.2.2.2.b.1 p.2.2.2.b.2.1 p.2.2.2.b.2.2
   m.1.b.1 m.1.b.2.1 m.1.b.2.2 m.2.1.b.1 m.2.1.b.2.1 m.2.1.b.2.2 m.2.2.1.b.1 m.2.2.1.b.2.1 m.2.2.1.b.2.2 m.2.2.2.b.1 m.2.2.2.b.2.1 m.2.2.2.b.2.2 k=KMd k (yQ e p m):=by
 unfold yQ;simp only [xg,af,VO,u7,my,aP,dk];rfl
abbrev ay0 (α:Type):=Int->Int->Int->Int->Int->Int->Int->Int->Int->Int->Int->Int->Int->Int->Int->Int->Option α
def KTd (k:ay0 α)(u:(Mt × Bl) × Int):Option α:=
 k u.1.1.1.b.1 u.1.1.1.b.2.1 u.1.1.1.b.2.2 u.1.1.2.1.b.1 u.1.1.2.1.b.2.1 u.1.1.2.1.b.2.2 u.1.1.2.2.1.b.1 u.1.1.2.2.1.b.2.1 u.1.1.2.2.1.b.2.2 u.1.1.2.2.2.b.1 u.1.1.2.2.2.b.2.1 u.1.1.2.2.2.b.2.2 u.1.2.b.1 u.1.2.b.2.1 u.1.2.b.2.2 u.2
theorem A0 {e:Int}(h:e ≠ 0)(y g:Bl):(ya e y g).2=e:=by
 unfold ya;simp only [sY h,aP,bR h]
theorem QQ {e:Int}(h:e ≠ 0)(p m:Mt):(yQ e p m).2=e:=by
 unfold yQ;simp only [aP,bR h]
theorem Ao (A:Ask)(fs:Bool)(ls:List L5)(n:Nat)(p:Mt)(a:Bl){e:Int}(h:e ≠ 0):zr A fs ls n p a e=((p,a),e):=by
 cases ls with
 | nil=>rfl
 | cons l ls=>exact if_neg h
def xE (A:Ask)(fs:Bool)(l:L5)(n:Nat)(p:Mt)(a:Bl)(e:Int):(Mt × Bl) × Int:=
 bnd (ck A n e) fun y e1=>bnd (eA A l n 2 e1) fun g e2=>
   if fs=true then
    bnd (eA A l n 1 e2) fun h e3=>bnd (two bD e3 a h) fun b e4=>nZ (ya e4 y g) fun m e5=>nZ (yQ e5 p m) fun q e6=>((q,b),e6)
   else nZ (ya e2 y g) fun m e3=>nZ (yQ e3 p m) fun q e4=>((q,a),e4)
theorem amo (A:Ask)(fs:Bool)(l:L5)(ls:List L5)(n:Nat)(p:Mt)(a:Bl):zr A fs (l::ls) n p a 0=zr A fs ls (n+1) (xE A fs l n p a 0).1.1 (xE A fs l n p a 0).1.2 (xE A fs l n p a 0).2:=by
 rw [Hw,if_pos rfl];unfold xE;simp only [aP,vR];cases fs
 ·rfl
 ·rfl
theorem apJ (A:Ask)(fs:Bool)(l:L5)(n:Nat)(p:Mt)(a:Bl){e:Int}(h:e ≠ 0):(xE A fs l n p a e).2=e:=by
 unfold xE;simp only [Ag A n h,PP A l n _ h,aP,vR,bR h];cases fs
 ·exact (QQ (by rw [A0 h];exact h) p _).trans (A0 h _ _)
 ·exact (QQ (by rw [A0 h];exact h) p _).trans (A0 h _ _)
theorem atT {A:Ask}(h:ckA A=0){fs:Bool}{K:ay0 α}{Z:Int->Option α}{k1:Int->Option α}
  {k2:Int->Bool->Int->Int->Int->Int->Int->Int->Int->Int->Int->Int->Int->Int->Int->Int->Int->Int->Option α}
  (hz:∀ m a e,e ≠ 0->KTd K ((m,a),e)=Z e) (h1:∀ e,k1 e=Z e)
  (h2:∀ x b e (m:Mt) (a:Bl),k2 x b e m.1.b.1 m.1.b.2.1 m.1.b.2.2 m.2.1.b.1 m.2.1.b.2.1 m.2.1.b.2.2 m.2.2.1.b.1 m.2.2.1.b.2.1 m.2.2.1.b.2.2 m.2.2.2.b.1 m.2.2.2.b.2.1 m.2.2.2.b.2.2 a.b.1 a.b.2.1 a.b.2.2=KTd K ((m,a),e)) :
  ∀ (rest:List L5) (i n:Nat) (m:Mt) (a:Bl) (e:Int),A.ls.drop i=rest->i<=A.ls.length->rest.length < n ->
  jC α fs A.ix A.s1 A.s2 A.pol A.w1 A.w2 (A.ls.map rL) A.oi A.ol k1 k2 n ((i+1:Nat):Int) e m.1.b.1 m.1.b.2.1 m.1.b.2.2 m.2.1.b.1 m.2.1.b.2.1 m.2.1.b.2.2 m.2.2.1.b.1 m.2.2.1.b.2.1 m.2.2.1.b.2.2 m.2.2.2.b.1 m.2.2.2.b.2.1 m.2.2.2.b.2.2 a.b.1 a.b.2.1 a.b.2.2=
   KTd K (zr A fs rest (i+1) m a e):=by
 obtain⟨_,_,_,_,h40,_⟩:=jA h;intro rest
 induction rest with
 | nil=>
  intro i n m a e hd hi hn;obtain⟨n,rfl⟩:∃ n',n=n'+1:=⟨n - 1,by simp only [List.length_nil] at hn;omega⟩
  have hl:A.ls.length<=i:=List.drop_eq_nil_iff.1 hd;simp only [jC,oN,List.length_map];rw [decide_eq_false (by omega),al,h2];rfl
 | cons l ls ih=>
  intro i n m a e hd hi hn;obtain⟨n,rfl⟩:∃ n',n=n'+1:=⟨n - 1,by omega⟩
  have hl:i < A.ls.length:=by
   by_cases h:i < A.ls.length
   ·exact h
   ·rw [List.drop_eq_nil_of_le (by omega)] at hd;cases hd
  have hg:A.ls[i]?=some l:=by
   have:=congrArg List.head? hd;rw [List.head?_drop] at this;exact this
  have hd':A.ls.drop (i+1)=ls:=by
   have:=congrArg List.tail hd;rw [List.tail_drop] at this;exact this
  have hw:w64 (((i+1:Nat):Int)+1)=((i+1+1:Nat):Int):=by rw [aj (by omega) (by omega)];omega
  have hi1:i+1 < 1000000:=by omega
  have hn':ls.length < n:=by simp only [List.length_cons] at hn;omega
  have ih':∀ (m:Mt) (a:Bl) (e:Int),_:=fun m a e=>ih (i+1) n m a e hd' (by omega) hn';have e1:∀ (e:Int) (k:DC4 α),kL α e A.ix A.s1 A.s2 A.w1 A.w2 (A.ls.map rL) A.oi A.ol ((i+1:Nat):Int) true k=bnd (eA A l (i+1) 2 e) (dk k):=fun e k=>(QH h hg e).1;have e2:∀ (e:Int) (k:DC4 α),kL α e A.ix A.s1 A.s2 A.w1 A.w2 (A.ls.map rL) A.oi A.ol ((i+1:Nat):Int) false k=bnd (eA A l (i+1) 1 e) (dk k):=fun e k=>(QH h hg e).2;have key:jC α fs A.ix A.s1 A.s2 A.pol A.w1 A.w2 (A.ls.map rL) A.oi A.ol k1 k2 (n+1) ((i+1:Nat):Int) e m.1.b.1 m.1.b.2.1 m.1.b.2.2 m.2.1.b.1 m.2.1.b.2.1 m.2.1.b.2.2 m.2.2.1.b.1 m.2.2.1.b.2.1 m.2.2.1.b.2.2 m.2.2.2.b.1 m.2.2.2.b.2.1 m.2.2.2.b.2.2 a.b.1 a.b.2.1 a.b.2.2=
    if (xE A fs l (i+1) m a e).2=0 then KTd K (zr A fs ls (i+1+1) (xE A fs l (i+1) m a e).1.1 (xE A fs l (i+1) m a e).1.2 (xE A fs l (i+1) m a e).2) else Z (xE A fs l (i+1) m a e).2:=by
   simp only [jC,oN,List.length_map];rw [decide_eq_true (by omega),ap];unfold xE;simp only [pu,af,G6,Ay h hi1,e1,e2,my,aph,atD,aP,vR,dk,KMd,hw,ih',h1,bo];cases fs
   ·rw [al];rfl
   ·rw [ap];rfl
  rw [key];by_cases c:e=0
  ·subst c
   rw [amo];by_cases c2:(xE A fs l (i+1) m a 0).2=0
   ·rw [if_pos c2]
   ·rw [if_neg c2,Ao A fs ls _ _ _ c2]
    exact (hz _ _ _ c2).symm
  ·rw [apJ A fs l _ m a c,if_neg c,Ao A fs (l::ls) _ m a c]
   exact (hz _ _ _ c).symm
theorem asu {A:Ask}(h:ckA A=0)(fs:Bool)(e:Int){k:ay0 α}(hz:∀ (m m':Mt) (a a':Bl) (e:Int),e ≠ 0->KTd k ((m,a),e)=KTd k ((m',a'),e)) :
  EI α e A.ix A.s1 A.s2 A.pol A.w1 A.w2 (A.ls.map rL) A.oi A.ol fs k=KTd k (fL A fs e):=by
 have hf:A.ls.length < aE:=by
  obtain⟨_,_,_,_,h40,_⟩:=jA h;have:=bz;omega
 rw [EI,af,SF,Au,Au,Au,uc,af,Hq];exact atT h (K:=k) (Z:=fun e=>KTd k (((Bl0,Bl0,Bl0,Bl0),Bl0),e)) (fun m a e he=>hz m _ a _ e he) (fun _=>rfl) (fun _ _ _ _ _=>rfl) A.ls 0 aE (Bl1,Bl0,Bl0,Bl1) Bl1 e rfl (Nat.zero_le _) hf
def PF (A:Ask)(tr:Bool)(f:Bl)(p:Mt)(g:Bl)(e2:Int):Bl × Int:=
 bnd (ck A (A.ls.length+1) e2) fun l e3=>
 bnd (two bD e3 p.2.1 l) fun t1 e4=>bnd (two fD e4 p.1 t1) fun b e5=>bnd (two bD e5 p.2.2.2 l) fun t2 e6=>bnd (two fD e6 p.2.2.1 t2) fun c e7=>
 bnd (two bD e7 f b) fun a e8=>bnd (two fD e8 a c) fun d e9=>
 if tr=true then bnd (two fD e9 f f) fun s e10=>bnd (two bD e10 s g) fun z e11=>bnd (two wO e11 z d) fun v e12=>(v,e12)
 else bnd (two jW e9 a c) fun z e10=>bnd (two wO e10 z d) fun v e11=>(v,e11)
theorem PB (A:Ask)(tr:Bool)(e:Int):eK A tr e=PF A tr (ck A 0 e).1 (fL A tr (ck A 0 e).2).1.1 (fL A tr (ck A 0 e).2).1.2 (fL A tr (ck A 0 e).2).2:=by
 unfold eK PF;simp only [aP,RL]
theorem NB (A:Ask)(tr:Bool)(f:Bl)(p:Mt)(g:Bl){e2:Int}(h:(ck A (A.ls.length+1) e2).2 ≠ 0):PF A tr f p g e2=(Bl0,(ck A (A.ls.length+1) e2).2):=by
 unfold PF;simp only [aP,bR h,ite_self]
theorem o9 (A:Ask)(tr:Bool)(f:Bl)(p:Mt)(g:Bl){e2:Int}(h:e2 ≠ 0):PF A tr f p g e2=(Bl0,e2):=by
 have e:=Ag A (A.ls.length+1) h;rw [NB A tr f p g (by rw [e];exact h),e]
theorem BM {A:Ask}(h:ckA A=0)(tr:Bool)(f:Bl)(p:Mt)(g:Bl)(e2:Int){k:DC4 α} :
  jN α e2 A.ix A.s1 A.s2 A.pol (A.ls.map rL) A.oi A.ol (w64 ((((A.ls.map rL).length:Nat):Int)+1))
    (fun (x32:Int) (x33:Int) (x34:Int) (x35:Int)=>cj α x35 p.2.1.b.1 p.2.1.b.2.1 p.2.1.b.2.2 x32 x33 x34
     (fun (x36:Int) (x37:Int) (x38:Int) (x39:Int)=>eH α x39 p.1.b.1 p.1.b.2.1 p.1.b.2.2 x36 x37 x38
      (fun (x40:Int) (x41:Int) (x42:Int) (x43:Int)=>cj α x43 p.2.2.2.b.1 p.2.2.2.b.2.1 p.2.2.2.b.2.2 x32 x33 x34
       (fun (x44:Int) (x45:Int) (x46:Int) (x47:Int)=>eH α x47 p.2.2.1.b.1 p.2.2.1.b.2.1 p.2.2.1.b.2.2 x44 x45 x46
        (fun (x48:Int) (x49:Int) (x50:Int) (x51:Int)=>cj α x51 f.b.1 f.b.2.1 f.b.2.2 x40 x41 x42
         (fun (x52:Int) (x53:Int) (x54:Int) (x55:Int)=>eH α x55 x52 x53 x54 x48 x49 x50
          (fun (x56:Int) (x57:Int) (x58:Int) (x59:Int)=>cK tr
           (eH α x59 f.b.1 f.b.2.1 f.b.2.2 f.b.1 f.b.2.1 f.b.2.2
            (fun (x60:Int) (x61:Int) (x62:Int) (x63:Int)=>cj α x63 x60 x61 x62 g.b.1 g.b.2.1 g.b.2.2
             (fun (x64:Int) (x65:Int) (x66:Int) (x67:Int)=>kO α x67 x64 x65 x66 x56 x57 x58
              (fun (x68:Int) (x69:Int) (x70:Int) (x71:Int)=>k x68 x69 x70 x71))))
           (mV α x59 x52 x53 x54 x48 x49 x50
            (fun (x72:Int) (x73:Int) (x74:Int) (x75:Int)=>kO α x75 x72 x73 x74 x56 x57 x58
             (fun (x76:Int) (x77:Int) (x78:Int) (x79:Int)=>k x76 x77 x78 x79))))))))))=DK k (PF A tr f p g e2):=by
 obtain⟨_,_,_,_,h40,_⟩:=jA h;have hw:w64 ((((A.ls.map rL).length:Nat):Int)+1)=((A.ls.length+1:Nat):Int):=by rw [List.length_map,aj (by omega) (by omega)];omega
 unfold PF;simp only [hw,Ay h (n:=A.ls.length+1) (by omega),my,u7,IZ,zY,aP,dk];cases tr
 ·rw [al];rfl
 ·rw [ap];rfl
theorem Ng {A:Ask}(h:ckA A=0)(e:Int){k:DC4 α}:jN α e A.ix A.s1 A.s2 A.pol (A.ls.map rL) A.oi A.ol 0 k=bnd (ck A 0 e) (dk k):=Ay h (n:=0) (by decide) e
theorem K7 {A:Ask}(h:ckA A=0)(tr:Bool)(e:Int){k:DC4 α} :
  xG α e A.ix A.s1 A.s2 A.pol A.w1 A.w2 (A.ls.map rL) A.oi A.ol tr k=DK k (eK A tr e):=by
 rw [xG,af,Th];refine (Ng h e).trans ?_;rw [aP,PB];dsimp only [dk];generalize ck A 0 e=u;refine (asu h tr u.2 ?_).trans ?_
 ·intro m m' a a' e he
  refine (BM h tr u.1 m a e).trans (Eq.trans ?_ (BM h tr u.1 m' a' e).symm);rw [o9 A tr u.1 m a he,o9 A tr u.1 m' a' he]
 ·exact BM h tr u.1 _ _ _
def lsB (l:L5):Bool:=l.2.2.2.2 != 0
theorem aqw {A:Ask}:∀ (rest:List L5) (i:Nat),A.ls.drop i=rest->i<=A.ls.length->lsy A (rest.length+1) (i+1)=(rest.any lsB || A.ol != 0):=by
 intro rest
 induction rest with
 | nil=>
  intro i hd hi;have hl:A.ls.length<=i:=List.drop_eq_nil_iff.1 hd;show (if (eO A (i+1)).2.2=0 then lsy A 0 (i+1+1) else true)=_;rw [qE (List.getElem?_eq_none_iff.2 hl)];by_cases c:A.ol=0
  ·rw [if_pos c,c];rfl
  ·rw [if_neg c,bne_iff_ne.2 c];rfl
 | cons l ls ih=>
  intro i hd hi;obtain⟨hg,hd'⟩:=bT hd;have hl:=(List.getElem?_eq_some_iff.1 hg).1;show (if (eO A (i+1)).2.2=0 then lsy A (ls.length+1) (i+1+1) else true)=_;rw [lK hg,ih (i+1) hd' (by omega),List.any_cons,Bool.or_assoc];unfold lsB;by_cases c:l.2.2.2.2=0
  ·rw [if_pos c,c];rfl
  ·rw [if_neg c,bne_iff_ne.2 c];rfl
theorem acr (A:Ask):Nc A=(A.ls.any lsB || A.ol != 0):=aqw A.ls 0 rfl (Nat.zero_le _)
theorem apQ {ls:List L5}(hA:ls.length<=40){k1:Bool->Int->Bool->Option α}{Y:Bool->Option α}(h1:∀ b x z,k1 b x z=Y b) :
  ∀ (rest:List L5) (i n:Nat) (b:Bool),ls.drop i=rest->i<=ls.length->rest.length < n->mg α (ls.map rL) k1 n b (i:Int)=Y (b || rest.any lsB):=by
 intro rest
 induction rest with
 | nil=>
  intro i n b hd hi hn;obtain⟨n,rfl⟩:∃ n',n=n'+1:=⟨n - 1,by simp only [List.length_nil] at hn;omega⟩
  have hl:ls.length<=i:=List.drop_eq_nil_iff.1 hd;rw [mg];simp only [pK,List.length_map];rw [decide_eq_false (by omega),al,h1,List.any_nil,Bool.or_false]
 | cons l rs ih=>
  intro i n b hd hi hn;obtain⟨n,rfl⟩:∃ n',n=n'+1:=⟨n - 1,by omega⟩
  obtain⟨hg,hd'⟩:=bT hd;have hl:=(List.getElem?_eq_some_iff.1 hg).1;have hw:w64 ((i:Int)+1)=((i+1:Nat):Int):=by rw [aj (by omega) (by omega)];omega
  have hn':rs.length < n:=by simp only [List.length_cons] at hn;omega
  rw [mg];simp only [pK,List.length_map];rw [decide_eq_true (by omega),ap,PH hg,hw,ih (i+1) n true hd' (by omega) hn',ih (i+1) n _ hd' (by omega) hn',List.any_cons];cases b
  ·rw [al,Bool.false_or];rfl
  ·rw [ap,Bool.true_or,Bool.true_or]
theorem Xd (A:Ask)(hA:A.ls.length<=40){k:Bool->Option α}:pb α (A.ls.map rL) A.ol k=k (Nc A):=by
 have hf:A.ls.length < aE:=by have:=bz;omega
 rw [pb,af,Rh,vp,af,Fg,acr,Bool.or_comm];exact apQ hA (Y:=k) (fun _ _ _=>rfl) A.ls 0 aE _ rfl (Nat.zero_le _) hf
theorem TF {x y:Int}{k:Int->Int->Option α}:xB α x y k=k (iy x) (iy y):=by
 have e:∀ x:Int,(if x < 1048576 then x else 1048576)=iy x:=fun x=>by unfold iy;split <;> split <;> omega
 rw [xB,af,WA,e,e]
theorem WF {a b c d:Int}{k:Int->Int->Option α}:oq α a b c d k=k (Nu b d) (Nu a c):=by rw [oq,af,VJ];rfl
theorem PE {A:Ask}{n:Nat}(h:(ck A n 0).2=0):(bK A n 0).2.2=0:=by
 refine Classical.byContradiction fun c=>?_;unfold ck at h;rw [fx] at h;simp only [je A n c,aP,bR c,ite_self] at h;by_cases cp:A.pol=0
 ·rw [if_pos cp] at h;exact c h
 ·rw [if_neg cp] at h;exact c h
theorem aF8 (A:Ask)(hA:A.ls.length<=40){st:Bool}{a b c d:Int}{k:Int->Int->Int->Int->Int->Int->Int->Option α} :
  be α st (pb α (A.ls.map rL) A.ol fun x=>cK x (oq α a b 0 0 fun x82 x83=>k a b 0 0 x82 x83 0) (k a b 0 0 0 0 0))
   (pb α (A.ls.map rL) A.ol fun x=>cK x (oq α a b c d fun x85 x86=>k a b c d x85 x86 0) (k a b c d 0 0 0))=KS k (CR A st a b c d):=by
 rw [be,af,fu,Xd A hA,Xd A hA,WF,WF,oA,oA,oA];unfold CR;simp only [apply_ite (KS k),aEL]
theorem aq8 {A:Ask}(h:ckA A=0){k:Int->Int->Int->Int->Int->Int->Int->Option α} :
  ∃ e:Int,e ≠ 0/\EV α A.ix A.s1 A.s2 A.pol A.w1 A.w2 (A.ls.map rL) A.oi A.ol k=if (gL A).2=0 then KS k (gL A) else KS k (z6,e):=by
 obtain⟨_,_,_,_,h40,_⟩:=jA h;have hw:w64 ((((A.ls.map rL).length:Nat):Int)+1)=((A.ls.length+1:Nat):Int):=by rw [List.length_map,aj (by omega) (by omega)];omega
 have hl:A.ls.length+1 < 1000000:=by omega
 have hs:gL A=bnd (eK A false 0) fun r e1=>bnd (eK A true e1) fun t e2=>bnd (ck A (A.ls.length+1) e2) fun l e3=>
  iQ (jY e3 l) fun ul uh _ _ e4=>bnd (ck A 0 e4) fun f e5=>iQ (jY e5 f) fun fl fh _ _ e6=>
  zA (bK A (A.ls.length+1) e6) fun _ st e7=>
  if e7=0 then
   if fl<=0 then (z6,9) else
   kR (nD r) fun bl bh e8=>if e8=0 then
    kR (nD t) fun tl th e9=>if e9=0 then
     CR A st (iy bl) (iy bh) (iy (dnI (w64 (pos ul*tl)) fh)) (iy (upI (w64 (pos uh*th)) fl))
    else (z6,e9)
   else (z6,e8)
  else (z6,e7):=by unfold gL;rw [if_pos h]
 have amp0:∀ (tr:Bool) {e:Int},e ≠ 0->eK A tr e=(Bl0,e):=fun tr e he=>by
  rw [PB,Ag A 0 he];unfold fL;rw [Ao A tr A.ls 1 _ _ he];exact o9 A tr _ _ _ he
 have amp_adm:∀ tr:Bool,(eK A tr 0).2=0->(ck A 0 0).2=0/\(ck A (A.ls.length+1) 0).2=0:=fun tr he=>by
  rw [PB] at he;by_cases c:(ck A 0 0).2=0
  ·refine⟨c,?_⟩
   rw [c] at he;by_cases c2:(fL A tr 0).2=0
   ·rw [c2] at he
    refine Classical.byContradiction fun q=>?_;rw [NB A tr _ _ _ q] at he;exact q he
   ·rw [o9 A tr _ _ _ c2] at he
    exact absurd he c2
  ·unfold fL at he
   rw [Ao A tr A.ls 1 _ _ c,o9 A tr _ _ _ c] at he;exact absurd he c
 have zero7:∀ {e:Int},e ≠ 0->(bnd (ck A (A.ls.length+1) e) fun l e3=>
  iQ (jY e3 l) fun ul uh _ _ e4=>bnd (ck A 0 e4) fun f e5=>iQ (jY e5 f) fun fl fh _ _ e6=>
  zA (bK A (A.ls.length+1) e6) fun _ st e7=>
  if e7=0 then
   if fl<=0 then (z6,(9:Int)) else
   kR (nD (eK A false 0).1) fun bl bh e8=>if e8=0 then
    kR (nD (eK A true (eK A false 0).2).1) fun tl th e9=>if e9=0 then
     CR A st (iy bl) (iy bh) (iy (dnI (w64 (pos ul*tl)) fh)) (iy (upI (w64 (pos uh*th)) fl))
    else (z6,e9)
   else (z6,e8)
  else (z6,e7))=(z6,e):=fun he=>by
  simp only [Ag A _ he,aP,cV,tE he,rQ A _ he,fx,if_neg he]
 rw [hs,aP,aP];rw [EV,af,Ry,ID,af,Vd,K7 h];by_cases c1:(eK A false 0).2=0
 ·rw [c1] at zero7 ⊢
  by_cases c2:(eK A true 0).2=0
  ·obtain⟨a1,a2⟩:=amp_adm false c1
   have a3:=PE a2;have hv:(bnd (ck A (A.ls.length+1) (eK A true 0).2) fun l e3=>
    iQ (jY e3 l) fun ul uh _ _ e4=>bnd (ck A 0 e4) fun f e5=>iQ (jY e5 f) fun fl fh _ _ e6=>
    zA (bK A (A.ls.length+1) e6) fun _ st e7=>
    if e7=0 then
     if fl<=0 then (z6,(9:Int)) else
     kR (nD (eK A false 0).1) fun bl bh e8=>if e8=0 then
      kR (nD (eK A true 0).1) fun tl th e9=>if e9=0 then
       CR A st (iy bl) (iy bh) (iy (dnI (w64 (pos ul*tl)) fh)) (iy (upI (w64 (pos uh*th)) fl))
      else (z6,e9)
     else (z6,e8)
    else (z6,e7))=if (ck A 0 0).1.lo1<=0 then (z6,9) else CR A (bK A (A.ls.length+1) 0).2.1 (iy (eK A false 0).1.eLo) (iy (eK A false 0).1.eHi)
     (iy (dnI (w64 (pos (ck A (A.ls.length+1) 0).1.lo1*(eK A true 0).1.eLo)) (ck A 0 0).1.hi1)) (iy (upI (w64 (pos (ck A (A.ls.length+1) 0).1.hi1*(eK A true 0).1.eHi)) (ck A 0 0).1.lo1)):=by
    rw [c2,aP,a2,cV];unfold jY;rw [if_pos rfl];dsimp only;rw [aP,a1,if_pos rfl,cV];dsimp only;rw [fx,a3,if_pos rfl];unfold nD;simp only [kt,if_true]
   rw [hv];refine⟨9,by decide,?_⟩;dsimp only [DK];rw [c1,bo,if_pos rfl,Be,af,Jn];refine (K7 h true 0).trans ?_;dsimp only [DK];rw [c2,bo,if_pos rfl,hw];refine (Ng h 0).trans ?_;rw [aP,a1];dsimp only [dk];refine (Ay h hl 0).trans ?_;rw [aP,a2];dsimp only [dk];refine (acJ h hl 0).trans ?_;rw [zL,zL,JI,aK];have g:=(ck A 0 0).1.bd;have b1:=aw4 (eK A true 0).1;have b2:=(ck A (A.ls.length+1) 0).1.bd;have p1:(ck A (A.ls.length+1) 0).1.lo1<=134217728:=by unfold Bl.lo1;omega
   have p2:(ck A (A.ls.length+1) 0).1.hi1<=134217728:=by unfold Bl.hi1;omega
   have q1:=Pm p1;have q2:=Pm p2;by_cases c3:(ck A 0 0).1.lo1<=0
   ·rw [if_pos c3,if_pos c3,if_neg (show ¬ (9:Int)=0 by decide)];rfl
   ·rw [if_neg c3,if_neg c3,Wh,Wh,TF]
    have hh:0 < (ck A 0 0).1.hi1/\(ck A 0 0).1.hi1<=134217728/\(ck A 0 0).1.lo1<=134217728:=by
     unfold Bl.lo1 at *;unfold Bl.hi1;omega
    have r1:=ld q1.1 q1.2 b1.1.1 b1.1.2;have r2:=ld q2.1 q2.2 b1.2.1 b1.2.2;have s1:w64 (pos (ck A (A.ls.length+1) 0).1.lo1*(eK A true 0).1.eLo)=pos (ck A (A.ls.length+1) 0).1.lo1*(eK A true 0).1.eLo:=aj (by have:(0:Int)<=pos (ck A (A.ls.length+1) 0).1.lo1*(nD (eK A true 0).1).1:=r1.1;exact Int.le_trans (by decide) this) (by have:pos (ck A (A.ls.length+1) 0).1.lo1*(nD (eK A true 0).1).1<=134217728*8589934592:=r1.2;exact Int.le_trans this (by decide));have s2:w64 (pos (ck A (A.ls.length+1) 0).1.hi1*(eK A true 0).1.eHi)=pos (ck A (A.ls.length+1) 0).1.hi1*(eK A true 0).1.eHi:=aj (by have:(0:Int)<=pos (ck A (A.ls.length+1) 0).1.hi1*(nD (eK A true 0).1).2.1:=r2.1;exact Int.le_trans (by decide) this) (by have:pos (ck A (A.ls.length+1) 0).1.hi1*(nD (eK A true 0).1).2.1<=134217728*34359738368:=r2.2;exact Int.le_trans this (by decide));have t1:0<=pos (ck A (A.ls.length+1) 0).1.lo1*(eK A true 0).1.eLo:=r1.1;have t2:0<=pos (ck A (A.ls.length+1) 0).1.hi1*(eK A true 0).1.eHi:=r2.1;have t3:pos (ck A (A.ls.length+1) 0).1.hi1*(eK A true 0).1.eHi<=4611686018427387904:=Int.le_trans r2.2 (by decide);rw [s1,s2,Mb.f91_raw (by omega),Mb.f69_raw (by omega),B0 t1 hh.1,xv t2 t3 (by omega) (by omega),TF];refine (aF8 A h40).trans ?_;have f0:∀ (st:Bool) (a b c d:Int),(CR A st a b c d).2=0:=fun st a b c d=>by
     unfold CR;split
     ·split <;> rfl
     ·split <;> rfl
    rw [if_pos (f0 _ _ _ _ _)]
  ·rw [zero7 c2]
   refine⟨(eK A true 0).2,c2,?_⟩;dsimp only [DK];rw [c1,bo,if_pos rfl,Be,af,Jn];refine (K7 h true 0).trans ?_;dsimp only [DK];rw [bo,if_neg c2,if_neg c2];rfl
 ·rw [amp0 true c1]
  dsimp only;rw [amp0 true c1] at zero7;rw [zero7 c1];refine⟨(eK A false 0).2,c1,?_⟩;dsimp only [DK];rw [bo,if_neg c1,if_neg c1];rfl
theorem aLg {s a b c d e f:Int}(hs:0<=s/\s<=2){k:Int->Int->Option α} :
  ixK [[DC.v (.int .i64 a),DC.v (.int .i64 b)],[DC.v (.int .i64 c),DC.v (.int .i64 d)],[DC.v (.int .i64 e),DC.v (.int .i64 f)]] s 2
    (ldK [[DC.v (.int .i64 a),DC.v (.int .i64 b)],[DC.v (.int .i64 c),DC.v (.int .i64 d)],[DC.v (.int .i64 e),DC.v (.int .i64 f)]] (Int.toNat s) 0 [.int .i64,.int .i64] k)=
   k (aur s (a,b,c,d,e,f)).1 (aur s (a,b,c,d,e,f)).2:=by
 have:s=0\/s=1\/s=2:=by omega
 rcases this with rfl | rfl | rfl
 ·rfl
 ·rfl
 ·rfl
theorem asK {d:Dm}(hs:0<=d.sh/\d.sh<=2){ls:List L5}{oi ol:Int}(h:ckA (j0 d ls oi ol)=0){k:Int->Int->Int->Option α} :
  ∃ e:Int,e ≠ 0/\CZ α (ls.map rL) oi ol d.sh d.pol d.ix d.w1 d.w2 d.s1 d.s2 k=if (rH d ls oi ol).2=0 then k (rH d ls oi ol).1.1 (rH d ls oi ol).1.2 0 else k 0 0 e:=by
 rw [CZ,af,Yw];obtain⟨e,he,hk⟩:=aq8 (α:=α) h (k:=fun (x18:Int) (x19:Int) (x20:Int) (x21:Int) (x22:Int) (x23:Int) (x24:Int)=>cK (x24 != 0)
   (k 0 0 x24)
   (ixK [[DC.v (.int .i64 x18),DC.v (.int .i64 x19)],[DC.v (.int .i64 x20),DC.v (.int .i64 x21)],[DC.v (.int .i64 x22),DC.v (.int .i64 x23)]] d.sh 2
    (ldK [[DC.v (.int .i64 x18),DC.v (.int .i64 x19)],[DC.v (.int .i64 x20),DC.v (.int .i64 x21)],[DC.v (.int .i64 x22),DC.v (.int .i64 x23)]] (Int.toNat d.sh) 0 [.int .i64,.int .i64]
     (fun (x25:Int) (x26:Int)=>k x25 x26 0))))
 refine⟨e,he,hk.trans ?_⟩;clear hk;unfold KS rH;dsimp only;by_cases c:(gL (j0 d ls oi ol)).2=0
 ·rw [if_pos c,if_pos c,if_pos rfl,bo,if_pos c,aLg hs]
 ·rw [if_neg c,if_neg c,if_neg c,bo,if_neg he]
theorem auk {a b c d:Int}{k1:Option α}{k2:Bool->Option α}{Y:Option α}(h2:∀ b,k2 b=Y):ml α a b c d k1 k2=if w64 (a*1048576)<=w64 (c*10000)/\w64 (d*10000)<=w64 (b*1048576) then k1 else Y:=by
 rw [ml,af,GH,aK,aK];by_cases c1:w64 (a*1048576)<=w64 (c*10000)
 ·rw [if_pos c1]
  by_cases c2:w64 (d*10000)<=w64 (b*1048576)
  ·rw [if_pos c2,if_pos ⟨c1,c2⟩]
  ·rw [if_neg c2,if_neg (fun h=>c2 h.2),h2]
 ·rw [if_neg c1,if_neg (fun h=>c1 h.1),h2]
theorem RI {d:Dm}(hs:0<=d.sh/\d.sh<=2){ls:List L5}{oi ol:Int}(h:ckA (j0 d ls oi ol)=0){k:Int->Option α} :
  gG α (ls.map rL) oi ol d.sh d.pol d.ix d.lo d.hi d.w1 d.w2 d.s1 d.s2 k=k (gy d ls oi ol):=by
 rw [gG,af,Vx];obtain⟨e,he,hk⟩:=asK (α:=α) hs h (k:=fun (x18:Int) (x19:Int) (x20:Int)=>cK (x20 != 0)
   (k 1)
   (ml α d.lo d.hi x18 x19
    (k 2)
    (fun (x34:Bool)=>cK (decide ((w64 (x19*10000)) < (w64 (d.lo*1048576))))
     (k 0)
     (cK (decide ((w64 (d.hi*1048576)) < (w64 (x18*10000))))
      (k 0)
      (k 1)))))
 refine hk.trans ?_;clear hk;unfold gy;generalize rH d ls oi ol=u;by_cases c:u.2=0
 ·rw [if_pos c,if_pos c,bo,if_pos rfl,auk (fun _=>rfl),aK,aK]
  split
  ·rfl
  ·split
   ·rfl
   ·split <;> rfl
 ·rw [if_neg c,if_neg c,bo,if_neg he]
end Go.AM.K
