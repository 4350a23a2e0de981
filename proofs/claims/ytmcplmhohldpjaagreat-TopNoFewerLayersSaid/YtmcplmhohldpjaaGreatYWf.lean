/- Stacks: indices, admittances, turns and factors. -/
import Derived.Test.YtmcplmhohldpjaaGreatYWe
namespace Go.AM.K
set_option linter.unusedVariables false
set_option linter.unusedSimpArgs false
variable {α:Type}
abbrev L5:=Int × Int × Int × Int × Int
abbrev rL (l:L5):List DC:=[.v (.int .i64 l.1),.v (.int .i64 l.2.1),.v (.int .i64 l.2.2.1),.v (.int .i64 l.2.2.2.1),.v (.int .i64 l.2.2.2.2)]
structure Ask where
 ix:Int
 s1:Int
 s2:Int
 pol:Int
 w1:Int
 w2:Int
 ls:List L5
 oi:Int
 ol:Int
theorem ag4 {ls:List L5}{i:Nat}{l:L5}(h:ls[i]?=some l)(hi:i < 1000000){f:Int->Int->Int->Int->Int->Option α} :
  gI (ls.map rL) (w64 (((i+1:Nat):Int) - 1)) [.int .i64,.int .i64,.int .i64,.int .i64,.int .i64] f=f l.1 l.2.1 l.2.2.1 l.2.2.2.1 l.2.2.2.2:=by
 rw [show w64 (((i+1:Nat):Int) - 1)=(i:Int) by rw [ak (by omega) (by omega)];omega]
 refine (sw (r:=rL l) ?_).trans rfl
 rw [List.getElem?_map,h];rfl
theorem Z9 {ls:List L5}{i:Nat}{l:L5}(h:ls[i]?=some l){f:Int->Int->Int->Int->Int->Option α} :
  gI (ls.map rL) (i:Int) [.int .i64,.int .i64,.int .i64,.int .i64,.int .i64] f=f l.1 l.2.1 l.2.2.1 l.2.2.2.1 l.2.2.2.2:=by
 refine (sw (r:=rL l) ?_).trans rfl
 rw [List.getElem?_map,h];rfl
def iG (A:Ask)(n:Nat):Int × Int × Int:=match n with
 | 0=>(A.ix,A.ix,0)
 | n+1=>match A.ls[n]? with
  | some l=>(l.1,l.2.1,l.2.2.2.2)
  | none=>(A.oi,A.oi,A.ol)
theorem uW {A:Ask}{n:Nat}{l:L5}(h:A.ls[n]?=some l):iG A (n+1)=(l.1,l.2.1,l.2.2.2.2):=by
 show (match A.ls[n]? with
  | some l=>(l.1,l.2.1,l.2.2.2.2)
  | none=>(A.oi,A.oi,A.ol))=_
 rw [h]
theorem Dt {A:Ask}{n:Nat}(h:A.ls[n]?=none):iG A (n+1)=(A.oi,A.oi,A.ol):=by
 show (match A.ls[n]? with
  | some l=>(l.1,l.2.1,l.2.2.2.2)
  | none=>(A.oi,A.oi,A.ol))=_
 rw [h]
theorem JF (A:Ask){n:Nat}(hn:n < 1000000){k:Int->Int->Int->Option α} :
  A6 α A.ix (A.ls.map rL) A.oi A.ol (n:Int) k=k (iG A n).1 (iG A n).2.1 (iG A n).2.2:=by
 simp only [A6,af,Vz,nq,bi,List.length_map]
 cases n with
 | zero=>rw [if_pos (show ((0:Nat):Int)=0 from rfl)];rfl
 | succ n=>
  rw [if_neg (by omega)]
  cases h:A.ls[n]? with
  | some l=>
   have hl:n < A.ls.length:=(List.getElem?_eq_some_iff.1 h).1
   rw [if_pos (by omega),ag4 h (by omega),uW h]
  | none=>
   have hl:A.ls.length<=n:=List.getElem?_eq_none_iff.1 h
   rw [if_neg (by omega),Dt h]
def jv (A:Ask)(n:Nat)(e:Int):Bl × Int:=
 bnd (jg e (dnI (w64 ((iG A n).1*1048576)) 10000) (upI (w64 ((iG A n).2.1*1048576)) 10000)) fun u e1=>
 if (iG A n).2.2=0 then (u,e1) else
 bnd (wc e1 (iG A n).2.2 10000) fun f e2=>
 if e2=0 then bnd (z8 f) fun t e3=>bnd (two dY e3 u t) fun v e4=>(v,e4)
 else bnd (two dY e2 u f) fun v e4=>(v,e4)
theorem Yq (A:Ask){n:Nat}(hn:n < 1000000)(e:Int){k:Nat->Nat->Int->Int->Option α} :
  BV α e A.ix (A.ls.map rL) A.oi A.ol (n:Int) k=bnd (jv A n e) fun u e=>k u.n1 u.n2 u.r e:=by
 rw [aL]
 show _=KB k (jv A n e)
 unfold jv
 simp only [BV,af,XG,xJ,af,Ik,JF A hn,xi (d:=10000) (by decide),wU (d:=10000) (by decide),J6,MV,ac6,fE,af,kh,Eh,nq,gu (KB k),apply_ite (KB k),abK]
def dq (A:Ask)(n:Nat)(e:Int):Bl × Bool × Int:=
 bnd (jv A n e) fun u e1=>
 bnd (jg e1 (dnI (w64 ((w64 (A.ix*A.s1))*1048576)) 100000000) (upI (w64 ((w64 (A.ix*A.s2))*1048576)) 100000000)) fun b e2=>
 bnd (two be e2 u u) fun v e3=>bnd (two be e3 b b) fun c e4=>bnd (two gG e4 v c) fun d e5=>
 if (iG A n).2.2=0 then
  pG (fJ e5 d) fun lo hi _ _ e6=>if e6=0 then bnd (mn lo hi) fun q e7=>(q,decide (lo < 0),e7) else (Bl0,false,e6)
 else if e5=0 then bnd (qQ d) fun q e6=>(q,false,e6) else (Bl0,false,e5)
theorem JG (A:Ask){n:Nat}(hn:n < 1000000)(e:Int){k:Nat->Nat->Int->Bool->Int->Option α} :
  yn α e A.ix A.s1 A.s2 (A.ls.map rL) A.oi A.ol (n:Int) k=EI (dq A n e) fun u s e=>k u.n1 u.n2 u.r s e:=by
 rw [iF]
 show _=KN k (dq A n e)
 unfold dq
 simp only [yn,af,UA,Yq A hn,JF A hn,xi (d:=100000000) (by decide),wU (d:=100000000) (by decide),J6,nj,JY,Jv,alX,aj1,fE,af,kh,eE,gu (KN k),oy (KN k),apply_ite (KN k),at1,yY,AQ,Gk]
def kx (A:Ask)(n:Nat)(e:Int):Bl × Int:=
 EI (dq A n e) fun q _ e1=>if A.pol=0 then (q,e1) else
 bnd (jv A n e1) fun u e2=>bnd (two be e2 u u) fun v e3=>bnd (two mG e3 v q) fun w e4=>(w,e4)
theorem Bd (A:Ask){n:Nat}(hn:n < 1000000)(e:Int){k:Nat->Nat->Int->Int->Option α} :
  mH α e A.ix A.s1 A.s2 A.pol (A.ls.map rL) A.oi A.ol (n:Int) k=bnd (kx A n e) fun u e=>k u.n1 u.n2 u.r e:=by
 rw [aL]
 show _=KB k (kx A n e)
 unfold kx
 simp only [mH,af,SE,JG A hn,Yq A hn,nj,IR,nq,gu (KB k),vc (KB k),apply_ite (KB k),abK]
def FO (A:Ask)(l:L5)(a b c d e:Int):Q4 × Int:=
 ((dnI (w64 ((w64 (4*pos a))*l.2.2.1)) A.w2,upI (w64 ((w64 (4*pos b))*l.2.2.2.1)) A.w1,dnI (w64 ((w64 (4*pos c))*l.2.2.1)) A.w2,upI (w64 ((w64 (4*pos d))*l.2.2.2.1)) A.w1),e)
def m8 (A:Ask)(l:L5)(n:Nat)(e:Int):Q4 × Int:=
 EI (dq A n e) fun q s e1=>pG (fJ e1 q) fun a b c d e2=>
 if l.2.2.2.2=0 then (if s=true then FO A l 0 0 c d e2 else FO A l a b 0 0 e2) else FO A l a b c d e2
theorem at5 {A:Ask}{l:L5}{a b c d e:Int}{k:Int->Int->Int->Int->Int->Option α}:KP k (FO A l a b c d e)=
  k (dnI (w64 ((w64 (4*pos a))*l.2.2.1)) A.w2) (upI (w64 ((w64 (4*pos b))*l.2.2.2.1)) A.w1) (dnI (w64 ((w64 (4*pos c))*l.2.2.1)) A.w2) (upI (w64 ((w64 (4*pos d))*l.2.2.2.1)) A.w1) e:=by
 simp only [KP,FO]
theorem afu (A:Ask){i:Nat}{l:L5}(h:A.ls[i]?=some l)(hi:i < 100000)(h1:A.w1 ≠ 0)(h2:A.w2 ≠ 0)(e:Int){k:Int->Int->Int->Int->Int->Option α} :
  zK α e A.ix A.s1 A.s2 A.w1 A.w2 (A.ls.map rL) A.oi A.ol ((i+1:Nat):Int) k=pG (m8 A l (i+1) e) k:=by
 rw [eB]
 show _=KP k (m8 A l (i+1) e)
 unfold m8
 simp only [zK,af,KJ,si,af,Cc,JG A (n:=i+1) (by omega),Jv,ag4 h (by omega),xi h2,wU h1,aaL,eE,vc (KP k),oy (KP k),apply_ite (KP k),at5]
 simp only [Vy]
def fS (A:Ask)(l:L5)(n:Nat)(t e:Int):Bl × Int:=
 pG (m8 A l n e) fun a b c d e1=>if e1=0 then
  (if w64 (w64 (t*b) - w64 (t*a)) < 1048576 then
   bnd (Gb (w64 (t*a)) (w64 (t*b))) fun z e2=>if e2=0 then
    wE (lU (w64 (t*c)) (w64 (t*d))) fun p q e3=>if e3=0 then bnd (jg e3 p q) fun s e4=>bnd (two be e4 z s) fun v e5=>(v,e5) else (Bl0,e3)
   else (Bl0,e2)
  else if e1=0 then
    wE (lU (w64 (t*c)) (w64 (t*d))) fun p q e3=>if e3=0 then bnd (jg e3 p q) fun s e4=>bnd (two be e4 Blc s) fun v e5=>(v,e5) else (Bl0,e3)
   else (Bl0,e1))
  else (Bl0,e1)
theorem afT (A:Ask){i:Nat}{l:L5}(h:A.ls[i]?=some l)(hi:i < 100000)(h1:A.w1 ≠ 0)(h2:A.w2 ≠ 0)(t e:Int){k:Nat->Nat->Int->Int->Option α} :
  uJ α e A.ix A.s1 A.s2 A.w1 A.w2 (A.ls.map rL) A.oi A.ol ((i+1:Nat):Int) t k=bnd (fS A l (i+1) t e) fun u e=>k u.n1 u.n2 u.r e:=by
 rw [aL]
 show _=KB k (fS A l (i+1) t e)
 unfold fS
 simp only [uJ,af,N9,rb,af,Cm,afu A h hi h1 h2,ab5,afK,J6,nj,aqt,fE,af,kh,eE,bi,gu (KB k),oy (KB k),uL (KB k),apply_ite (KB k),abK,yY,AQ,Gk]
end Go.AM.K
