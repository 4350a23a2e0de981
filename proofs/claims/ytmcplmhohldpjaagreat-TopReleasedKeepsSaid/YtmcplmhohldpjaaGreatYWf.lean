/- Stacks: indices, admittances, turns and factors. -/
import Derived.Test.YtmcplmhohldpjaaGreatYWe
namespace Go.AM.K
set_option linter.unusedVariables false
set_option linter.unusedSimpArgs false
variable {α:Type}
abbrev L5:=Int × Int × Int × Int × Int
abbrev rL (l:L5):List DC:=[.v (.int .i64 l.1),.v (.int .i64 l.2.1),.v (.int .i64 l.2.2.1),.v (.int .i64 l.2.2.2.1),.v (.int .i64 l.2.2.2.2)]
structure Ask where
 ix:Int
 s1:Int
 s2:Int
 pol:Int
 w1:Int
 w2:Int
 ls:List L5
 oi:Int
 ol:Int
theorem ahA {ls:List L5}{i:Nat}{l:L5}(h:ls[i]?=some l)(hi:i < 1000000){f:Int->Int->Int->Int->Int->Option α} :
  gq (ls.map rL) (w64 (((i+1:Nat):Int) - 1)) [.int .i64,.int .i64,.int .i64,.int .i64,.int .i64] f=f l.1 l.2.1 l.2.2.1 l.2.2.2.1 l.2.2.2.2:=by
 rw [show w64 (((i+1:Nat):Int) - 1)=(i:Int) by rw [ak (by omega) (by omega)];omega]
 refine (lZ (r:=rL l) ?_).trans rfl
 rw [List.getElem?_map,h];rfl
theorem alk {ls:List L5}{i:Nat}{l:L5}(h:ls[i]?=some l){f:Int->Int->Int->Int->Int->Option α} :
  gq (ls.map rL) (i:Int) [.int .i64,.int .i64,.int .i64,.int .i64,.int .i64] f=f l.1 l.2.1 l.2.2.1 l.2.2.2.1 l.2.2.2.2:=by
 refine (lZ (r:=rL l) ?_).trans rfl
 rw [List.getElem?_map,h];rfl
def iV (A:Ask)(n:Nat):Int × Int × Int:=match n with
 | 0=>(A.ix,A.ix,0)
 | n+1=>match A.ls[n]? with
  | some l=>(l.1,l.2.1,l.2.2.2.2)
  | none=>(A.oi,A.oi,A.ol)
theorem vv {A:Ask}{n:Nat}{l:L5}(h:A.ls[n]?=some l):iV A (n+1)=(l.1,l.2.1,l.2.2.2.2):=by
 show (match A.ls[n]? with
  | some l=>(l.1,l.2.1,l.2.2.2.2)
  | none=>(A.oi,A.oi,A.ol))=_
 rw [h]
theorem Eb {A:Ask}{n:Nat}(h:A.ls[n]?=none):iV A (n+1)=(A.oi,A.oi,A.ol):=by
 show (match A.ls[n]? with
  | some l=>(l.1,l.2.1,l.2.2.2.2)
  | none=>(A.oi,A.oi,A.ol))=_
 rw [h]
theorem Km (A:Ask){n:Nat}(hn:n < 1000000){k:Int->Int->Int->Option α} :
  An α A.ix (A.ls.map rL) A.oi A.ol (n:Int) k=k (iV A n).1 (iV A n).2.1 (iV A n).2.2:=by
 simp only [An,af,Xo,va,bg,List.length_map]
 cases n with
 | zero=>rw [if_pos (show ((0:Nat):Int)=0 from rfl)];rfl
 | succ n=>
  rw [if_neg (by omega)]
  cases h:A.ls[n]? with
  | some l=>
   have hl:n < A.ls.length:=(List.getElem?_eq_some_iff.1 h).1
   rw [if_pos (by omega),ahA h (by omega),vv h]
  | none=>
   have hl:A.ls.length<=n:=List.getElem?_eq_none_iff.1 h
   rw [if_neg (by omega),Eb h]
def jv (A:Ask)(n:Nat)(e:Int):Bl × Int:=
 bnd (jL e (dnI (w64 ((iV A n).1*1048576)) 10000) (upI (w64 ((iV A n).2.1*1048576)) 10000)) fun u e1=>
 if (iV A n).2.2=0 then (u,e1) else
 bnd (xh e1 (iV A n).2.2 10000) fun f e2=>
 if e2=0 then bnd (BR f) fun t e3=>bnd (two ej e3 u t) fun v e4=>(v,e4)
 else bnd (two ej e2 u f) fun v e4=>(v,e4)
theorem TR (A:Ask){n:Nat}(hn:n < 1000000)(e:Int){k:Nat->Nat->Int->Int->Option α} :
  Eq α e A.ix (A.ls.map rL) A.oi A.ol (n:Int) k=bnd (jv A n e) fun u e=>k u.n1 u.n2 u.r e:=by
 rw [aK]
 show _=KB k (jv A n e)
 unfold jv
 simp only [Eq,af,YU,yd,af,IL,Km A hn,yC (d:=10000) (by decide),tY (d:=10000) (by decide),KQ,MI,abQ,fI,af,kz,FN,va,gG (KB k),apply_ite (KB k),ad3]
def dv (A:Ask)(n:Nat)(e:Int):Bl × Bool × Int:=
 bnd (jv A n e) fun u e1=>
 bnd (jL e1 (dnI (w64 ((w64 (A.ix*A.s1))*1048576)) 100000000) (upI (w64 ((w64 (A.ix*A.s2))*1048576)) 100000000)) fun b e2=>
 bnd (two bc e2 u u) fun v e3=>bnd (two bc e3 b b) fun c e4=>bnd (two gV e4 v c) fun d e5=>
 if (iV A n).2.2=0 then
  qo (fH e5 d) fun lo hi _ _ e6=>if e6=0 then bnd (oK lo hi) fun q e7=>(q,decide (lo < 0),e7) else (Bl0,false,e6)
 else if e5=0 then bnd (tZ d) fun q e6=>(q,false,e6) else (Bl0,false,e5)
theorem Kp (A:Ask){n:Nat}(hn:n < 1000000)(e:Int){k:Nat->Nat->Int->Bool->Int->Option α} :
  Bk α e A.ix A.s1 A.s2 (A.ls.map rL) A.oi A.ol (n:Int) k=Gv (dv A n e) fun u s e=>k u.n1 u.n2 u.r s e:=by
 rw [iI]
 show _=KN k (dv A n e)
 unfold dv
 simp only [Bk,af,Y6,TR A hn,Km A hn,yC (d:=100000000) (by decide),tY (d:=100000000) (by decide),KQ,oM,JL,KY,akx,akY,fI,af,kz,fG,gG (KN k),pI (KN k),apply_ite (KN k),as9,A1,z3,G6]
def kY (A:Ask)(n:Nat)(e:Int):Bl × Int:=
 Gv (dv A n e) fun q _ e1=>if A.pol=0 then (q,e1) else
 bnd (jv A n e1) fun u e2=>bnd (two bc e2 u u) fun v e3=>bnd (two nu e3 v q) fun w e4=>(w,e4)
theorem zF (A:Ask){n:Nat}(hn:n < 1000000)(e:Int){k:Nat->Nat->Int->Int->Option α} :
  nv α e A.ix A.s1 A.s2 A.pol (A.ls.map rL) A.oi A.ol (n:Int) k=bnd (kY A n e) fun u e=>k u.n1 u.n2 u.r e:=by
 rw [aK]
 show _=KB k (kY A n e)
 unfold kY
 simp only [nv,af,Xz,Kp A hn,TR A hn,oM,Kq,va,gG (KB k),vk (KB k),apply_ite (KB k),ad3]
def GE (A:Ask)(l:L5)(a b c d e:Int):Q4 × Int:=
 ((dnI (w64 ((w64 (4*pos a))*l.2.2.1)) A.w2,upI (w64 ((w64 (4*pos b))*l.2.2.2.1)) A.w1,dnI (w64 ((w64 (4*pos c))*l.2.2.1)) A.w2,upI (w64 ((w64 (4*pos d))*l.2.2.2.1)) A.w1),e)
def oF (A:Ask)(l:L5)(n:Nat)(e:Int):Q4 × Int:=
 Gv (dv A n e) fun q s e1=>qo (fH e1 q) fun a b c d e2=>
 if l.2.2.2.2=0 then (if s=true then GE A l 0 0 c d e2 else GE A l a b 0 0 e2) else GE A l a b c d e2
theorem at0 {A:Ask}{l:L5}{a b c d e:Int}{k:Int->Int->Int->Int->Int->Option α}:KP k (GE A l a b c d e)=
  k (dnI (w64 ((w64 (4*pos a))*l.2.2.1)) A.w2) (upI (w64 ((w64 (4*pos b))*l.2.2.2.1)) A.w1) (dnI (w64 ((w64 (4*pos c))*l.2.2.1)) A.w2) (upI (w64 ((w64 (4*pos d))*l.2.2.2.1)) A.w1) e:=by
 simp only [KP,GE]
theorem aex (A:Ask){i:Nat}{l:L5}(h:A.ls[i]?=some l)(hi:i < 100000)(h1:A.w1 ≠ 0)(h2:A.w2 ≠ 0)(e:Int){k:Int->Int->Int->Int->Int->Option α} :
  zC α e A.ix A.s1 A.s2 A.w1 A.w2 (A.ls.map rL) A.oi A.ol ((i+1:Nat):Int) k=qo (oF A l (i+1) e) k:=by
 rw [eF]
 show _=KP k (oF A l (i+1) e)
 unfold oF
 simp only [zC,af,Qu,tJ,af,De,Kp A (n:=i+1) (by omega),KY,ahA h (by omega),yC h2,tY h1,XN,fG,vk (KP k),pI (KP k),apply_ite (KP k),at0]
 simp only [aal]
def fR (A:Ask)(l:L5)(n:Nat)(t e:Int):Bl × Int:=
 qo (oF A l n e) fun a b c d e1=>if e1=0 then
  (if w64 (w64 (t*b) - w64 (t*a)) < 1048576 then
   bnd (IE (w64 (t*a)) (w64 (t*b))) fun z e2=>if e2=0 then
    xz (mW (w64 (t*c)) (w64 (t*d))) fun p q e3=>if e3=0 then bnd (jL e3 p q) fun s e4=>bnd (two bc e4 z s) fun v e5=>(v,e5) else (Bl0,e3)
   else (Bl0,e2)
  else if e1=0 then
    xz (mW (w64 (t*c)) (w64 (t*d))) fun p q e3=>if e3=0 then bnd (jL e3 p q) fun s e4=>bnd (two bc e4 Blc s) fun v e5=>(v,e5) else (Bl0,e3)
   else (Bl0,e1))
  else (Bl0,e1)
theorem aeG (A:Ask){i:Nat}{l:L5}(h:A.ls[i]?=some l)(hi:i < 100000)(h1:A.w1 ≠ 0)(h2:A.w2 ≠ 0)(t e:Int){k:Nat->Nat->Int->Int->Option α} :
  we α e A.ix A.s1 A.s2 A.w1 A.w2 (A.ls.map rL) A.oi A.ol ((i+1:Nat):Int) t k=bnd (fR A l (i+1) t e) fun u e=>k u.n1 u.n2 u.r e:=by
 rw [aK]
 show _=KB k (fR A l (i+1) t e)
 unfold fR
 simp only [we,af,L3,rH,af,Dc,aex A h hi h1 h2,adc,afY,KQ,oM,aoq,fI,af,kz,fG,bg,gG (KB k),pI (KB k),ww (KB k),apply_ite (KB k),ad3,A1,z3,G6]
end Go.AM.K
