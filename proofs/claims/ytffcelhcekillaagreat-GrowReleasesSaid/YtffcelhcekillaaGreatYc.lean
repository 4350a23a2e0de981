/- Texts of one kind, put together. -/
import Derived.Test.YtffcelhcekillaaGreatYb
namespace Go.AM.K
set_option linter.unusedVariables false
set_option linter.unusedSimpArgs false
variable {α:Type}
def ue {β:Type}(n:Int)(f:(m:Int)->n=m->β):β:=match n,f with
 | .ofNat 0,f=>f 0 rfl
 | .ofNat (m+1),f=>f (.ofNat (m+1)) rfl
 | .negSucc 0,f=>f (-1) rfl
 | .negSucc (m+1),f=>f (.negSucc (m+1)) rfl
theorem fM {β:Type}(n:Int)(f:(m:Int)->n=m->β):ue n f=f n rfl:=by
 unfold ue;split <;> rfl
theorem aBa {u:Bl}{x y r:Int}(hx:u.b.1=x)(hy:u.b.2.1=y)(hr:u.b.2.2=r):okS (x,y,r)=true:=by
 subst hx;subst hy;subst hr;exact u.ok
def bnd {β:Type}(u:Bl × Int)(f:Bl->Int->β):β:=
 ue u.1.b.1 fun x hx=>ue u.1.b.2.1 fun y hy=>ue u.1.b.2.2 fun r hr=>ue u.2 fun e _=>f ⟨(x,y,r),aBa hx hy hr⟩ e
theorem aP {β:Type}(u:Bl × Int)(f:Bl->Int->β):bnd u f=f u.1 u.2:=by
 unfold bnd;rw [fM,fM,fM,fM]
theorem gx {β γ:Type}(F:β->γ)(u:Bl × Int)(G:Bl->Int->β):F (bnd u G)=bnd u fun a e=>F (G a e):=by
 rw [aP,aP]
abbrev Q4:=Int × Int × Int × Int
def iX {β:Type}(u:Q4 × Int)(f:Int->Int->Int->Int->Int->β):β:=
 ue u.1.1 fun a _=>ue u.1.2.1 fun b _=>ue u.1.2.2.1 fun c _=>ue u.1.2.2.2 fun d _=>ue u.2 fun e _=>f a b c d e
theorem cT {β:Type}(u:Q4 × Int)(f:Int->Int->Int->Int->Int->β):iX u f=f u.1.1 u.1.2.1 u.1.2.2.1 u.1.2.2.2 u.2:=by
 unfold iX;rw [fM,fM,fM,fM,fM]
theorem pZ {β γ:Type}(F:β->γ)(u:Q4 × Int)(G:Int->Int->Int->Int->Int->β):F (iX u G)=iX u fun a b c d e=>F (G a b c d e):=by
 rw [cT,cT]
def kI {β:Type}(u:Int × Int × Int)(f:Int->Int->Int->β):β:=
 ue u.1 fun a _=>ue u.2.1 fun b _=>ue u.2.2 fun c _=>f a b c
theorem kr {β:Type}(u:Int × Int × Int)(f:Int->Int->Int->β):kI u f=f u.1 u.2.1 u.2.2:=by
 unfold kI;rw [fM,fM,fM]
theorem yv {β γ:Type}(F:β->γ)(u:Int × Int × Int)(G:Int->Int->Int->β):F (kI u G)=kI u fun a b c=>F (G a b c):=by
 rw [kr,kr]
def zw {β:Type}(u:Bl × Bool × Int)(f:Bl->Bool->Int->β):β:=
 match u with
 | (q,true,e)=>f q true e
 | (q,false,e)=>f q false e
theorem fq {β:Type}(u:Bl × Bool × Int)(f:Bl->Bool->Int->β):zw u f=f u.1 u.2.1 u.2.2:=by
 obtain⟨q,b,e⟩:=u;cases b <;> rfl
theorem xn {β γ:Type}(F:β->γ)(u:Bl × Bool × Int)(G:Bl->Bool->Int->β):F (zw u G)=zw u fun a b e=>F (G a b e):=by
 rw [fq,fq]
abbrev Mt:=Bl × Bl × Bl × Bl
def nH {β:Type}(u:Mt × Int)(f:Mt->Int->β):β:=match u with
 | ((a,b,c,d),e)=>f (a,b,c,d) e
theorem tp {β:Type}(u:Mt × Int)(f:Mt->Int->β):nH u f=f u.1 u.2:=rfl
theorem aap {β γ:Type}(F:β->γ)(u:Mt × Int)(G:Mt->Int->β):F (nH u G)=nH u fun a e=>F (G a e):=rfl
def ai8 {β:Type}(u:(Mt × Bl) × Int)(f:Mt->Bl->Int->β):β:=match u with
 | (((a,b,c,d),g),e)=>f (a,b,c,d) g e
theorem V8 {β:Type}(u:(Mt × Bl) × Int)(f:Mt->Bl->Int->β):ai8 u f=f u.1.1 u.1.2 u.2:=rfl
theorem ZZ {β γ:Type}(F:β->γ)(u:(Mt × Bl) × Int)(G:Mt->Bl->Int->β):F (ai8 u G)=ai8 u fun a g e=>F (G a g e):=rfl
theorem bj {x:Int}{a b:Option α}:cK (x != 0) a b=if x=0 then b else a:=by
 by_cases h:x=0
 ·rw [if_pos h,h];rfl
 ·rw [if_neg h,bne_iff_ne.2 h,aq]
theorem gw {x:Int}{a b:Option α}:cK (x == 0) a b=if x=0 then a else b:=by
 by_cases h:x=0
 ·rw [if_pos h,h];rfl
 ·rw [if_neg h,beq_eq_false_iff_ne.2 h,al]
theorem rq {x:Bool}{a b:Option α}:cK x a b=if x=true then a else b:=by cases x <;> rfl
def KN (k:Nat->Nat->Int->Bool->Int->Option α)(u:Bl × Bool × Int):Option α:=k u.1.n1 u.1.n2 u.1.r u.2.1 u.2.2
def KP (k:Int->Int->Int->Int->Int->Option α)(u:Q4 × Int):Option α:=k u.1.1 u.1.2.1 u.1.2.2.1 u.1.2.2.2 u.2
def KMt (k:Nat->Nat->Int->Nat->Nat->Int->Nat->Nat->Int->Nat->Nat->Int->Int->Option α)(u:Mt × Int):Option α:=
 k u.1.1.n1 u.1.1.n2 u.1.1.r u.1.2.1.n1 u.1.2.1.n2 u.1.2.1.r u.1.2.2.1.n1 u.1.2.2.1.n2 u.1.2.2.1.r u.1.2.2.2.n1 u.1.2.2.2.n2 u.1.2.2.2.r u.2
theorem aor {k:Nat->Nat->Int->Int->Option α}{a:Bl}{e:Int}:KB k (a,e)=k a.n1 a.n2 a.r e:=rfl
theorem aIJ {k:Nat->Nat->Int->Bool->Int->Option α}{a:Bl}{b:Bool}{e:Int}:KN k (a,b,e)=k a.n1 a.n2 a.r b e:=rfl
theorem awb {k:Nat->Nat->Int->Nat->Nat->Int->Nat->Nat->Int->Nat->Nat->Int->Int->Option α}{a b c d:Bl}{e:Int} :
  KMt k ((a,b,c,d),e)=k a.n1 a.n2 a.r b.n1 b.n2 b.r c.n1 c.n2 c.r d.n1 d.n2 d.r e:=rfl
def two (op:Bl->Bl->Bl × Int)(e:Int)(a b:Bl):Bl × Int:=if e=0 then op a b else (Bl0,e)
theorem yM {e:Int}{u:Bl × Int}{k:Nat->Nat->Int->Int->Option α}:cK (e != 0) (k 0 0 0 e) (KB k u)=bnd (if e=0 then u else (Bl0,e)) fun u e=>k u.n1 u.n2 u.r e:=by
 rw [aP,bj];by_cases h:e=0
 ·simp only [if_pos h];rfl
 ·simp only [if_neg h,BC,Ei,NP]
theorem AG (e:Int)(a b:Bl){k:Nat->Nat->Int->Int->Option α}:fw α e a.n1 a.n2 a.r b.n1 b.n2 b.r k=bnd (two fA e a b) fun u e=>k u.n1 u.n2 u.r e:=by
 simp only [fw,af,Uh,Il,af,UM,dR,af,ia,atr];exact yM
theorem kv (e:Int)(a b:Bl){k:Nat->Nat->Int->Int->Option α}:cR α e a.n1 a.n2 a.r b.n1 b.n2 b.r k=bnd (two bA e a b) fun u e=>k u.n1 u.n2 u.r e:=by
 simp only [cR,af,P3,JS,af,RR,dR,af,ia,auq];exact yM
theorem Ic (e:Int)(a b:Bl){k:Nat->Nat->Int->Int->Option α}:ow α e a.n1 a.n2 a.r b.n1 b.n2 b.r k=bnd (two jk e a b) fun u e=>k u.n1 u.n2 u.r e:=by
 simp only [ow,af,S5,Jq,af,Qy,dR,af,ia,aqr];exact yM
theorem HT (e:Int)(a b:Bl){k:Nat->Nat->Int->Int->Option α}:oq α e a.n1 a.n2 a.r b.n1 b.n2 b.r k=bnd (two vj e a b) fun u e=>k u.n1 u.n2 u.r e:=by
 simp only [oq,af,UN,ID,af,So,dR,af,ia,ap7];exact yM
def Bl1:Bl:=⟨(1048576,0,0),by decide⟩
def Blc:Bl:=⟨(0,0,1048576),by decide⟩
theorem aKg:FloatKind.nearest .f64 1048576=4697254411347427328:=by decide +kernel
theorem O8:Bl1.n1=4697254411347427328:=aKg
theorem PG:Bl1.n2=0:=agn
theorem ai5:Bl1.r=0:=rfl
theorem awN:Blc.n1=0:=agn
theorem ayg:Blc.n2=0:=agn
theorem aGK:Blc.r=1048576:=rfl
theorem aka (e:Int)(b:Bl){k:Nat->Nat->Int->Int->Option α}:fw α e 4697254411347427328 0 0 b.n1 b.n2 b.r k=bnd (two fA e Bl1 b) fun u e=>k u.n1 u.n2 u.r e:=by
 rw [<- AG,O8,PG,ai5]
theorem ahC (e:Int)(b:Bl){k:Nat->Nat->Int->Int->Option α}:ow α e 4697254411347427328 0 0 b.n1 b.n2 b.r k=bnd (two jk e Bl1 b) fun u e=>k u.n1 u.n2 u.r e:=by
 rw [<- Ic,O8,PG,ai5]
theorem awt (e:Int)(b:Bl){k:Nat->Nat->Int->Int->Option α}:cR α e 0 0 1048576 b.n1 b.n2 b.r k=bnd (two bA e Blc b) fun u e=>k u.n1 u.n2 u.r e:=by
 rw [<- kv,awN,ayg,aGK]
def iJ (e lo hi:Int):Bl × Int:=if e=0 then cJ lo hi else (Bl0,e)
def tQ (e n d:Int):Bl × Int:=if e=0 then yY n d else (Bl0,e)
theorem JY {e lo hi:Int}{k:Nat->Nat->Int->Int->Option α}:n9 α e lo hi k=bnd (iJ e lo hi) fun u e=>k u.n1 u.n2 u.r e:=by
 simp only [n9,af,Zy,dR,af,ia,Jz];exact yM
theorem Xk {e n d:Int}{k:Nat->Nat->Int->Int->Option α}:xh α e n d k=bnd (tQ e n d) fun u e=>k u.n1 u.n2 u.r e:=by
 simp only [xh,af,TR,dR,af,ia,aq7];exact yM
theorem auR (a:Bl){k:Nat->Nat->Int->Int->Option α}:r8 α a.n1 a.n2 a.r 1 k=bnd (BT a) fun u e=>k u.n1 u.n2 u.r e:=by
 rw [Xa,aP];rfl
theorem aqG (a:Bl){k:Nat->Nat->Int->Int->Option α}:xO α a.n1 a.n2 a.r k=bnd (oQ a) fun u e=>k u.n1 u.n2 u.r e:=by
 rw [ap9,aP];rfl
theorem atd {lo hi:Int}{k:Nat->Nat->Int->Int->Option α}:xu α lo hi k=bnd (jp lo hi) fun u e=>k u.n1 u.n2 u.r e:=by
 rw [ark,aP];rfl
theorem aqy {lo hi:Int}{k:Nat->Nat->Int->Int->Option α}:yJ α lo hi k=bnd (DT lo hi) fun u e=>k u.n1 u.n2 u.r e:=by
 rw [am8,aP];rfl
theorem atT {lo hi:Int}{k:Int->Int->Int->Option α}:su α lo hi k=kI (jD lo hi) k:=by
 rw [ar9,kr]
def jt (e:Int)(a:Bl):Q4 × Int:=if e=0 then ((a.lo1,a.hi1,a.lo2,a.hi2),0) else ((0,0,0,0),e)
theorem Jb (e:Int)(a:Bl){k:Int->Int->Int->Int->Int->Option α}:oI α e a.n1 a.n2 a.r k=iX (jt e a) k:=by
 simp only [oI,af,UB,an2];rw [cT,bj];unfold jt;by_cases h:e=0
 ·simp only [if_pos h]
 ·simp only [if_neg h]
def np (a:Bl):Int × Int × Int:=(a.eLo,a.eHi,0)
theorem Zk (a:Bl){k:Int->Int->Int->Option α}:rM α a.n1 a.n2 a.r k=kI (np a) k:=by
 rw [arA,kr];rfl
def dnI (n d:Int):Int:=w64 (Int.tdiv n d)
def upI (n d:Int):Int:=w64 (Int.tdiv (w64 (w64 (n+d) - 1)) d)
theorem vG {n d:Int}(h:d ≠ 0){k:Int->Option α}:jF α n d k=k (dnI n d):=by
 simp only [jF,af,VA];rw [bO (bne_iff_ne.2 h)];rfl
theorem ug {n d:Int}(h:d ≠ 0){k:Int->Option α}:ne α n d k=k (upI n d):=by
 simp only [ne,af,aeK];rw [bO (bne_iff_ne.2 h)];rfl
def pos (x:Int):Int:=if x > 0 then x else 0
theorem SC {x y:Int}{k:Int->Int->Option α}:mo α x y k=k (pos x) (pos y):=by rw [mo,af,XU];rfl
end Go.AM.K

namespace Go.AM.K
set_option linter.unusedVariables false
set_option linter.unusedSimpArgs false
variable {α:Type}
abbrev L5:=Int × Int × Int × Int × Int
abbrev rL (l:L5):List DC:=[.v (.int .i64 l.1),.v (.int .i64 l.2.1),.v (.int .i64 l.2.2.1),.v (.int .i64 l.2.2.2.1),.v (.int .i64 l.2.2.2.2)]
structure Ask where
 ix:Int
 s1:Int
 s2:Int
 pol:Int
 w1:Int
 w2:Int
 ls:List L5
 oi:Int
 ol:Int
theorem af5 {ls:List L5}{i:Nat}{l:L5}(h:ls[i]?=some l)(hi:i < 1000000){f:Int->Int->Int->Int->Int->Option α} :
  dE (ls.map rL) (w64 (((i+1:Nat):Int) - 1)) [.int .i64,.int .i64,.int .i64,.int .i64,.int .i64] f=f l.1 l.2.1 l.2.2.1 l.2.2.2.1 l.2.2.2.2:=by
 rw [show w64 (((i+1:Nat):Int) - 1)=(i:Int) by rw [aj (by omega) (by omega)];omega];refine (oH (r:=rL l) ?_).trans rfl;rw [List.getElem?_map,h];rfl
theorem Pd {ls:List L5}{i:Nat}{l:L5}(h:ls[i]?=some l){f:Int->Int->Int->Int->Int->Option α} :
  dE (ls.map rL) (i:Int) [.int .i64,.int .i64,.int .i64,.int .i64,.int .i64] f=f l.1 l.2.1 l.2.2.1 l.2.2.2.1 l.2.2.2.2:=by
 refine (oH (r:=rL l) ?_).trans rfl;rw [List.getElem?_map,h];rfl
def eO (A:Ask)(n:Nat):Int × Int × Int:=match n with
 | 0=>(A.ix,A.ix,0)
 | n+1=>match A.ls[n]? with
  | some l=>(l.1,l.2.1,l.2.2.2.2)
  | none=>(A.oi,A.oi,A.ol)
theorem mi {A:Ask}{n:Nat}{l:L5}(h:A.ls[n]?=some l):eO A (n+1)=(l.1,l.2.1,l.2.2.2.2):=by
 show (match A.ls[n]? with
  | some l=>(l.1,l.2.1,l.2.2.2.2)
  | none=>(A.oi,A.oi,A.ol))=_
 rw [h]
theorem p8 {A:Ask}{n:Nat}(h:A.ls[n]?=none):eO A (n+1)=(A.oi,A.oi,A.ol):=by
 show (match A.ls[n]? with
  | some l=>(l.1,l.2.1,l.2.2.2.2)
  | none=>(A.oi,A.oi,A.ol))=_
 rw [h]
theorem II (A:Ask){n:Nat}(hn:n < 1000000){k:Int->Int->Int->Option α} :
  rN α A.ix (A.ls.map rL) A.oi A.ol (n:Int) k=k (eO A n).1 (eO A n).2.1 (eO A n).2.2:=by
 simp only [rN,af,QU,gw,aJ,List.length_map];cases n with
 | zero=>rw [if_pos (show ((0:Nat):Int)=0 from rfl)];rfl
 | succ n=>
  rw [if_neg (by omega)];cases h:A.ls[n]? with
  | some l=>
   have hl:n < A.ls.length:=(List.getElem?_eq_some_iff.1 h).1;rw [if_pos (by omega),af5 h (by omega),mi h]
  | none=>
   have hl:A.ls.length<=n:=List.getElem?_eq_none_iff.1 h;rw [if_neg (by omega),p8 h]
def eu (A:Ask)(n:Nat)(e:Int):Bl × Int:=
 bnd (iJ e (dnI (w64 ((eO A n).1*1048576)) 10000) (upI (w64 ((eO A n).2.1*1048576)) 10000)) fun u e1=>
 if (eO A n).2.2=0 then (u,e1) else
 bnd (tQ e1 (eO A n).2.2 10000) fun f e2=>
 if e2=0 then bnd (BT f) fun t e3=>bnd (two fA e3 u t) fun v e4=>(v,e4)
 else bnd (two fA e2 u f) fun v e4=>(v,e4)
theorem Sq (A:Ask){n:Nat}(hn:n < 1000000)(e:Int){k:Nat->Nat->Int->Int->Option α} :
  yx α e A.ix (A.ls.map rL) A.oi A.ol (n:Int) k=bnd (eu A n e) fun u e=>k u.n1 u.n2 u.r e:=by
 rw [aP];show _=KB k (eu A n e);unfold eu;simp only [yx,af,Xn,wS,af,HL,II A hn,vG (d:=10000) (by decide),ug (d:=10000) (by decide),JY,Xk,auR,dR,af,ia,AG,gw,gx (KB k),apply_ite (KB k),aor]
def bH (A:Ask)(n:Nat)(e:Int):Bl × Bool × Int:=
 bnd (eu A n e) fun u e1=>
 bnd (iJ e1 (dnI (w64 ((w64 (A.ix*A.s1))*1048576)) 100000000) (upI (w64 ((w64 (A.ix*A.s2))*1048576)) 100000000)) fun b e2=>
 bnd (two bA e2 u u) fun v e3=>bnd (two bA e3 b b) fun c e4=>bnd (two jk e4 v c) fun d e5=>
 if (eO A n).2.2=0 then
  iX (jt e5 d) fun lo hi _ _ e6=>if e6=0 then bnd (jp lo hi) fun q e7=>(q,decide (lo < 0),e7) else (Bl0,false,e6)
 else if e5=0 then bnd (oQ d) fun q e6=>(q,false,e6) else (Bl0,false,e5)
theorem KA (A:Ask){n:Nat}(hn:n < 1000000)(e:Int){k:Nat->Nat->Int->Bool->Int->Option α} :
  rK α e A.ix A.s1 A.s2 (A.ls.map rL) A.oi A.ol (n:Int) k=zw (bH A n e) fun u s e=>k u.n1 u.n2 u.r s e:=by
 rw [fq];show _=KN k (bH A n e);unfold bH;simp only [rK,af,SL,Sq A hn,II A hn,vG (d:=100000000) (by decide),ug (d:=100000000) (by decide),JY,kv,Ic,Jb,aqG,atd,dR,af,ia,bj,gx (KN k),pZ (KN k),apply_ite (KN k),aIJ,BC,Ei,NP]
def ck (A:Ask)(n:Nat)(e:Int):Bl × Int:=
 zw (bH A n e) fun q _ e1=>if A.pol=0 then (q,e1) else
 bnd (eu A n e1) fun u e2=>bnd (two bA e2 u u) fun v e3=>bnd (two vj e3 v q) fun w e4=>(w,e4)
theorem wB (A:Ask){n:Nat}(hn:n < 1000000)(e:Int){k:Nat->Nat->Int->Int->Option α} :
  js α e A.ix A.s1 A.s2 A.pol (A.ls.map rL) A.oi A.ol (n:Int) k=bnd (ck A n e) fun u e=>k u.n1 u.n2 u.r e:=by
 rw [aP];show _=KB k (ck A n e);unfold ck;simp only [js,af,Uw,KA A hn,Sq A hn,kv,HT,gw,gx (KB k),xn (KB k),apply_ite (KB k),aor]
def rR (A:Ask)(l:L5)(a b c d e:Int):Q4 × Int:=
 ((dnI (w64 ((w64 (4*pos a))*l.2.2.1)) A.w2,upI (w64 ((w64 (4*pos b))*l.2.2.2.1)) A.w1,dnI (w64 ((w64 (4*pos c))*l.2.2.1)) A.w2,upI (w64 ((w64 (4*pos d))*l.2.2.2.1)) A.w1),e)
def gW (A:Ask)(l:L5)(n:Nat)(e:Int):Q4 × Int:=
 zw (bH A n e) fun q s e1=>iX (jt e1 q) fun a b c d e2=>
 if l.2.2.2.2=0 then (if s=true then rR A l 0 0 c d e2 else rR A l a b 0 0 e2) else rR A l a b c d e2
theorem aJe {A:Ask}{l:L5}{a b c d e:Int}{k:Int->Int->Int->Int->Int->Option α}:KP k (rR A l a b c d e)=
  k (dnI (w64 ((w64 (4*pos a))*l.2.2.1)) A.w2) (upI (w64 ((w64 (4*pos b))*l.2.2.2.1)) A.w1) (dnI (w64 ((w64 (4*pos c))*l.2.2.1)) A.w2) (upI (w64 ((w64 (4*pos d))*l.2.2.2.1)) A.w1) e:=by
 simp only [KP,rR]
theorem anD (A:Ask){i:Nat}{l:L5}(h:A.ls[i]?=some l)(hi:i < 100000)(h1:A.w1 ≠ 0)(h2:A.w2 ≠ 0)(e:Int){k:Int->Int->Int->Int->Int->Option α} :
  CA α e A.ix A.s1 A.s2 A.w1 A.w2 (A.ls.map rL) A.oi A.ol ((i+1:Nat):Int) k=iX (gW A l (i+1) e) k:=by
 rw [cT];show _=KP k (gW A l (i+1) e);unfold gW;simp only [CA,af,Wt,v7,af,Gc,KA A (n:=i+1) (by omega),Jb,af5 h (by omega),vG h2,ug h1,SC,bj,xn (KP k),pZ (KP k),apply_ite (KP k),aJe];simp only [rq]
def eC (A:Ask)(l:L5)(n:Nat)(t e:Int):Bl × Int:=
 iX (gW A l n e) fun a b c d e1=>if e1=0 then
  (if w64 (w64 (t*b) - w64 (t*a)) < 1048576 then
   bnd (DT (w64 (t*a)) (w64 (t*b))) fun z e2=>if e2=0 then
    kI (jD (w64 (t*c)) (w64 (t*d))) fun p q e3=>if e3=0 then bnd (iJ e3 p q) fun s e4=>bnd (two bA e4 z s) fun v e5=>(v,e5) else (Bl0,e3)
   else (Bl0,e2)
  else if e1=0 then
    kI (jD (w64 (t*c)) (w64 (t*d))) fun p q e3=>if e3=0 then bnd (iJ e3 p q) fun s e4=>bnd (two bA e4 Blc s) fun v e5=>(v,e5) else (Bl0,e3)
   else (Bl0,e1))
  else (Bl0,e1)
theorem anR (A:Ask){i:Nat}{l:L5}(h:A.ls[i]?=some l)(hi:i < 100000)(h1:A.w1 ≠ 0)(h2:A.w2 ≠ 0)(t e:Int){k:Nat->Nat->Int->Int->Option α} :
  xp α e A.ix A.s1 A.s2 A.w1 A.w2 (A.ls.map rL) A.oi A.ol ((i+1:Nat):Int) t k=bnd (eC A l (i+1) t e) fun u e=>k u.n1 u.n2 u.r e:=by
 rw [aP];show _=KB k (eC A l (i+1) t e);unfold eC;simp only [xp,af,R0,wG,af,GE,anD A h hi h1 h2,aqy,atT,JY,kv,awt,dR,af,ia,bj,aJ,gx (KB k),pZ (KB k),yv (KB k),apply_ite (KB k),aor,BC,Ei,NP]
end Go.AM.K

namespace Go.AM.K
set_option linter.unusedVariables false
set_option linter.unusedSimpArgs false
variable {α:Type}
def yh (e:Int)(y g:Bl):Mt × Int:=
 bnd (tQ e 1 2) fun h e1=>bnd (two fA e1 Bl1 g) fun a e2=>bnd (two bA e2 a h) fun u e3=>
 bnd (two jk e3 Bl1 g) fun b e4=>bnd (two bA e4 b h) fun c e5=>bnd (two vj e5 c y) fun v e6=>bnd (two bA e6 c y) fun w e7=>((u,v,w,u),e7)
theorem aoX (e:Int)(y g:Bl){k:Nat->Nat->Int->Nat->Nat->Int->Nat->Nat->Int->Nat->Nat->Int->Int->Option α} :
  xD α e y.n1 y.n2 y.r g.n1 g.n2 g.r k=nH (yh e y g) fun m e=>k m.1.n1 m.1.n2 m.1.r m.2.1.n1 m.2.1.n2 m.2.1.r m.2.2.1.n1 m.2.2.1.n2 m.2.2.1.r m.2.2.2.n1 m.2.2.2.n2 m.2.2.2.r e:=by
 rw [tp];show _=KMt k (yh e y g);unfold yh;simp only [xD,af,U2,mX,af,Io,Xk,aka,ahC,kv,HT,gx (KMt k),awb]
def xo (e:Int)(p m:Mt):Mt × Int:=
 bnd (two bA e p.1 m.1) fun a1 e1=>bnd (two bA e1 p.2.1 m.2.2.1) fun a2 e2=>bnd (two fA e2 a1 a2) fun a e3=>
 bnd (two bA e3 p.1 m.2.1) fun b1 e4=>bnd (two bA e4 p.2.1 m.2.2.2) fun b2 e5=>bnd (two fA e5 b1 b2) fun b e6=>
 bnd (two bA e6 p.2.2.1 m.1) fun c1 e7=>bnd (two bA e7 p.2.2.2 m.2.2.1) fun c2 e8=>bnd (two fA e8 c1 c2) fun c e9=>
 bnd (two bA e9 p.2.2.1 m.2.1) fun d1 e10=>bnd (two bA e10 p.2.2.2 m.2.2.2) fun d2 e11=>bnd (two fA e11 d1 d2) fun d e12=>((a,b,c,d),e12)
theorem auu (e:Int)(p m:Mt){k:Nat->Nat->Int->Nat->Nat->Int->Nat->Nat->Int->Nat->Nat->Int->Int->Option α} :
  xN α e p.1.n1 p.1.n2 p.1.r p.2.1.n1 p.2.1.n2 p.2.1.r p.2.2.1.n1 p.2.2.1.n2 p.2.2.1.r p.2.2.2.n1 p.2.2.2.n2 p.2.2.2.r
   m.1.n1 m.1.n2 m.1.r m.2.1.n1 m.2.1.n2 m.2.1.r m.2.2.1.n1 m.2.2.1.n2 m.2.2.1.r m.2.2.2.n1 m.2.2.2.n2 m.2.2.2.r k=
   nH (xo e p m) fun m e=>k m.1.n1 m.1.n2 m.1.r m.2.1.n1 m.2.1.n2 m.2.1.r m.2.2.1.n1 m.2.2.1.n2 m.2.2.1.r m.2.2.2.n1 m.2.2.2.n2 m.2.2.2.r e:=by
 rw [tp];show _=KMt k (xo e p m);unfold xo;simp only [xN,af,Qs,kv,AG,gx (KMt k),awb]
def zs (A:Ask)(fs:Bool):List L5->Nat->Mt->Bl->Int->(Mt × Bl) × Int
 | [],_,p,a,e=>((p,a),e)
 | l::ls,n,p,a,e=>if e=0 then
   bnd (ck A n e) fun y e1=>bnd (eC A l n 2 e1) fun g e2=>
   if fs=true then
    bnd (eC A l n 1 e2) fun h e3=>bnd (two bA e3 a h) fun b e4=>nH (yh e4 y g) fun m e5=>nH (xo e5 p m) fun q e6=>zs A fs ls (n+1) q b e6
   else nH (yh e2 y g) fun m e3=>nH (xo e3 p m) fun q e4=>zs A fs ls (n+1) q a e4
  else ((p,a),e)
theorem Hm (A:Ask)(fs:Bool)(l:L5)(ls:List L5)(n:Nat)(p:Mt)(a:Bl)(e:Int):zs A fs (l::ls) n p a e=if e=0 then
   bnd (ck A n e) fun y e1=>bnd (eC A l n 2 e1) fun g e2=>
   if fs=true then
    bnd (eC A l n 1 e2) fun h e3=>bnd (two bA e3 a h) fun b e4=>nH (yh e4 y g) fun m e5=>nH (xo e5 p m) fun q e6=>zs A fs ls (n+1) q b e6
   else nH (yh e2 y g) fun m e3=>nH (xo e3 p m) fun q e4=>zs A fs ls (n+1) q a e4
  else ((p,a),e):=rfl
def KTh (k:Nat->Nat->Int->Nat->Nat->Int->Nat->Nat->Int->Nat->Nat->Int->Nat->Nat->Int->Int->Option α)(u:(Mt × Bl) × Int):Option α:=
 k u.1.1.1.n1 u.1.1.1.n2 u.1.1.1.r u.1.1.2.1.n1 u.1.1.2.1.n2 u.1.1.2.1.r u.1.1.2.2.1.n1 u.1.1.2.2.1.n2 u.1.1.2.2.1.r u.1.1.2.2.2.n1 u.1.1.2.2.2.n2 u.1.1.2.2.2.r u.1.2.n1 u.1.2.n2 u.1.2.r u.2
theorem aEN {k:Nat->Nat->Int->Nat->Nat->Int->Nat->Nat->Int->Nat->Nat->Int->Nat->Nat->Int->Int->Option α}{m:Mt}{a:Bl}{e:Int} :
  KTh k ((m,a),e)=k m.1.n1 m.1.n2 m.1.r m.2.1.n1 m.2.1.n2 m.2.1.r m.2.2.1.n1 m.2.2.1.n2 m.2.2.1.r m.2.2.2.n1 m.2.2.2.n2 m.2.2.2.r a.n1 a.n2 a.r e:=rfl
theorem ank {A:Ask}{fs:Bool}(hA:A.ls.length<=40)(h1:A.w1 ≠ 0)(h2:A.w2 ≠ 0)
  {K:Nat->Nat->Int->Nat->Nat->Int->Nat->Nat->Int->Nat->Nat->Int->Nat->Nat->Int->Int->Option α}
  {k1:Int->Bool->Int->Nat->Nat->Int->Nat->Nat->Int->Nat->Nat->Int->Nat->Nat->Int->Nat->Nat->Int->Option α}
  (hk:∀ x b (m:Mt) (a:Bl) e,k1 x b e m.1.n1 m.1.n2 m.1.r m.2.1.n1 m.2.1.n2 m.2.1.r m.2.2.1.n1 m.2.2.1.n2 m.2.2.1.r m.2.2.2.n1 m.2.2.2.n2 m.2.2.2.r a.n1 a.n2 a.r=KTh K ((m,a),e)) :
  ∀ (rest:List L5) (i n:Nat) (m:Mt) (a:Bl) (e:Int),A.ls.drop i=rest->i<=A.ls.length->rest.length < n ->
  lL α fs A.ix A.s1 A.s2 A.pol A.w1 A.w2 (A.ls.map rL) A.oi A.ol k1 n ((i+1:Nat):Int) e m.1.n1 m.1.n2 m.1.r m.2.1.n1 m.2.1.n2 m.2.1.r m.2.2.1.n1 m.2.2.1.n2 m.2.2.1.r m.2.2.2.n1 m.2.2.2.n2 m.2.2.2.r a.n1 a.n2 a.r=
   KTh K (zs A fs rest (i+1) m a e):=by
 intro rest
 induction rest with
 | nil=>
  intro i n m a e hd hi hn;obtain⟨n,rfl⟩:∃ n',n=n'+1:=⟨n - 1,by simp only [List.length_nil] at hn;omega⟩
  have hl:A.ls.length<=i:=List.drop_eq_nil_iff.1 hd;simp only [lL,o8,List.length_map];rw [decide_eq_false (by omega),al,hk];rfl
 | cons l ls ih=>
  intro i n m a e hd hi hn;obtain⟨n,rfl⟩:∃ n',n=n'+1:=⟨n - 1,by omega⟩
  have hl:i < A.ls.length:=by
   by_cases h:i < A.ls.length
   ·exact h
   ·rw [List.drop_eq_nil_of_le (by omega)] at hd;cases hd
  have hg:A.ls[i]?=some l:=by
   have:=congrArg List.head? hd;rw [List.head?_drop] at this;exact this
  have hd':A.ls.drop (i+1)=ls:=by
   have:=congrArg List.tail hd;rw [List.tail_drop] at this;exact this
  have hw:w64 (((i+1:Nat):Int)+1)=((i+1+1:Nat):Int):=by rw [aj (by omega) (by omega)];omega
  have hi1:i+1 < 1000000:=by omega
  have hi2:i < 100000:=by omega
  have hn':ls.length < n:=by simp only [List.length_cons] at hn;omega
  have ih':∀ (m:Mt) (a:Bl) (e:Int),_:=fun m a e=>ih (i+1) n m a e hd' (by omega) hn';simp only [lL,o8,List.length_map];rw [decide_eq_true (by omega),aq];simp only [oD,af,Hj,wB A hi1,anR A hg hi2 h1 h2,kv,aoX,auu,hw,ih',hk];rw [Hm];simp only [gw,apply_ite (KTh K),gx (KTh K),aap (KTh K),aEN];simp only [rq]
def fI (A:Ask)(fs:Bool)(e:Int):(Mt × Bl) × Int:=zs A fs A.ls 1 (Bl1,Bl0,Bl0,Bl1) Bl1 e
theorem amp (A:Ask)(fs:Bool)(hA:A.ls.length<=40)(h1:A.w1 ≠ 0)(h2:A.w2 ≠ 0)(e:Int)
  {k:Nat->Nat->Int->Nat->Nat->Int->Nat->Nat->Int->Nat->Nat->Int->Nat->Nat->Int->Int->Option α} :
  CF α e A.ix A.s1 A.s2 A.pol A.w1 A.w2 (A.ls.map rL) A.oi A.ol fs k=ai8 (fI A fs e) fun m a e=>
   k m.1.n1 m.1.n2 m.1.r m.2.1.n1 m.2.1.n2 m.2.1.r m.2.2.1.n1 m.2.2.1.n2 m.2.2.1.r m.2.2.2.n1 m.2.2.2.n2 m.2.2.2.r a.n1 a.n2 a.r e:=by
 rw [V8];show _=KTh k (fI A fs e);have hf:A.ls.length < aG:=by have:=bF;omega
 have:=ank (α:=α) (A:=A) (fs:=fs) hA h1 h2 (K:=k) (k1:=fun _ _ e a b c d e' f g h i j l m n o p=>k a b c d e' f g h i j l m n o p e) (fun _ _ _ _ _=>rfl) A.ls 0 aG (Bl1,Bl0,Bl0,Bl1) Bl1 e rfl (Nat.zero_le _) hf;simp only [O8,PG,ai5,BC,Ei,NP] at this;simp only [CF,af,Tw,mX,af,Io,DL,af,Wr,vO,af,GO];exact this
end Go.AM.K

namespace Go.AM.K
set_option linter.unusedVariables false
set_option linter.unusedSimpArgs false
variable {α:Type}
def eH (A:Ask)(tr:Bool)(e:Int):Bl × Int:=
 bnd (ck A 0 e) fun f e1=>ai8 (fI A tr e1) fun p g e2=>bnd (ck A (A.ls.length+1) e2) fun l e3=>
 bnd (two bA e3 p.2.1 l) fun t1 e4=>bnd (two fA e4 p.1 t1) fun b e5=>bnd (two bA e5 p.2.2.2 l) fun t2 e6=>bnd (two fA e6 p.2.2.1 t2) fun c e7=>
 bnd (two bA e7 f b) fun a e8=>bnd (two fA e8 a c) fun d e9=>
 if tr=true then bnd (two fA e9 f f) fun s e10=>bnd (two bA e10 s g) fun z e11=>bnd (two vj e11 z d) fun v e12=>(v,e12)
 else bnd (two jk e9 a c) fun z e10=>bnd (two vj e10 z d) fun v e11=>(v,e11)
theorem anC (A:Ask)(tr:Bool)(hA:A.ls.length<=40)(h1:A.w1 ≠ 0)(h2:A.w2 ≠ 0)(e:Int){k:Nat->Nat->Int->Int->Option α} :
  xC α e A.ix A.s1 A.s2 A.pol A.w1 A.w2 (A.ls.map rL) A.oi A.ol tr k=bnd (eH A tr e) fun u e=>k u.n1 u.n2 u.r e:=by
 rw [aP];show _=KB k (eH A tr e);have hw:w64 ((A.ls.length:Int)+1)=((A.ls.length+1:Nat):Int):=by rw [aj (by omega) (by omega)];omega
 have hl:A.ls.length+1 < 1000000:=by omega
 have h0:∀ (e:Int) (k:Nat->Nat->Int->Int->Option α),js α e A.ix A.s1 A.s2 A.pol (A.ls.map rL) A.oi A.ol 0 k=bnd (ck A 0 e) fun u e=>k u.n1 u.n2 u.r e:=fun e k=>wB A (n:=0) (by decide) e;unfold eH;simp only [xC,af,Sv,List.length_map,hw,h0,wB A hl,amp A tr hA h1 h2,kv,AG,Ic,HT,gx (KB k),ZZ (KB k),apply_ite (KB k),aor];simp only [rq]
def lsy (A:Ask):Nat->Nat->Bool
 | 0,_=>false
 | m+1,n=>if (eO A n).2.2=0 then lsy A m (n+1) else true
theorem apF {A:Ask}(hA:A.ls.length<=40){k1 Y:Option α}{k2:Int->Bool->Option α}(hk:∀ x b,k2 x b=Y) :
  ∀ (m n f:Nat),n+m=A.ls.length+2->m < f->ln α ((A.ls.length+2:Nat):Int) A.ix (A.ls.map rL) A.oi A.ol k1 k2 f (n:Int)=if lsy A m n=true then k1 else Y:=by
 intro m
 induction m with
 | zero=>
  intro n f h hf;obtain⟨f,rfl⟩:∃ f',f=f'+1:=⟨f - 1,by omega⟩
  rw [ln];simp only [nF];rw [decide_eq_false (by omega),al,hk];rfl
 | succ m ih=>
  intro n f h hf;obtain⟨f,rfl⟩:∃ f',f=f'+1:=⟨f - 1,by omega⟩
  rw [ln];simp only [nF];rw [decide_eq_true (by omega),aq,II A (by omega),bj];have hw:w64 ((n:Int)+1)=((n+1:Nat):Int):=by rw [aj (by omega) (by omega)];omega
  rw [hw,ih (n+1) f (by omega) (by omega)];unfold lsy;by_cases c:(eO A n).2.2=0
  ·rw [if_pos c,if_pos c]
   cases m <;> rfl
  ·rw [if_neg c,if_neg c,if_pos rfl]
def LJ (A:Ask):Bool:=lsy A (A.ls.length+2) 0
theorem an3 (A:Ask)(hA:A.ls.length<=40){k:Bool->Option α}:ou α A.ix (A.ls.map rL) A.oi A.ol k=if LJ A=true then k true else k false:=by
 have hw:w64 ((A.ls.length:Int)+2)=((A.ls.length+2:Nat):Int):=by rw [aj (by omega) (by omega)];omega
 have hf:A.ls.length+2 < aG:=by have:=bF;omega
 simp only [ou,af,TP,List.length_map,hw,vN,af,Hl];exact apF hA (fun _ _=>rfl) (A.ls.length+2) 0 aG (by omega) hf
theorem pO {n lo hi:Int}{k:Bool->Option α}:pk α n lo hi k=k (decide (lo<=n/\n<=hi)):=by
 simp only [pk,af,afA];by_cases h:lo<=n
 ·rw [decide_eq_true h,aq]
  by_cases h2:n<=hi
  ·rw [decide_eq_true h2,decide_eq_true ⟨h,h2⟩]
  ·rw [decide_eq_false h2,decide_eq_false (fun q=>h2 q.2)]
 ·rw [decide_eq_false h,al,decide_eq_false (fun q=>h q.1)]
theorem cL {p:Prop}[Decidable p]{a b:Option α}:cK (!decide p) a b=if p then b else a:=by
 by_cases h:p
 ·rw [if_pos h,decide_eq_true h];rfl
 ·rw [if_neg h,decide_eq_false h];rfl
def f9 (lo hi a b:Int):Int:=if (a<=lo/\lo<=b)/\a<=hi/\hi<=b then (if hi < lo then 10 else 0) else 2
theorem asL {lo hi:Int}{k:Int->Option α}:Dj α lo hi k=k (f9 lo hi 0 9999):=by
 simp only [Dj,af,Zo,wV,af,FB,BR,af,P4,pO,cL];unfold f9;by_cases h1:(0:Int)<=lo/\lo<=9999
 ·rw [if_pos h1]
  by_cases h2:(0:Int)<=hi/\hi<=9999
  ·rw [if_pos h2,aJ,if_pos (And.intro h1 h2)]
   by_cases h3:hi < lo
   ·rw [if_pos h3,if_pos h3]
   ·rw [if_neg h3,if_neg h3]
  ·rw [if_neg h2,if_neg (fun h=>h2 h.2)]
 ·rw [if_neg h1,aq,if_neg (fun h=>h1 h.1)]
theorem abN {lo hi:Int}{k:Int->Option α}:Bw α lo hi k=k (f9 lo hi 1000 200000):=by
 simp only [Bw,af,Ti,sM,af,GJ,Co,af,Zm,pO,cL];unfold f9;by_cases h1:(1000:Int)<=lo/\lo<=200000
 ·rw [if_pos h1]
  by_cases h2:(1000:Int)<=hi/\hi<=200000
  ·rw [if_pos h2,aJ,if_pos (And.intro h1 h2)]
   by_cases h3:hi < lo
   ·rw [if_pos h3,if_pos h3]
   ·rw [if_neg h3,if_neg h3]
  ·rw [if_neg h2,if_neg (fun h=>h2 h.2)]
 ·rw [if_neg h1,aq,if_neg (fun h=>h1 h.1)]
def Z0 (l:L5):Bool:=decide (((5000<=l.1/\l.1<=80000)/\5000<=l.2.1/\l.2.1<=80000)/\((0<=l.2.2.1/\l.2.2.1<=1000000)/\0<=l.2.2.2.1/\l.2.2.2.1<=1000000)/\0<=l.2.2.2.2/\l.2.2.2.2<=80000)
def uc (l:L5):Int:=if Z0 l=true then (if l.2.1 < l.1 then 10 else if l.2.2.2.1 < l.2.2.1 then 10 else 0) else 2
theorem azg (l:L5){k:Bool->Option α}:qz α l.1 l.2.1 l.2.2.1 l.2.2.2.1 l.2.2.2.2 k=if Z0 l=true then k false else k true:=by
 simp only [qz,af,NE,re,af,IT,CP,af,Pk,yR,af,JQ,pO,cL];unfold Z0;by_cases h1:5000<=l.1/\l.1<=80000
 ·rw [if_pos h1]
  by_cases h2:5000<=l.2.1/\l.2.1<=80000
  ·rw [if_pos h2]
   by_cases h3:0<=l.2.2.1/\l.2.2.1<=1000000
   ·rw [if_pos h3]
    by_cases h4:0<=l.2.2.2.1/\l.2.2.2.1<=1000000
    ·rw [if_pos h4]
     by_cases h5:0<=l.2.2.2.2/\l.2.2.2.2<=80000
     ·rw [decide_eq_true h5,if_pos (decide_eq_true ⟨⟨h1,h2⟩,⟨h3,h4⟩,h5⟩)];rfl
     ·rw [decide_eq_false h5,if_neg (fun h=>h5 (of_decide_eq_true h).2.2)];rfl
    ·rw [if_neg h4,if_neg (fun h=>h4 (of_decide_eq_true h).2.1.2)]
   ·rw [if_neg h3,if_neg (fun h=>h3 (of_decide_eq_true h).2.1.1)]
  ·rw [if_neg h2,if_neg (fun h=>h2 (of_decide_eq_true h).1.2)]
 ·rw [if_neg h1,if_neg (fun h=>h1 (of_decide_eq_true h).1.1)]
def lsE:List L5->Int
 | []=>0
 | l::ls=>if uc l=0 then lsE ls else uc l
theorem awi {ls:List L5}(hA:ls.length<=40){k1:Int->Int->Option α}{k2:Int->Bool->Option α}{Y:Option α}{K:Int->Option α}(h1:∀ x e,k1 x e=K e)(h2:∀ x b,k2 x b=Y) :
  ∀ (rest:List L5) (i n:Nat),ls.drop i=rest->i<=ls.length->rest.length < n ->
  qw α (ls.map rL) (ls.length:Int) k1 k2 n (i:Int)=if lsE rest=0 then Y else K (lsE rest):=by
 intro rest
 induction rest with
 | nil=>
  intro i n hd hi hn;obtain⟨n,rfl⟩:∃ n',n=n'+1:=⟨n - 1,by simp only [List.length_nil] at hn;omega⟩
  have hl:ls.length<=i:=List.drop_eq_nil_iff.1 hd;rw [qw];simp only [uD];rw [decide_eq_false (by omega),al,h2];rfl
 | cons l rs ih=>
  intro i n hd hi hn;obtain⟨n,rfl⟩:∃ n',n=n'+1:=⟨n - 1,by omega⟩
  have hl:i < ls.length:=by
   by_cases h:i < ls.length
   ·exact h
   ·rw [List.drop_eq_nil_of_le (by omega)] at hd;cases hd
  have hg:ls[i]?=some l:=by
   have:=congrArg List.head? hd;rw [List.head?_drop] at this;exact this
  have hd':ls.drop (i+1)=rs:=by
   have:=congrArg List.tail hd;rw [List.tail_drop] at this;exact this
  have hw:w64 ((i:Int)+1)=((i+1:Nat):Int):=by rw [aj (by omega) (by omega)];omega
  have hn':rs.length < n:=by simp only [List.length_cons] at hn;omega
  rw [qw];simp only [uD];rw [decide_eq_true (by omega),aq,Pd hg,azg];simp only [aq,al,aJ,h1,hw];rw [ih (i+1) n hd' (by omega) hn'];unfold lsE uc;by_cases c1:Z0 l=true
  ·simp only [if_pos c1]
   by_cases c2:l.2.1 < l.1
   ·simp only [if_pos c2];rfl
   ·simp only [if_neg c2]
    by_cases c3:l.2.2.2.1 < l.2.2.1
    ·simp only [if_pos c3];rfl
    ·simp only [if_neg c3,if_true]
     cases rs <;> rfl
  ·simp only [if_neg c1];rfl
def ckA (A:Ask):Int:=
 if 5000<=A.ix/\A.ix<=80000 then
  if f9 A.s1 A.s2 0 9999=0 then
   if 0<=A.pol/\A.pol<=1 then
    if f9 A.w1 A.w2 1000 200000=0 then
     if 40 < (A.ls.length:Int) then 8 else
     if lsE A.ls=0 then
      if 5000<=A.oi/\A.oi<=80000 then (if 0<=A.ol/\A.ol<=80000 then 0 else 2) else 2
     else lsE A.ls
    else f9 A.w1 A.w2 1000 200000
   else 11
  else f9 A.s1 A.s2 0 9999
 else 2
theorem afH (A:Ask){k:Int->Option α}:Ga α A.ix A.s1 A.s2 A.pol A.w1 A.w2 (A.ls.map rL) A.oi A.ol (fun _ e=>k e)=k (ckA A):=by
 simp only [Ga,af,aiK,re,af,IT,yR,af,JQ,pO,cL,asL,abN,bj,aJ,List.length_map];unfold ckA;split
 ·split
  ·split
   ·split
    ·split
     ·rfl
     ·rename_i h
      have hf:A.ls.length < aG:=by have:=bF;omega
      rw [Av,af,Ns];refine (awi (K:=k) (by omega) (fun _ _=>rfl) (fun _ _=>rfl) A.ls 0 aG rfl (Nat.zero_le _) hf).trans ?_;by_cases c:lsE A.ls=0
      ·rw [if_pos c,if_pos c]
       split
       ·split <;> rfl
       ·rfl
      ·rw [if_neg c,if_neg c]
    ·rfl
   ·rfl
  ·rfl
 ·rfl
theorem Jr {lo hi a b:Int}(h:f9 lo hi a b=0):(a<=lo/\lo<=b)/\(a<=hi/\hi<=b)/\lo<=hi:=by
 unfold f9 at h;split at h
 ·rename_i g
  split at h
  ·cases h
  ·omega
 ·cases h
theorem j0 {A:Ask}(h:ckA A=0):(5000<=A.ix/\A.ix<=80000)/\f9 A.s1 A.s2 0 9999=0/\(0<=A.pol/\A.pol<=1)/\f9 A.w1 A.w2 1000 200000=0/\A.ls.length<=40/\lsE A.ls=0/\(5000<=A.oi/\A.oi<=80000)/\0<=A.ol/\A.ol<=80000:=by
 unfold ckA at h;by_cases c1:5000<=A.ix/\A.ix<=80000
 ·rw [if_pos c1] at h
  by_cases c2:f9 A.s1 A.s2 0 9999=0
  ·rw [if_pos c2] at h
   by_cases c3:0<=A.pol/\A.pol<=1
   ·rw [if_pos c3] at h
    by_cases c4:f9 A.w1 A.w2 1000 200000=0
    ·rw [if_pos c4] at h
     by_cases c5:40 < (A.ls.length:Int)
     ·rw [if_pos c5] at h;cases h
     ·rw [if_neg c5] at h
      by_cases c6:lsE A.ls=0
      ·rw [if_pos c6] at h
       by_cases c7:5000<=A.oi/\A.oi<=80000
       ·rw [if_pos c7] at h
        by_cases c8:0<=A.ol/\A.ol<=80000
        ·exact⟨c1,c2,c3,c4,by omega,c6,c7,c8⟩
        ·rw [if_neg c8] at h;cases h
       ·rw [if_neg c7] at h;cases h
      ·rw [if_neg c6] at h;exact absurd h c6
    ·rw [if_neg c4] at h;exact absurd h c4
   ·rw [if_neg c3] at h;cases h
  ·rw [if_neg c2] at h;exact absurd h c2
 ·rw [if_neg c1] at h;cases h
end Go.AM.K

namespace Go.AM.K
set_option linter.unusedVariables false
set_option linter.unusedSimpArgs false
variable {α:Type}
abbrev Q6:=Int × Int × Int × Int × Int × Int
def KS (k:Int->Int->Int->Int->Int->Int->Int->Option α)(u:Q6 × Int):Option α:=k u.1.1 u.1.2.1 u.1.2.2.1 u.1.2.2.2.1 u.1.2.2.2.2.1 u.1.2.2.2.2.2 u.2
theorem aA2 {k:Int->Int->Int->Int->Int->Int->Int->Option α}{a b c d e f g:Int}:KS k ((a,b,c,d,e,f),g)=k a b c d e f g:=rfl
def ip (x:Int):Int:=if 1048576 < x then 1048576 else x
def NH (x y:Int):Int:=pos (w64 (w64 (1048576 - x) - y))
theorem Xe {x y:Int}{k:Int->Int->Option α}:yD α x y k=k (ip x) (ip y):=by rw [yD,af,Vj];rfl
theorem atL {a b c d:Int}{k:Int->Int->Option α}:oh α a b c d k=k (NH b d) (NH a c):=by rw [oh,af,Xw];rfl
def D9 (A:Ask)(st:Bool)(a b c d:Int):Q6 × Int:=
 if st=true then (if LJ A=true then ((a,b,0,0,NH b 0,NH a 0),0) else ((a,b,0,0,0,0),0))
 else (if LJ A=true then ((a,b,c,d,NH b d,NH a c),0) else ((a,b,c,d,0,0),0))
def z6:Q6:=(0,0,0,0,0,0)
def gG (A:Ask):Q6 × Int:=
 if ckA A=0 then
  bnd (eH A false 0) fun r e1=>bnd (eH A true e1) fun t e2=>bnd (ck A (A.ls.length+1) e2) fun l e3=>
  iX (jt e3 l) fun ul uh _ _ e4=>bnd (ck A 0 e4) fun f e5=>iX (jt e5 f) fun fl fh _ _ e6=>
  zw (bH A (A.ls.length+1) e6) fun _ st e7=>
  if e7=0 then
   if fl<=0 then (z6,9) else
   kI (np r) fun bl bh e8=>if e8=0 then
    kI (np t) fun tl th e9=>if e9=0 then
     D9 A st (ip bl) (ip bh) (ip (dnI (w64 (pos ul*tl)) fh)) (ip (upI (w64 (pos uh*th)) fl))
    else (z6,e9)
   else (z6,e8)
  else (z6,e7)
 else (z6,ckA A)
theorem qZ {β:Type}{u:Bl × Int}{f g:Bl->Int->β}(h:∀ a e,f a e=g a e):bnd u f=bnd u g:=by rw [aP,aP,h]
theorem PC {β:Type}{u:Q4 × Int}{f g:Int->Int->Int->Int->Int->β}(h:∀ a b c d e,f a b c d e=g a b c d e):iX u f=iX u g:=by rw [cT,cT,h]
theorem Cg {β:Type}{u:Int × Int × Int}{f g:Int->Int->Int->β}(h:∀ a b c,f a b c=g a b c):kI u f=kI u g:=by rw [kr,kr,h]
theorem O5 {β:Type}{u:Bl × Bool × Int}{f g:Bl->Bool->Int->β}(h:∀ a b c,f a b c=g a b c):zw u f=zw u g:=by rw [fq,fq,h]
theorem aqq {e:Int}{a:Bl}(h:0 < (jt e a).1.1):(jt e a).1.2.1 ≠ 0:=by
 have g:=a.bd;unfold jt at *;by_cases c:e=0
 ·rw [if_pos c] at *
  unfold Bl.lo1 at h;show a.hi1 ≠ 0;unfold Bl.hi1;have h':0 < a.b.1 - a.b.2.2:=h;omega
 ·rw [if_neg c] at *
  exact absurd h (Int.lt_irrefl 0)
theorem afF {β:Type}{e:Int}{a:Bl}{f g:Int->Int->Int->Int->Int->β}(h:∀ x y c d e,(0 < x->y ≠ 0)->f x y c d e=g x y c d e):iX (jt e a) f=iX (jt e a) g:=by
 rw [cT,cT];exact h _ _ _ _ _ aqq
theorem aw3 (A:Ask)(hA:A.ls.length<=40){st:Bool}{a b c d:Int}{k:Int->Int->Int->Int->Int->Int->Int->Option α} :
  o3 α st (ou α A.ix (A.ls.map rL) A.oi A.ol fun x=>cK x (oh α a b 0 0 fun x82 x83=>k a b 0 0 x82 x83 0) (k a b 0 0 0 0 0))
   (ou α A.ix (A.ls.map rL) A.oi A.ol fun x=>cK x (oh α a b c d fun x85 x86=>k a b c d x85 x86 0) (k a b c d 0 0 0))=KS k (D9 A st a b c d):=by
 simp only [o3,af,Gi,an3 A hA,atL,aq,al];unfold D9;simp only [apply_ite (KS k),aA2];simp only [rq]
theorem as6 (A:Ask){k:Int->Int->Int->Int->Int->Int->Int->Option α} :
  BB α A.ix A.s1 A.s2 A.pol A.w1 A.w2 (A.ls.map rL) A.oi A.ol k=KS k (gG A):=by
 simp only [BB,af,Qa,Ia,af,U4,afH,bj];unfold gG;by_cases c:ckA A=0
 ·rw [if_pos c,if_pos c]
  obtain⟨_,_,_,hw,hA,_⟩:=j0 c;have hw':=Jr hw;have h1:A.w1 ≠ 0:=by omega
  have h2:A.w2 ≠ 0:=by omega
  have hww:w64 ((A.ls.length:Int)+1)=((A.ls.length+1:Nat):Int):=by rw [aj (by omega) (by omega)];omega
  have hl:A.ls.length+1 < 1000000:=by omega
  have h0:∀ (e:Int) (k:Nat->Nat->Int->Int->Option α),js α e A.ix A.s1 A.s2 A.pol (A.ls.map rL) A.oi A.ol 0 k=bnd (ck A 0 e) fun u e=>k u.n1 u.n2 u.r e:=fun e k=>wB A (n:=0) (by decide) e;simp only [List.length_map,hww,h0,anC A _ hA h1 h2,wB A hl,KA A hl,Jb,gx (KS k),pZ (KS k),xn (KS k)];refine qZ fun r e1=>qZ fun t e2=>qZ fun l e3=>PC fun ul uh _ _ e4=>qZ fun f e5=>afF fun fl fh _ _ e6 hf=>O5 fun _ st e7=>?_;by_cases c7:e7=0
  ·rw [if_pos c7,if_pos c7,aJ]
   by_cases cf:fl<=0
   ·rw [if_pos cf,if_pos cf];rfl
   ·rw [if_neg cf,if_neg cf,Zk,yv (KS k)]
    refine Cg fun bl bh e8=>?_;by_cases c8:e8=0
    ·rw [if_pos c8,if_pos c8,Zk,yv (KS k)]
     refine Cg fun tl th e9=>?_;by_cases c9:e9=0
     ·rw [if_pos c9,if_pos c9,SC,Xe,vG (hf (by omega)),ug (by omega),Xe]
      exact aw3 A hA
     ·rw [if_neg c9,if_neg c9];rfl
    ·rw [if_neg c8,if_neg c8];rfl
  ·rw [if_neg c7,if_neg c7];rfl
 ·rw [if_neg c,if_neg c];rfl
end Go.AM.K

namespace Go.AM.K
set_option linter.unusedVariables false
set_option linter.unusedSimpArgs false
theorem azd (a:Bl):(0<=(np a).1/\(np a).1<=8589934592)/\0<=(np a).2.1/\(np a).2.1<=34359738368:=by
 have g:=a.bd;have d:=a.dn_bd;have u:=a.up_bd;show (0<=a.eLo/\a.eLo<=8589934592)/\0<=a.eHi/\a.eHi<=34359738368;unfold Bl.eLo Bl.eHi cdv;simp only [];have hz:∀ z B:Int,0<=z->z<=B->0<=z*z/\z*z<=B*B:=fun z B h1 h2=>
  ⟨Int.mul_nonneg h1 h1,Int.mul_le_mul h2 h2 h1 (by omega)⟩
 have h1:=hz (if a.dn - a.b.2.2 > 0 then a.dn - a.b.2.2 else 0) 94906265 (by split <;> omega) (by split <;> omega);have h2:=hz (a.up+a.b.2.2) 162015130 (by omega) (by omega);generalize (if a.dn - a.b.2.2 > 0 then a.dn - a.b.2.2 else 0)=z1 at *;generalize a.up+a.b.2.2=z2 at *;generalize z1*z1=y1 at *;generalize z2*z2=y2 at *;omega
theorem ON {x:Int}(h:x<=134217728):0<=pos x/\pos x<=134217728:=by unfold pos;split <;> omega
end Go.AM.K

namespace Go.AM.K
set_option linter.unusedVariables false
set_option linter.unusedSimpArgs false
variable {α:Type}
structure Dm where
 sh:Int
 pol:Int
 ix:Int
 s1:Int
 s2:Int
 w1:Int
 w2:Int
 lo:Int
 hi:Int
abbrev rD (d:Dm):List DC:=[.v (.int .i64 d.sh),.v (.int .i64 d.pol),.v (.int .i64 d.ix),.v (.int .i64 d.s1),.v (.int .i64 d.s2),.v (.int .i64 d.w1),.v (.int .i64 d.w2),.v (.int .i64 d.lo),.v (.int .i64 d.hi)]
theorem oO {ds:List Dm}{i:Nat}{d:Dm}(h:ds[i]?=some d){f:Int->Int->Int->Int->Int->Int->Int->Int->Int->Option α} :
  dE (ds.map rD) (i:Int) [.int .i64,.int .i64,.int .i64,.int .i64,.int .i64,.int .i64,.int .i64,.int .i64,.int .i64] f=f d.sh d.pol d.ix d.s1 d.s2 d.w1 d.w2 d.lo d.hi:=by
 refine (oH (r:=rD d) ?_).trans rfl;rw [List.getElem?_map,h];rfl
theorem ry {n lo hi:Int}{k:Bool->Option α}:iD α n lo hi k=k (decide (lo<=n/\n<=hi)):=by
 simp only [iD,af,aiF];by_cases h:lo<=n
 ·rw [decide_eq_true h,aq]
  by_cases h2:n<=hi
  ·rw [decide_eq_true h2,decide_eq_true ⟨h,h2⟩]
  ·rw [decide_eq_false h2,decide_eq_false (fun q=>h2 q.2)]
 ·rw [decide_eq_false h,al,decide_eq_false (fun q=>h q.1)]
theorem CW {p q:Prop}[Decidable p][Decidable q]{k:Bool->Option α}:cK (decide p) (k (decide q)) (k false)=k (decide (p/\q)):=by
 by_cases h:p
 ·rw [decide_eq_true h,aq]
  by_cases h2:q
  ·rw [decide_eq_true h2,decide_eq_true ⟨h,h2⟩]
  ·rw [decide_eq_false h2,decide_eq_false (fun q=>h2 q.2)]
 ·rw [decide_eq_false h,al,decide_eq_false (fun q=>h q.1)]
theorem akf {p q:Prop}[Decidable p][Decidable q]{k:Bool->Option α}:cK (!decide p) (k true) (k (!decide q))=k (!decide (p/\q)):=by
 by_cases h:p
 ·rw [decide_eq_true h,Bool.not_true,al]
  by_cases h2:q
  ·rw [decide_eq_true h2,decide_eq_true ⟨h,h2⟩]
  ·rw [decide_eq_false h2,decide_eq_false (fun q=>h2 q.2)]
 ·rw [decide_eq_false h,Bool.not_false,aq,decide_eq_false (fun q=>h q.1),Bool.not_false]
theorem Sr {a b lo hi:Int}{k:Bool->Option α}:yQ α a b lo hi k=k (decide ((lo<=a/\a<=hi)/\lo<=b/\b<=hi)):=by
 simp only [yQ,af,UK,ry,CW]
theorem aoe {a b:Int}{k:Bool->Option α}:DP α a b k=k (decide ((0<=a/\a<=2)/\0<=b/\b<=1)):=by
 simp only [DP,af,Uv,ry,CW]
theorem abj {a b c:Int}{k:Bool->Option α}:nQ α a b c k=k (!decide ((5000<=a/\a<=80000)/\(0<=b/\b<=9999)/\0<=c/\c<=9999)):=by
 simp only [nQ,af,Gk,ry,Sr,akf]
theorem aaW {a b:Int}{k:Bool->Option α}:nN α a b k=k (!decide ((0<=a/\a<=10000)/\0<=b/\b<=10000)):=by
 simp only [nN,af,HG,ry,akf]
def ckD (d:Dm):Int:=
 if (0<=d.sh/\d.sh<=2)/\0<=d.pol/\d.pol<=1 then
  if (5000<=d.ix/\d.ix<=80000)/\(0<=d.s1/\d.s1<=9999)/\0<=d.s2/\d.s2<=9999 then
   if d.s2 < d.s1 then 10 else
   if (1000<=d.w1/\d.w1<=200000)/\1000<=d.w2/\d.w2<=200000 then
    if d.w2 < d.w1 then 10 else
    if (0<=d.lo/\d.lo<=10000)/\0<=d.hi/\d.hi<=10000 then (if d.hi < d.lo then 24 else 0) else 2
   else 2
  else 2
 else 11
theorem atP (d:Dm){k:Int->Option α}:Bs α d.sh d.pol d.ix d.s1 d.s2 d.w1 d.w2 d.lo d.hi k=k (ckD d):=by
 simp only [Bs,af,Xs,aoe,abj,aaW,Sr,cL,aJ];unfold ckD;by_cases c1:(0<=d.sh/\d.sh<=2)/\0<=d.pol/\d.pol<=1
 ·rw [if_pos c1,if_pos c1]
  by_cases c2:(5000<=d.ix/\d.ix<=80000)/\(0<=d.s1/\d.s1<=9999)/\0<=d.s2/\d.s2<=9999
  ·rw [if_pos c2,if_pos c2]
   by_cases c3:d.s2 < d.s1
   ·rw [if_pos c3,if_pos c3]
   ·rw [if_neg c3,if_neg c3]
    by_cases c4:(1000<=d.w1/\d.w1<=200000)/\1000<=d.w2/\d.w2<=200000
    ·rw [if_pos c4,if_pos c4]
     by_cases c5:d.w2 < d.w1
     ·rw [if_pos c5,if_pos c5]
     ·rw [if_neg c5,if_neg c5]
      by_cases c6:(0<=d.lo/\d.lo<=10000)/\0<=d.hi/\d.hi<=10000
      ·rw [if_pos c6,if_pos c6]
       by_cases c7:d.hi < d.lo
       ·rw [if_pos c7,if_pos c7]
       ·rw [if_neg c7,if_neg c7]
      ·rw [if_neg c6,if_neg c6]
    ·rw [if_neg c4,if_neg c4]
  ·rw [if_neg c2,if_neg c2]
 ·rw [if_neg c1,if_neg c1]
theorem PN {d:Dm}(h:ckD d=0):((0<=d.sh/\d.sh<=2)/\0<=d.pol/\d.pol<=1)/\((5000<=d.ix/\d.ix<=80000)/\(0<=d.s1/\d.s1<=9999)/\0<=d.s2/\d.s2<=9999)/\¬ d.s2 < d.s1 /\
  ((1000<=d.w1/\d.w1<=200000)/\1000<=d.w2/\d.w2<=200000)/\¬ d.w2 < d.w1/\((0<=d.lo/\d.lo<=10000)/\0<=d.hi/\d.hi<=10000)/\¬ d.hi < d.lo:=by
 unfold ckD at h;by_cases c1:(0<=d.sh/\d.sh<=2)/\0<=d.pol/\d.pol<=1
 ·rw [if_pos c1] at h
  by_cases c2:(5000<=d.ix/\d.ix<=80000)/\(0<=d.s1/\d.s1<=9999)/\0<=d.s2/\d.s2<=9999
  ·rw [if_pos c2] at h
   by_cases c3:d.s2 < d.s1
   ·rw [if_pos c3] at h;cases h
   ·rw [if_neg c3] at h
    by_cases c4:(1000<=d.w1/\d.w1<=200000)/\1000<=d.w2/\d.w2<=200000
    ·rw [if_pos c4] at h
     by_cases c5:d.w2 < d.w1
     ·rw [if_pos c5] at h;cases h
     ·rw [if_neg c5] at h
      by_cases c6:(0<=d.lo/\d.lo<=10000)/\0<=d.hi/\d.hi<=10000
      ·rw [if_pos c6] at h
       by_cases c7:d.hi < d.lo
       ·rw [if_pos c7] at h;cases h
       ·exact⟨c1,c2,c3,c4,c5,c6,c7⟩
      ·rw [if_neg c6] at h;cases h
    ·rw [if_neg c4] at h;cases h
  ·rw [if_neg c2] at h;cases h
 ·rw [if_neg c1] at h;cases h
def dsE:List Dm->Int
 | []=>0
 | d::ds=>if ckD d=0 then dsE ds else ckD d
theorem ax2 {ds:List Dm}(hA:ds.length<=8){k1:Int->Int->Option α}{k2:Int->Bool->Option α}{Y:Option α}{K:Int->Option α}(h1:∀ x e,k1 x e=K e)(h2:∀ x b,k2 x b=Y) :
  ∀ (rest:List Dm) (i n:Nat),ds.drop i=rest->i<=ds.length->rest.length < n ->
  qK α (ds.map rD) (ds.length:Int) k1 k2 n (i:Int)=if dsE rest=0 then Y else K (dsE rest):=by
 intro rest
 induction rest with
 | nil=>
  intro i n hd hi hn;obtain⟨n,rfl⟩:∃ n',n=n'+1:=⟨n - 1,by simp only [List.length_nil] at hn;omega⟩
  have hl:ds.length<=i:=List.drop_eq_nil_iff.1 hd;rw [qK];simp only [vo];rw [decide_eq_false (by omega),al,h2];rfl
 | cons d rs ih=>
  intro i n hd hi hn;obtain⟨n,rfl⟩:∃ n',n=n'+1:=⟨n - 1,by omega⟩
  have hl:i < ds.length:=by
   by_cases h:i < ds.length
   ·exact h
   ·rw [List.drop_eq_nil_of_le (by omega)] at hd;cases hd
  have hg:ds[i]?=some d:=by
   have:=congrArg List.head? hd;rw [List.head?_drop] at this;exact this
  have hd':ds.drop (i+1)=rs:=by
   have:=congrArg List.tail hd;rw [List.tail_drop] at this;exact this
  have hw:w64 ((i:Int)+1)=((i+1:Nat):Int):=by rw [aj (by omega) (by omega)];omega
  have hn':rs.length < n:=by simp only [List.length_cons] at hn;omega
  rw [qK];simp only [vo];rw [decide_eq_true (by omega),aq,oO hg,atP,bj,h1,hw,ih (i+1) n hd' (by omega) hn'];show _=if (if ckD d=0 then dsE rs else ckD d)=0 then Y else K (if ckD d=0 then dsE rs else ckD d);by_cases c:ckD d=0
  ·rw [if_pos c,if_pos c]
  ·rw [if_neg c,if_neg c,if_neg c]
def dms (ds:List Dm):Int:=if ds.length=0 then 12 else if 8 < ds.length then 8 else dsE ds
theorem axL {ds:List Dm}{k:Int->Option α}:GT α (ds.map rD) (fun _ e=>k e)=k (dms ds):=by
 simp only [GT,af,OQ,List.length_map,gw,aJ];unfold dms;by_cases c1:ds.length=0
 ·rw [if_pos (by omega),if_pos c1]
 ·rw [if_neg (by omega),if_neg c1]
  by_cases c2:8 < ds.length
  ·rw [if_pos (by omega),if_pos c2]
  ·rw [if_neg (by omega),if_neg c2,Ah,af,NL]
   have hf:ds.length < aG:=by have:=bF;omega
   refine (ax2 (K:=k) (by omega) (fun _ _=>rfl) (fun _ _=>rfl) ds 0 aG rfl (Nat.zero_le _) hf).trans ?_;by_cases c:dsE ds=0
   ·rw [if_pos c,c]
   ·rw [if_neg c]
def jL (d:Dm)(ls:List L5)(oi ol:Int):Ask:=⟨d.ix,d.s1,d.s2,d.pol,d.w1,d.w2,ls,oi,ol⟩
theorem alt {d:Dm}{ds:List Dm}{ls:List L5}{oi ol:Int}{k:Int->Option α} :
  za α ((d::ds).map rD) (ls.map rL) oi ol (fun _ e=>k e)=k (if dms (d::ds)=0 then ckA (jL d ls oi ol) else dms (d::ds)):=by
 simp only [za,af,Pz];refine (axL (k:=fun e=>_)).trans ?_;rw [bj];by_cases c:dms (d::ds)=0
 ·rw [if_pos c,if_pos c]
  refine (oO (i:=0) (d:=d) rfl).trans ?_;refine (oO (i:=0) (d:=d) rfl).trans ?_;rw [F9,af,OG,Fy,af,OE];exact afH (jL d ls oi ol)
 ·rw [if_neg c,if_neg c]
def azs (d:Dm)(ds:List Dm)(ls:List L5)(oi ol:Int):Int:=if dms (d::ds)=0 then ckA (jL d ls oi ol) else dms (d::ds)
def atF (s:Int)(q:Q6):Int × Int:=if s=2 then (q.2.2.2.2.1,q.2.2.2.2.2) else if s=1 then (q.2.2.1,q.2.2.2.1) else (q.1,q.2.1)
def so (d:Dm)(ls:List L5)(oi ol:Int):(Int × Int) × Int:=
 if (gG (jL d ls oi ol)).2=0 then (atF d.sh (gG (jL d ls oi ol)).1,0) else ((0,0),(gG (jL d ls oi ol)).2)
theorem aww {d:Dm}(hs:0<=d.sh/\d.sh<=2){ls:List L5}{oi ol:Int}{k:Int->Int->Int->Option α} :
  KL α (ls.map rL) oi ol d.sh d.pol d.ix d.w1 d.w2 d.s1 d.s2 k=k (so d ls oi ol).1.1 (so d ls oi ol).1.2 (so d ls oi ol).2:=by
 simp only [KL,af,aiU,Fy,af,OE];refine (as6 (jL d ls oi ol)).trans ?_;unfold KS so atF;generalize gG (jL d ls oi ol)=q;show cK (q.2 != 0) (k 0 0 q.2) (cK (d.sh == 2) (k q.1.2.2.2.2.1 q.1.2.2.2.2.2 0) (cK (d.sh == 1) (k q.1.2.2.1 q.1.2.2.2.1 0) (cK (d.sh == 0) (k q.1.1 q.1.2.1 0) none)))=_;rw [bj];by_cases c:q.2=0
 ·simp only [if_pos c]
  by_cases c2:d.sh=2
  ·simp only [if_pos c2]
   rw [beq_iff_eq.2 c2,aq]
  ·simp only [if_neg c2]
   rw [beq_eq_false_iff_ne.2 c2,al];by_cases c1:d.sh=1
   ·simp only [if_pos c1]
    rw [beq_iff_eq.2 c1,aq]
   ·simp only [if_neg c1]
    rw [beq_eq_false_iff_ne.2 c1,al,beq_iff_eq.2 (show d.sh=0 by omega),aq]
 ·simp only [if_neg c]
end Go.AM.K

namespace Go.AM.K
set_option linter.unusedVariables false
set_option linter.unusedSimpArgs false
variable {α:Type}
def eK (d:Dm)(ls:List L5)(oi ol:Int):Int:=
 if (so d ls oi ol).2=0 then
  if w64 (d.lo*1048576)<=w64 ((so d ls oi ol).1.1*10000)/\w64 ((so d ls oi ol).1.2*10000)<=w64 (d.hi*1048576) then 2 else
  if w64 ((so d ls oi ol).1.2*10000) < w64 (d.lo*1048576) then 0 else if w64 (d.hi*1048576) < w64 ((so d ls oi ol).1.1*10000) then 0 else 1
 else 1
theorem ayd {a b c d:Int}{k:Bool->Option α}:wp α a b c d k=k (decide (c<=a/\b<=d)):=by
 rw [wp,af,LN];exact CW
theorem Pm {d:Dm}(hs:0<=d.sh/\d.sh<=2){ls:List L5}{oi ol:Int}{k:Int->Option α} :
  fv α (ls.map rL) oi ol d.sh d.pol d.ix d.lo d.hi d.w1 d.w2 d.s1 d.s2 k=k (eK d ls oi ol):=by
 simp only [fv,af,ahS];rw [aww hs];unfold eK;generalize so d ls oi ol=u;simp only [ayd];rw [bj,aJ,aJ,aJ];by_cases c:u.2=0
 ·rw [if_pos c,if_pos c]
  by_cases c1:w64 (d.lo*1048576)<=w64 (u.1.1*10000)/\w64 (u.1.2*10000)<=w64 (d.hi*1048576)
  ·rw [if_pos c1,if_pos c1]
  ·rw [if_neg c1,if_neg c1]
   by_cases c2:w64 (u.1.2*10000) < w64 (d.lo*1048576)
   ·rw [if_pos c2,if_pos c2]
   ·rw [if_neg c2,if_neg c2]
    by_cases c3:w64 (d.hi*1048576) < w64 (u.1.1*10000)
    ·rw [if_pos c3,if_pos c3]
    ·rw [if_neg c3,if_neg c3]
 ·rw [if_neg c,if_neg c]
end Go.AM.K
