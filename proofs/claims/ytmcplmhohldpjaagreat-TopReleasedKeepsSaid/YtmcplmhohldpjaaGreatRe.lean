/- Printed by KGen. -/
import Derived.Test.YtmcplmhohldpjaaGreatRd
namespace Go.AM.K
open Go.Proofs
set_option maxRecDepth 100000
set_option linter.unusedVariables false
noncomputable section
def Sq:SG:=[(22,[.sl]),(30,iT),(45,[.cpx .f64,.int .i64]),(51,[.cpx .f64,.int .i64,.cpx .f64,.int .i64,.cpx .f64,.int .i64,.cpx .f64,.int .i64]),(53,[.cpx .f64,.int .i64]),(54,[.cpx .f64,.int .i64]),(57,[.cpx .f64,.int .i64,.cpx .f64,.int .i64,.cpx .f64,.int .i64,.cpx .f64,.int .i64]),(58,[.cpx .f64,.int .i64])]
def arY:TG:=[tT 0 [0,1,4,5],tT 1 [0,1,4,5,6,7],tT 2 [0,1,4,5,6,7,8],tT 3 [0,1,4,5,6,7,8,32],tT 5 [0,1,4,5,6,7,8,9],tT 6 [0,1,4,5,6,7,8,9,10],tT 7 [0,1,4,5,6,7,8,9,10,41],tT 8 [0,1,4,5,6,7,8,9,10],tT 9 [0,1,4,5,6,7,8],tT 4 [0,1,4,5,6,7,8],tT 10 [0,4,5]]
def atR:TG:=[tT 3 [0,1,4,5,6,7,8]]
def VW:au:=aD Pg Tryz.f74 arY atR
def zY:OT:=tdC (ag.sub [1,1,0,1,0] (emb VW))
def yV:PT St:=pSv [(0,500000000,0)] [sl 0 (aV false [(gn 500000000 0)]),sY 1 dB,sP 4,sP 5,sP 6,sP 7,sI 8,sP 9,sP 10] [aB 500000000 [xI,xI,xI,xI,xI,xI,xI,(cD dL),xI,xI],aB 4 [(cD (dX .f64)),xI,(cD (dX .f64)),xI,(cD (dX .f64)),xI,(cD (dX .f64)),xI],aB 5 [(cD (dX .f64)),xI],aB 6 [(cD (dX .f64)),xI,(cD (dX .f64)),xI,(cD (dX .f64)),xI,(cD (dX .f64)),xI],aB 7 [(cD (dX .f64)),xI],aB 9 [(cD (dX .f64)),xI],aB 10 [(cD (dX .f64)),xI]]
def afK {β:Type}(g:St->β):Bool->Int->Int->Int->Int->Int->Int->Int->Int->ae->Int->Int->Nat->Nat->Int->Nat->Nat->Int->Nat->Nat->Int->Nat->Nat->Int->Nat->Nat->Int->Nat->Nat->Int->Nat->Nat->Int->Nat->Nat->Int->Nat->Nat->Int->Nat->Nat->Int->Nat->Nat->Int->Nat->Nat->Int->β:=yV.unc g
def aej:PT St:=pSv [(0,500000000,0)] [sl 0 (aV false [(gn 500000000 0)]),sY 1 dB,sP 4,sP 5,sP 6,sP 7,sI 8,sP 9,sP 10,sY 41 dB] [aB 500000000 [xI,xI,xI,xI,xI,xI,xI,(cD dL),xI,xI],aB 4 [(cD (dX .f64)),xI,(cD (dX .f64)),xI,(cD (dX .f64)),xI,(cD (dX .f64)),xI],aB 5 [(cD (dX .f64)),xI],aB 6 [(cD (dX .f64)),xI,(cD (dX .f64)),xI,(cD (dX .f64)),xI,(cD (dX .f64)),xI],aB 7 [(cD (dX .f64)),xI],aB 9 [(cD (dX .f64)),xI],aB 10 [(cD (dX .f64)),xI]]
def agC {β:Type}(g:St->β):Bool->Int->Bool->Int->Int->Int->Int->Int->Int->Int->ae->Int->Int->Nat->Nat->Int->Nat->Nat->Int->Nat->Nat->Int->Nat->Nat->Int->Nat->Nat->Int->Nat->Nat->Int->Nat->Nat->Int->Nat->Nat->Int->Nat->Nat->Int->Nat->Nat->Int->Nat->Nat->Int->Nat->Nat->Int->β:=aej.unc g
def Fo:PT St:=pSv [(0,500000000,0)] [sl 0 (aV false [(gn 500000000 0)]),sY 1 dB,sP 4,sP 5,sP 6,sP 7,sI 8] [aB 500000000 [xI,xI,xI,xI,xI,xI,xI,(cD dL),xI,xI],aB 4 [(cD (dX .f64)),xI,(cD (dX .f64)),xI,(cD (dX .f64)),xI,(cD (dX .f64)),xI],aB 5 [(cD (dX .f64)),xI],aB 6 [(cD (dX .f64)),xI,(cD (dX .f64)),xI,(cD (dX .f64)),xI,(cD (dX .f64)),xI],aB 7 [(cD (dX .f64)),xI]]
def E8 {β:Type}(g:St->β):Bool->Int->Int->Int->Int->Int->Int->Int->Int->ae->Int->Int->Nat->Nat->Int->Nat->Nat->Int->Nat->Nat->Int->Nat->Nat->Int->Nat->Nat->Int->Nat->Nat->Int->Nat->Nat->Int->Nat->Nat->Int->Nat->Nat->Int->Nat->Nat->Int->β:=Fo.unc g
def abI:PT St:=pSv [(0,500000000,0)] [sl 0 (aV false [(gn 500000000 0)]),sY 1 dB,sP 4,sP 5,sP 6,sP 7,sI 8,sY 32 dB] [aB 500000000 [xI,xI,xI,xI,xI,xI,xI,(cD dL),xI,xI],aB 4 [(cD (dX .f64)),xI,(cD (dX .f64)),xI,(cD (dX .f64)),xI,(cD (dX .f64)),xI],aB 5 [(cD (dX .f64)),xI],aB 6 [(cD (dX .f64)),xI,(cD (dX .f64)),xI,(cD (dX .f64)),xI,(cD (dX .f64)),xI],aB 7 [(cD (dX .f64)),xI]]
def yO {β:Type}(g:St->β):Bool->Int->Bool->Int->Int->Int->Int->Int->Int->Int->ae->Int->Int->Nat->Nat->Int->Nat->Nat->Int->Nat->Nat->Int->Nat->Nat->Int->Nat->Nat->Int->Nat->Nat->Int->Nat->Nat->Int->Nat->Nat->Int->Nat->Nat->Int->Nat->Nat->Int->β:=abI.unc g
def YN:PT (List RV):=pRs [pR true [rD (dX .f64),rD (dI .i64),rD (dX .f64),rD (dI .i64),rD (dX .f64),rD (dI .i64),rD (dX .f64),rD (dI .i64)],pR true [rD (dX .f64),rD (dI .i64)],pR true [rD (dI .i64),rD (dI .i64),rD (dI .i64),rD (dI .i64),rD (dI .i64),rD (dI .i64),rD (dI .i64),rD dL,rD (dI .i64),rD (dI .i64)]]
def TE {β:Type}(g:List RV->β):Nat->Nat->Int->Nat->Nat->Int->Nat->Nat->Int->Nat->Nat->Int->Nat->Nat->Int->Int->Int->Int->Int->Int->Int->Int->ae->Int->Int->β:=YN.unc g
noncomputable abbrev aiZ:List bz:=⟨125,95,[⟨qm,PG we⟩]⟩::alK
theorem aqM:bF aiZ fun c=>bF c.l (al Pg c.f c.nt):=⟨⟨afN,TT⟩,am3⟩
def R2:aE:=aE.ofIO aiZ bD io0
theorem arA:R2.Ok Pg:=aE.ofIO_ok aO aqM
def WV:ag:=ag.sub [1,1,0,1,0,0,1,0,0,1,1,0] (emb VW)
abbrev Hv:Type 1:=(α:Type)->Bool->Int->Int->Int->Int->Int->Int->Int->ae->Int->Int->Nat->Nat->Int->(Int->Nat->Nat->Int->Op α)->(Op α)->Op α
def Hl (α:Type)(a:Bool)(b c d e g h i:Int)(j:ae)(l m:Int)(o p:Nat)(q:Int)(k1:Int->Nat->Nat->Int->Op α)(k2:Op α):Op α:=
 cK a
 (we α c d e g h i j l m b 1
 (fun r s t w=>eC α w o p q r s t
 (fun z A B C=>k1 C z A B)))
 (k2)
def tC:Hv:=sld Hl
def EX (v:Hv)(α:Type)(K:KT α):Bool->Int->Int->Int->Int->Int->Int->Int->Int->ae->Int->Int->Nat->Nat->Int->Nat->Nat->Int->Nat->Nat->Int->Nat->Nat->Int->Nat->Nat->Int->Nat->Nat->Int->Nat->Nat->Int->Nat->Nat->Int->Nat->Nat->Int->Nat->Nat->Int->Nat->Nat->Int->Nat->Nat->Int->Op α:=fun a b m c d e o g h i j l p q r s t w z A B C D F G H I J L M N O P Q R T U V W X Y Z a0 a1 a2 a3 a4 a5=>v α a b m c d e g h i j l X Y Z (fun a6 a7 a8 a9=>afK (K .normal) a b a6 c d e o g h i j l p q r s t w z A B C D F G H I J L M N O P Q R T U V W a7 a8 a9 a0 a1 a2 a3 a4 a5) (agC (K .normal) a b a m c d e o g h i j l p q r s t w z A B C D F G H I J L M N O P Q R T U V W X Y Z a0 a1 a2 a3 a4 a5)
theorem afd:∀ (α:Type) (K:KT α),EX tC α K=yV.unc fun σ=>aF Pg R2 Sq WV K σ:=bM (fun α K=>by kernel_rfl)
def yy:ag:=ag.sub [1,1,0,1,0,0] (ag.put (.m [⟨yV,EX tC⟩]) [1,1,0,1,0,0,1,0,0,1,1] (emb VW))
def tU (α:Type)(P:Bool)(z A B Q F G:Int)(c:ae)(C D a b:Int)(d e:Nat)(g:Int)(h i:Nat)(j:Int)(l m:Nat)(o:Int)(p q:Nat)(r:Int)(s t:Nat)(w:Int)(kn:Int->Int->Nat->Nat->Int->Nat->Nat->Int->Nat->Nat->Int->Nat->Nat->Int->Nat->Nat->Int->Op α)(k1:Int->Bool->Int->Nat->Nat->Int->Nat->Nat->Int->Nat->Nat->Int->Nat->Nat->Int->Nat->Nat->Int->Op α):Op α:=
 cK (decide (a<=((List.length c:Nat):Int)))
 (cK (b == 0)
 (nv α b z A B Q c C D a
 (fun H I J R=>we α R z A B F G c C D a 2
 (fun L M N O=>tC α P a O z A B F G c C D s t w
 (fun T U V W=>vu α T H I J L M N
 (fun X Y Z a0 a1 a2 a3 a4 a5 a6 a7 a8 a9=>v5 α a9 d e g h i j l m o p q r X Y Z a0 a1 a2 a3 a4 a5 a6 a7 a8
 (fun b0 b1 b2 b3 b4 b5 b6 b7 b8 b9 c0 c1 c2=>kn (w64 (a+1)) c2 b0 b1 b2 b3 b4 b5 b6 b7 b8 b9 c0 c1 U V W)))
 (vu α O H I J L M N
 (fun c3 c4 c5 c6 c7 c8 c9 d0 d1 d2 d3 d4 d5=>v5 α d5 d e g h i j l m o p q r c3 c4 c5 c6 c7 c8 c9 d0 d1 d2 d3 d4
 (fun d6 d7 d8 d9 e0 e1 e2 e3 e4 e5 e6 e7 e8=>kn (w64 (a+1)) e8 d6 d7 d8 d9 e0 e1 e2 e3 e4 e5 e6 e7 s t w))))))
 (k1 a (b == 0) b d e g h i j l m o p q r s t w))
 (k1 a false b d e g h i j l m o p q r s t w)
def oY (α:Type)(a:Bool)(b c d e g h:Int)(i:ae)(j l:Int)(k1:Int->Bool->Int->Nat->Nat->Int->Nat->Nat->Int->Nat->Nat->Int->Nat->Nat->Int->Nat->Nat->Int->Op α):Nat->Int->Int->Nat->Nat->Int->Nat->Nat->Int->Nat->Nat->Int->Nat->Nat->Int->Nat->Nat->Int->Op α
 | 0=>fun _ _ _ _ _ _ _ _ _ _ _ _ _ _ _ _ _=>none
 | n+1=>fun m o p q r s t w z A B C D F G H I=>tU α a b c d e g h i j l m o p q r s t w z A B C D F G H I (oY α a b c d e g h i j l k1 n) k1
def HE (α:Type)(a:Bool)(b c d e g h:Int)(i:ae)(j l:Int)(k1:Int->Bool->Int->Nat->Nat->Int->Nat->Nat->Int->Nat->Nat->Int->Nat->Nat->Int->Nat->Nat->Int->Op α)(m o:Int)(p q:Nat)(r:Int)(s t:Nat)(w:Int)(z A:Nat)(B:Int)(C D:Nat)(F:Int)(G H:Nat)(I:Int):Op α:=oY α a b c d e g h i j l k1 aN m o p q r s t w z A B C D F G H I
abbrev IG:Type 1:=(α:Type)->Bool->Int->Int->Int->Int->Int->Int->ae->Int->Int->(Int->Bool->Int->Nat->Nat->Int->Nat->Nat->Int->Nat->Nat->Int->Nat->Nat->Int->Nat->Nat->Int->Op α)->Int->Int->Nat->Nat->Int->Nat->Nat->Int->Nat->Nat->Int->Nat->Nat->Int->Nat->Nat->Int->Op α
def xN:IG:=sld HE
def N6 (v:IG)(α:Type)(K:KT α):Bool->Int->Int->Int->Int->Int->Int->Int->Int->ae->Int->Int->Nat->Nat->Int->Nat->Nat->Int->Nat->Nat->Int->Nat->Nat->Int->Nat->Nat->Int->Nat->Nat->Int->Nat->Nat->Int->Nat->Nat->Int->Nat->Nat->Int->Nat->Nat->Int->Op α:=fun a m o b c d e g h i j l p q r s t w z A B C D F G H I J L M N O P Q R T U V W X Y Z=>v α a b c d e g h i j l (fun a0 a1 a2 a3 a4 a5 a6 a7 a8 a9 b0 b1 b2 b3 b4 b5 b6 b7=>yO (K (.exit 0)) a a0 a1 a2 b c d e g h i j l p q r s t w z A B C D F G H I a3 a4 a5 a6 a7 a8 a9 b0 b1 b2 b3 b4 b5 b6 b7) m o J L M N O P Q R T U V W X Y Z
theorem ac7 (α:Type)(K:KT α)(Kn:SK α)(a:Bool)(b c d e g h i j:Int)(l:ae)(m o:Int)(J L:Nat)(M:Int)(N O:Nat)(P:Int)(Q R:Nat)(T:Int)(U V:Nat)(W:Int)(X Y:Nat)(Z:Int)(p q:Nat)(r:Int)(s t:Nat)(w:Int)(z A:Nat)(B:Int)(C D:Nat)(F:Int)(G H:Nat)(I:Int):E8 (fun σ=>aF Pg R2 Sq yy (di (fun σ=>bR zY σ Kn) K) σ) a b c d e g h i j l m o J L M N O P Q R T U V W X Y Z p q r s t w z A B C D F G H I=tU α a d e g h i j l m o b c p q r s t w z A B C D F G H I (fun b c p q r s t w z A B C D F G H I=>E8 Kn a b c d e g h i j l m o J L M N O P Q R T U V W X Y Z p q r s t w z A B C D F G H I) (fun a0 a1 a2 a3 a4 a5 a6 a7 a8 a9 b0 b1 b2 b3 b4 b5 b6 b7=>yO (K (.exit 0)) a a0 a1 a2 d e g h i j l m o J L M N O P Q R T U V W X Y Z a3 a4 a5 a6 a7 a8 a9 b0 b1 b2 b3 b4 b5 b6 b7):=by kernel_rfl
theorem acP (α:Type)(K:KT α):∀ (n:Nat) (a:Bool) (m o b c d e g h:Int) (i:ae) (j l:Int) (J L:Nat) (M:Int) (N O:Nat) (P:Int) (Q R:Nat) (T:Int) (U V:Nat) (W:Int) (X Y:Nat) (Z:Int) (p q:Nat) (r:Int) (s t:Nat) (w:Int) (z A:Nat) (B:Int) (C D:Nat) (F:Int) (G H:Nat) (I:Int),oY α a b c d e g h i j l (fun a0 a1 a2 a3 a4 a5 a6 a7 a8 a9 b0 b1 b2 b3 b4 b5 b6 b7=>yO (K (.exit 0)) a a0 a1 a2 b c d e g h i j l J L M N O P Q R T U V W X Y Z a3 a4 a5 a6 a7 a8 a9 b0 b1 b2 b3 b4 b5 b6 b7) n m o p q r s t w z A B C D F G H I=E8 (aS (aF Pg R2 Sq yy) zY K n) a m o b c d e g h i j l J L M N O P Q R T U V W X Y Z p q r s t w z A B C D F G H I:=by
 intro n
 induction n with
 | zero=>intros;rfl
 | succ n ih=>intro a m o b c d e g h i j l J L M N O P Q R T U V W X Y Z p q r s t w z A B C D F G H I;exact (congrArg (fun kn=>tU α a b c d e g h i j l m o p q r s t w z A B C D F G H I kn (fun a0 a1 a2 a3 a4 a5 a6 a7 a8 a9 b0 b1 b2 b3 b4 b5 b6 b7=>yO (K (.exit 0)) a a0 a1 a2 b c d e g h i j l J L M N O P Q R T U V W X Y Z a3 a4 a5 a6 a7 a8 a9 b0 b1 b2 b3 b4 b5 b6 b7)) (funext fun m=>funext fun o=>funext fun p=>funext fun q=>funext fun r=>funext fun s=>funext fun t=>funext fun w=>funext fun z=>funext fun A=>funext fun B=>funext fun C=>funext fun D=>funext fun F=>funext fun G=>funext fun H=>funext fun I=>ih a m o b c d e g h i j l J L M N O P Q R T U V W X Y Z p q r s t w z A B C D F G H I)).trans (ac7 α K (aS (aF Pg R2 Sq yy) zY K n) a m o b c d e g h i j l J L M N O P Q R T U V W X Y Z p q r s t w z A B C D F G H I).symm
theorem ahj:∀ (α:Type) (K:KT α),N6 xN α K=Fo.unc fun σ=>aS (aF Pg R2 Sq yy) zY K aN σ:=bM (fun α K=>funext fun a=>funext fun b=>funext fun c=>funext fun d=>funext fun e=>funext fun g=>funext fun h=>funext fun i=>funext fun j=>funext fun l=>funext fun m=>funext fun o=>funext fun p=>funext fun q=>funext fun r=>funext fun s=>funext fun t=>funext fun w=>funext fun z=>funext fun A=>funext fun B=>funext fun C=>funext fun D=>funext fun F=>funext fun G=>funext fun H=>funext fun I=>funext fun J=>funext fun L=>funext fun M=>funext fun N=>funext fun O=>funext fun P=>funext fun Q=>funext fun R=>funext fun T=>funext fun U=>funext fun V=>funext fun W=>funext fun X=>funext fun Y=>funext fun Z=>acP α K aN a b c d e g h i j l m o p q r s t w z A B C D F G H I J L M N O P Q R T U V W X Y Z)
abbrev abm:Type 1:=(α:Type)->Int->Int->Int->Int->Int->Int->Int->ae->Int->Int->Bool->(Nat->Nat->Int->Nat->Nat->Int->Nat->Nat->Int->Nat->Nat->Int->Nat->Nat->Int->Int->Op α)->Op α
def Z3 (α:Type)(a b c d e g h:Int)(i:ae)(j l:Int)(m:Bool)(k1:Nat->Nat->Int->Nat->Nat->Int->Nat->Nat->Int->Nat->Nat->Int->Nat->Nat->Int->Int->Op α):Op α:=
 mr α
 (Aw α
 (Aw α
 (mr α
 (mr α
 (xN α m b c d e g h i j l
 (fun J L o p q r s t w z A B C D F G H I=>k1 p q r s t w z A B C D F G H I o) 1 a 4697254411347427328 0 0 0 0 0 0 0 0 4697254411347427328 0 0 4697254411347427328 0 0)))))
def HQ:abm:=sld Z3
def Gt:PT (List DV):=pA [pV false [(dMr [(dI .i64),(dI .i64),(dI .i64),(dI .i64),(dI .i64),(dI .i64),(dI .i64),dL,(dI .i64),(dI .i64)] 0)],pV false [dB]]
def abl (v:abm)(α:Type)(k:RT α):Int->Int->Int->Int->Int->Int->Int->ae->Int->Int->Bool->Op α:=fun l a b c d e g h i j m=>v α l a b c d e g h i j m (fun o p q r s t w z A B C D F G H I=>TE k o p q r s t w z A B C D F G H I a b c d e g h i j)
def ajx:ag:=(ag.put (.m [⟨Fo,N6 xN⟩]) [1,1,0,1,0] (ag.put (.m [⟨yV,EX tC⟩]) [1,1,0,1,0,0,1,0,0,1,1] (emb VW)))
theorem ai3:al Pg 74 59 ⟨Gt,abl HQ⟩:=iZ arA (ah Tryz.func74 (by kernel_rfl)) Sq ajx ((aw _ _).trans ((aw _ _).trans (aG _))) (bJ (td:=zY) (by kernel_rfl) (aY (by kernel_rfl) (aM VW) ⟨afd,TT⟩) ⟨ahj,TT⟩) fun _ _=>by kernel_rfl
def asB:SG:=[(26,[.sl]),(34,[.cpx .f64,.int .i64]),(39,[.cpx .f64,.int .i64]),(40,[.cpx .f64,.int .i64]),(47,[.cpx .f64,.int .i64]),(52,[.cpx .f64,.int .i64]),(53,[.cpx .f64,.int .i64]),(59,[.cpx .f64,.int .i64]),(60,[.cpx .f64,.int .i64]),(65,[.cpx .f64,.int .i64]),(66,[.cpx .f64,.int .i64]),(78,[.cpx .f64,.int .i64]),(79,[.cpx .f64,.int .i64]),(81,[.cpx .f64,.int .i64]),(83,[.cpx .f64,.int .i64]),(91,[.cpx .f64,.int .i64]),(92,[.cpx .f64,.int .i64]),(94,[.cpx .f64,.int .i64])]
def arW:TG:=[tT 0 [0,1,4],tT 1 [0,1,4,5],tT 2 [0,1,4,5,6,7],tT 3 [0,1,4,5,6,7,8],tT 4 [0,1,4,5,6,7,8,9],tT 5 [0,1,4,5,7,9,10],tT 6 [0,1,4,5,7,10,11],tT 7 [0,1,4,5,7,10,11,12],tT 8 [0,4,5,7,10,11,12,68],tT 9 [0,4],tT 10 [0,4]]
def aud:au:=aD Pg Tryz.f32 arW aX
noncomputable abbrev amf:List bz:=⟨74,59,[⟨Gt,abl HQ⟩]⟩::aiZ
theorem am6:bF amf fun c=>bF c.l (al Pg c.f c.nt):=⟨⟨ai3,TT⟩,aqM⟩
def arL:aE:=aE.ofIO amf bD io0
theorem ar7:arL.Ok Pg:=aE.ofIO_ok aO am6
abbrev aaE:Type 1:=(α:Type)->Int->Int->Int->Int->Int->Int->Int->ae->Int->Int->Bool->(Nat->Nat->Int->Int->Op α)->Op α
def Wb (α:Type)(G b c d e H I:Int)(a:ae)(g h:Int)(m:Bool)(k1:Nat->Nat->Int->Int->Op α):Op α:=
 nv α G b c d e a g h 0
 (fun i j l J=>HQ α J b c d e H I a g h m
 (fun L M N O P Q R T U V W X Y Z a0 a1=>nv α a1 b c d e a g h (w64 (((List.length a:Nat):Int)+1))
 (fun o p q a2=>eC α a2 O P Q o p q
 (fun a3 a4 a5 a6=>iF α a6 L M N a3 a4 a5
 (fun a7 a8 a9 b0=>eC α b0 V W X o p q
 (fun b1 b2 b3 b4=>iF α b4 R T U b1 b2 b3
 (fun r s t b5=>eC α b5 i j l a7 a8 a9
 (fun w z A b6=>iF α b6 w z A r s t
 (fun B C D F=>cK m
 (iF α F i j l i j l
 (fun b7 b8 b9 c0=>eC α c0 b7 b8 b9 Y Z a0
 (fun c1 c2 c3 c4=>wV α c4 c1 c2 c3 B C D
 (fun c5 c6 c7 c8=>k1 c5 c6 c7 c8))))
 (xp α F w z A r s t
 (fun c9 d0 d1 d2=>wV α d2 c9 d0 d1 B C D
 (fun d3 d4 d5 d6=>k1 d3 d4 d5 d6))))))))))))
def Dl:aaE:=sld Wb
def abz (v:aaE)(α:Type)(k:RT α):Int->Int->Int->Int->Int->Int->Int->ae->Int->Int->Bool->Op α:=fun l a b c d e g h i j m=>v α l a b c d e g h i j m (fun o p q r=>dq k o p q r a b c d e g h i j)
theorem ajG:al Pg 32 96 ⟨Gt,abz Dl⟩:=iP ar7 aud (ah Tryz.func32 (by kernel_rfl)) asB fun _ _=>by kernel_rfl
def ao2:SG:=[(17,[.int .i64,.int .i64,.int .i64,.int .i64,.int .i64,.int .i64,.sl,.int .i64,.int .i64]),(30,[.sl]),(58,iT),(65,iT),(67,iT),(71,[.cpx .f64,.int .i64]),(80,[.cpx .f64,.int .i64]),(88,iS 2),(90,iS 2),(93,iT),(95,iT),(98,iT),(101,iT),(103,iT),(106,iT),(117,iS 2),(119,iS 2),(122,iS 6)]
def asW:TG:=[tT 0 [1,2],tT 1 [1,2,4,5],tT 2 [1,2,4,5,22],tT 3 [2,3],tT 4 [1,2,4,6],tT 5 [1,2,4,6,7],tT 6 [2,4,6,7,8],tT 7 [2,4,6,7,8,9,10],tT 8 [2,4,6,7,9,10,12],tT 9 [2,4,6,7,9,10,12,59],tT 10 [2,3],tT 11 [2,4,6,7,9,10,12,68],tT 12 [2,3],tT 13 [2,4,5,7,9,10,12,13],tT 14 [2,4,5,7,9,10,12,13,76],tT 15 [2,3],tT 16 [2,4,5,9,10,12,13,14],tT 17 [2,4,5,9,10,12,13,14,85],tT 18 [2,3],tT 19 [2,4,9,10,12,13,14],tT 20 [2,4,12,15],tT 21 [2,4,15,111],tT 22 [2,4,15],tT 23 [2,15,115],tT 24 [2,15],tT 25 [2,3]]
def alj:au:=aD Pg Tryz.f12 asW aX
def Ge:PT St:=pS [sP 2,sl 4 (aV false [(gn 18 0)]),sY 12 dB,sP 15] [aB 2 (xs 6),aB 18 [xI,xI,xI,xI,xI,xI,xI,(cD dL),xI,xI],aB 15 (xs 6)]
def aro {β:Type}(g:St->β):Bool->Int->Int->Int->Int->Int->Int->Int->Int->Int->Int->Int->Int->Int->ae->I8 β:=Ge.unc g
def acZ:PT St:=pS [sP 2,sl 4 (aV false [(gn 18 0)]),sP 15] [aB 2 (xs 6),aB 18 [xI,xI,xI,xI,xI,xI,xI,(cD dL),xI,xI],aB 15 (xs 6)]
def aeL {β:Type}(g:St->β):Int->Int->Int->Int->Int->Int->Int->Int->Int->Int->Int->Int->Int->ae->I8 β:=acZ.unc g
def agF:PT St:=pS [sP 2,sl 4 (aV false [(gn 18 0)]),sP 15,sY 111 dB] [aB 2 (xs 6),aB 18 [xI,xI,xI,xI,xI,xI,xI,(cD dL),xI,xI],aB 15 (xs 6)]
def adJ {β:Type}(g:St->β):Bool->Int->Int->Int->Int->Int->Int->Int->Int->Int->Int->Int->Int->Int->ae->I8 β:=agF.unc g
def XM:PT (List RV):=pRs [pR true [rD (dI .i64),rD (dI .i64),rD (dI .i64),rD (dI .i64),rD (dI .i64),rD (dI .i64)],wI]
def Vb {β:Type}(g:List RV->β):I7 β:=XM.unc g
noncomputable abbrev ajt:List bz:=⟨32,96,[⟨Gt,abz Dl⟩]⟩::amf
theorem aoh:bF ajt fun c=>bF c.l (al Pg c.f c.nt):=⟨⟨ajG,TT⟩,am6⟩
def anj:aE:=aE.ofIO ajt bD io0
theorem arM:anj.Ok Pg:=aE.ofIO_ok aO aoh
def YO:ag:=ag.sub [1,1,1,1,1,1,1,1,1,1,1,1,1,1,1,1,0] (emb alj)
abbrev ur:Type 1:=(α:Type)->Bool->(Op α)->(Op α)->Op α
def JF (α:Type)(a:Bool)(k1:Op α)(k2:Op α):Op α:=
 cK a
 (k1)
 (k2)
def uj:ur:=sld JF
def L6 (v:ur)(α:Type)(K:KT α):Bool->Int->Int->Int->Int->Int->Int->Int->Int->Int->Int->Int->Int->Int->ae->I8 (Op α):=fun a b c d e g h i j l m o p q r s t w z C D A B=>v α a (aeL (K .normal) b c d e g h i j l m o p q r s t w z 0 0 A B) (adJ (K .normal) a b c d e g h i j l m o p q r s t w z C D A B)
theorem agR:∀ (α:Type) (K:KT α),L6 uj α K=Ge.unc fun σ=>aF Pg anj ao2 YO K σ:=bM (fun α K=>by kernel_rfl)
abbrev W0:Type 1:=(α:Type)->Int->Int->Int->Int->Int->Int->ae->Int->Int->(I7 (Op α))->Op α
def Ub (α:Type)(b e g j l m:Int)(a:ae)(c d:Int)(k1:I7 (Op α)):Op α:=
 O1 α b e g j l m a c d
 (fun q=>cK (q != 0)
 (k1 0 0 0 0 0 0 q)
 (Dl α 0 b e g j l m a c d false
 (fun z A B C=>Dl α C b e g j l m a c d true
 (fun D F G H=>nv α H b e g j a c d (w64 (((List.length a:Nat):Int)+1))
 (fun I J L M=>wK α M I J L
 (fun N O b2 b3 P=>nv α P b e g j a c d 0
 (fun Q R T U=>wK α U Q R T
 (fun r V b4 b5 W=>Bk α W b e g a c d (w64 (((List.length a:Nat):Int)+1))
 (fun b6 b7 b8 X s=>cK (s != 0)
 (k1 0 0 0 0 0 0 s)
 (cK (decide (r<=0))
 (k1 0 0 0 0 0 0 9)
 (Bw α z A B
 (fun Y Z t=>cK (t != 0)
 (k1 0 0 0 0 0 0 t)
 (Bw α D F G
 (fun a0 a1 w=>cK (w != 0)
 (k1 0 0 0 0 0 0 w)
 (uZ α N O
 (fun a2 a3=>C2 α Y Z
 (fun h i=>nU α (w64 (a2*a0)) V
 (fun a4=>mT α (w64 (a3*a1)) r
 (fun a5=>C2 α a4 a5
 (fun o p=>uj α X
 (xm α b a c d
 (fun a6=>cK a6
 (xb α h i 0 0
 (fun a7 a8=>k1 h i 0 0 a7 a8 0))
 (k1 h i 0 0 0 0 0)))
 (xm α b a c d
 (fun a9=>cK a9
 (xb α h i o p
 (fun b0 b1=>k1 h i o p b0 b1 0))
 (k1 h i o p 0 0 0)))))))))))))))))))))))
def CA:W0:=sld Ub
def TK (v:W0)(α:Type)(k:RT α):Int->Int->Int->Int->Int->Int->ae->Int->Int->Op α:=fun a b c d e g h i j=>v α a b c d e g h i j (fun l m o p q r s=>Vb k l m o p q r s)
def alw:ag:=(ag.put (.m [⟨Ge,L6 uj⟩]) [1,1,1,1,1,1,1,1,1,1,1,1,1,1,1,1] (emb alj))
theorem alI:al Pg 12 123 ⟨wu,TK CA⟩:=iZ arM (ah Tryz.func12 (by kernel_rfl)) ao2 alw ((aw _ _).trans (aG _)) (aY (by kernel_rfl) (aM alj) ⟨agR,TT⟩) fun _ _=>by kernel_rfl
def apU:SG:=[(10,[.sl,.sl,.int .i64,.int .i64]),(12,iS 9),(13,iS 4),(23,iS 2),(25,iS 2),(27,iS 2),(31,iT)]
def anI:TG:=[tT 0 [2,3,4],tT 1 [2,4,6,7],tT 2 [2,4,6,7,19],tT 3 [4,5],tT 4 [4,5]]
def ao5:au:=aD Pg Tryz.f160 anI aX
noncomputable abbrev aly:List bz:=⟨12,123,[⟨wu,TK CA⟩]⟩::ajt
theorem aqb:bF aly fun c=>bF c.l (al Pg c.f c.nt):=⟨⟨alI,TT⟩,aoh⟩
def atd:aE:=aE.ofIO aly bD io0
theorem atc:atd.Ok Pg:=aE.ofIO_ok aO aqb
abbrev Nu:Type 1:=(α:Type)->ae->Int->Int->Int->Int->Int->Int->Int->Int->Int->(Int->Int->Int->Op α)->Op α
def PL (α:Type)(c:ae)(d e a g h i j l m:Int)(k1:Int->Int->Int->Op α):Op α:=
 CY α
 (CA α h l m g i j c d e
 (fun o p q r s t b=>cK (b != 0)
 (k1 0 0 b)
 (cK (a == 2)
 (k1 s t 0)
 (cK (a == 1)
 (k1 q r 0)
 (cK (a == 0)
 (k1 o p 0)
 (none))))))
def By:Nu:=sld PL
def xX:PT (List DV):=pA [pV true [dL,dL,(dI .i64),(dI .i64),(dI .i64),(dI .i64),(dI .i64),(dI .i64),(dI .i64),(dI .i64),(dI .i64),(dI .i64),(dI .i64)],pV true [(dI .i64),(dI .i64),(dI .i64),(dI .i64)]]
def LJ (v:Nu)(α:Type)(k:RT α):ae->ae->I15 (Op α):=fun q a b c d e g r s t w z A h i j l=>v α a b c d e g h i j l (fun m o p=>qa k m o p)
theorem adB:al Pg 160 33 ⟨xX,LJ By⟩:=iP atc ao5 (ah Tryz.func160 (by kernel_rfl)) apU fun _ _=>by kernel_rfl
def ahS:SG:=[(12,[.sl,.sl,.int .i64,.int .i64,.int .i64,.int .i64,.int .i64,.int .i64,.int .i64,.int .i64,.int .i64,.int .i64,.int .i64]),(13,iS 4),(18,iT),(21,iT),(25,iT),(29,iT)]
def aqQ:TG:=[tT 0 [2,3],tT 1 [2,5,6],tT 2 [6,7,8,9,10],tT 3 [7,8,9,10,31],tT 4 [4],tT 5 [7,8,9,10,34],tT 6 [4],tT 7 [43],tT 8 [4],tT 9 [4]]
def XG:au:=aD Pg Tryz.f118 aqQ aX
def A9:PT St:=pS [sI 7,sI 8,sI 9,sI 10,sY 31 dB] []
def apt {β:Type}(g:St->β):Int->Int->Int->Int->Bool->β:=A9.unc g
def Vs:PT St:=pS [sI 7,sI 8,sI 9,sI 10,sY 34 dB] []
def YH {β:Type}(g:St->β):Int->Int->Int->Int->Bool->β:=Vs.unc g
noncomputable abbrev ajr:List bz:=⟨160,33,[⟨xX,LJ By⟩]⟩::aly
theorem arc:bF ajr fun c=>bF c.l (al Pg c.f c.nt):=⟨⟨adB,TT⟩,aqb⟩
def aoY:aE:=aE.ofIO ajr bD io0
theorem arP:aoY.Ok Pg:=aE.ofIO_ok aO arc
def S5:ag:=ag.sub [1,1,1,0,0,1,1,0] (emb XG)
def Dj (α:Type)(a b c d:Int)(k1:Bool->Op α):Op α:=
 cK (decide (c<=a))
 (k1 (decide (b<=d)))
 (k1 false)
def nf:j8:=sld Dj
def Jt (v:j8)(α:Type)(K:KT α):I4 (Bool->Op α):=fun a b c d g=>v α a b c d (fun e=>YH (K .normal) a b c d e)
theorem Uy:∀ (α:Type) (K:KT α),Jt nf α K=A9.unc fun σ=>aF Pg aoY ahS S5 K σ:=bM (fun α K=>by kernel_rfl)
abbrev Qa:Type 1:=(α:Type)->ae->Int->Int->Int->Int->Int->Int->Int->Int->Int->Int->Int->(Int->Op α)->Op α
def Ph (α:Type)(e:ae)(g h i j l a b m o p q:Int)(k1:Int->Op α):Op α:=
 By α e g h i j l m o p q
 (fun c d r=>cK (r != 0)
 (k1 1)
 (nf α (w64 (c*10000)) (w64 (d*10000)) (w64 (a*1048576)) (w64 (b*1048576))
 (fun s=>cK s
 (k1 2)
 (cK (decide ((w64 (d*10000)) < (w64 (a*1048576))))
 (k1 0)
 (cK (decide ((w64 (b*1048576)) < (w64 (c*10000))))
 (k1 0)
 (k1 1))))))
def ep:Qa:=sld Ph
def PN (v:Qa)(α:Type)(k:RT α):ae->ae->I15 (Op α):=fun q a b c d e g r s t w h i j l m o=>v α a b c d e g h i j l m o (fun p=>bv k p)
def afH:ag:=(ag.put (.m [⟨A9,Jt nf⟩]) [1,1,1,0,0,1,1] (emb XG))
theorem acl:al Pg 118 52 ⟨xX,PN ep⟩:=iZ arP (ah Tryz.func118 (by kernel_rfl)) ahS afH ((aw _ _).trans (aG _)) (aY (by kernel_rfl) (aM XG) ⟨Uy,TT⟩) fun _ _=>by kernel_rfl
def xy:SG:=[(14,[.sl,.sl,.int .i64,.int .i64,.int .i64,.int .i64,.int .i64,.int .i64,.int .i64,.int .i64,.int .i64,.int .i64,.int .i64]),(15,iS 4),(22,[.sl]),(28,iS 2),(31,iS 2),(37,[.sl,.sl,.int .i64,.int .i64,.int .i64,.int .i64,.int .i64,.int .i64,.int .i64,.int .i64,.int .i64,.int .i64,.int .i64]),(39,iT),(41,iT),(48,iS 4),(63,[.sl]),(70,iS 4),(77,iS 4),(84,iS 4)]
def atp:TG:=[tT 0 [0,2,4],tT 1 [0,2,4,17],tT 2 [0],tT 3 [0,6],tT 4 [0,2,4,7],tT 5 [0,2,4,7,44],tT 6 [0],tT 7 [0,6],tT 8 [0,2,4,8],tT 9 [0,2,4,8,55],tT 10 [0],tT 11 [0,6],tT 12 [0,2,4,8],tT 13 [0,2,9],tT 14 [0,6]]
def m8:au:=aD Pg Tryz.f73 atp aX
def gH:PT St:=pSv [(0,500000000,0)] [sl 0 (aV false [(gn 500000000 0)]),sI 2,sP 4,sI 8] [aB 500000000 [(cD dL),(cD dL),xI,xI,xI,xI,xI,xI,xI,xI,xI,xI,xI,(cY 500000014),(cD dNP),(cD dB)],cZ 500000014 1,aB 4 (xs 4)]
def aru {β:Type}(g:St->β):Int->Int->ae->ae->Int->Int->Int->Int->Int->Int->Int->Int->Int->Int->Int->Bool->ae->I4 β:=gH.unc g
def aef:PT St:=pSv [(0,500000000,0)] [sl 0 (aV false [(gn 500000000 0)]),sI 2,sP 4,sI 8,sY 55 dB] [aB 500000000 [(cD dL),(cD dL),xI,xI,xI,xI,xI,xI,xI,xI,xI,xI,xI,(cY 500000014),(cD dNP),(cD dB)],cZ 500000014 1,aB 4 (xs 4)]
def uo {β:Type}(g:St->β):Int->Int->Bool->ae->ae->Int->Int->Int->Int->Int->Int->Int->Int->Int->Int->Int->Bool->ae->I4 β:=aef.unc g
def Vp:PT (List RV):=pRs [pR false [rD dB],pR true [rD dL,rD dL,rD (dI .i64),rD (dI .i64),rD (dI .i64),rD (dI .i64),rD (dI .i64),rD (dI .i64),rD (dI .i64),rD (dI .i64),rD (dI .i64),rD (dI .i64),rD (dI .i64),rO 1,rD dNP,rD dB]]
def lE {β:Type}(g:List RV->β):Bool->ae->ae->Int->Int->Int->Int->Int->Int->Int->Int->Int->Int->Int->ae->Bool->β:=Vp.unc g
def X6:PT (List RV):=pRs [pR false [rD dB],pR true [rD dL,rD dL,rD (dI .i64),rD (dI .i64),rD (dI .i64),rD (dI .i64),rD (dI .i64),rD (dI .i64),rD (dI .i64),rD (dI .i64),rD (dI .i64),rD (dI .i64),rD (dI .i64),rO 1,rD (dP [(dI .i64),(dI .i64)] 0),rD dB]]
def ll {β:Type}(g:List RV->β):Bool->ae->ae->Int->Int->Int->Int->Int->Int->Int->Int->Int->Int->Int->ae->Int->Int->Bool->β:=X6.unc g
noncomputable abbrev alY:List bz:=⟨118,52,[⟨xX,PN ep⟩]⟩::ajr
theorem aqB:bF alY fun c=>bF c.l (al Pg c.f c.nt):=⟨⟨acl,TT⟩,arc⟩
def amS:aE:=aE.ofIO alY bD io0
theorem aug:amS.Ok Pg:=aE.ofIO_ok aO aqB
def Xj:ag:=ag.sub [1,1,1,1,0,0] (emb m8)
def Ht (α:Type)(a b:Int)(k1:Bool->Op α):Op α:=
 cK (a == 5)
 (k1 true)
 (k1 (b == 0))
def tq:bS:=sld Ht
def NC (v:bS)(α:Type)(K:KT α):Int->Int->ae->ae->Int->Int->Int->Int->Int->Int->Int->Int->Int->Int->Int->Bool->ae->I4 (Op α):=fun a b c d e g h i j l m o p q r s t w z A B=>v α a b (fun C=>uo (K .normal) a b C c d e g h i j l m o p q r s t w z A B)
theorem ahm:∀ (α:Type) (K:KT α),NC tq α K=gH.unc fun σ=>aF Pg amS xy Xj K σ:=bM (fun α K=>by kernel_rfl)
abbrev Kh:Type 1:=(α:Type)->ae->Int->Int->Int->Int->Int->Int->Int->ae->Bool->Int->Int->Int->Int->Int->(ae->Bool->Op α)->(Int->Int->Op α)->Op α
def TI (α:Type)(j:ae)(l m o p q r s:Int)(a:ae)(t:Bool)(b c d e w:Int)(k1:ae->Bool->Op α)(k2:Int->Int->Op α):Op α:=
 ep α j l m o p q r s b c d e
 (fun z=>cK (z == 2)
 (gK (fj 1 8 a [[DC.v (.int .i64 0)]]) (k1 (a++[[DC.v (.int .i64 0)]]) t))
 (eK α b c
 (fun g=>eK α d e
 (fun h=>jJ α
 (ep α j l m o p q r s g g h h
 (fun A=>cK (A == 0)
 (k2 g h)
 (jN α b c d e
 (fun i=>tq α w i
 (fun B=>cK B
 (k1 a true)
 (gK (fj 1 8 a [[DC.v (.int .i64 i)]]) (jt α b c d e i
 (fun C D F G H=>none))))))))))))
def Bs:Kh:=sld TI
def ky:PT (List DV):=pA [pV false [(dMr [dL,dL,(dI .i64),(dI .i64),(dI .i64),(dI .i64),(dI .i64),(dI .i64),(dI .i64),(dI .i64),(dI .i64),(dI .i64),(dI .i64),(dOs 1),dNP,dB] 0)],pV true [(dI .i64),(dI .i64),(dI .i64),(dI .i64)],vI]
def U8 (v:Kh)(α:Type)(k:RT α):ae->ae->Int->Int->Int->Int->Int->Int->Int->Int->Int->Int->Int->ae->Bool->I5 (Op α):=fun m a b c d e g o p q r h i s t w z A B C=>v α a b c d e g h i s t w z A B C (fun j l=>lE k true m a b c d e g o p q r h i j l) (fun j l=>ll k false m a b c d e g o p q r h i s j l t)
def aka:ag:=(ag.put (.m [⟨gH,NC tq⟩]) [1,1,1,1,0] (emb m8))
theorem akA:al Pg 73 89 ⟨ky,U8 Bs⟩:=iZ aug (ah Tryz.func73 (by kernel_rfl)) xy aka ((aw _ _).trans (aG _)) (aY (by kernel_rfl) (aM m8) ⟨ahm,TT⟩) fun _ _=>by kernel_rfl
noncomputable abbrev G3:List bz:=⟨73,89,[⟨ky,U8 Bs⟩]⟩::alY
theorem Kg:bF G3 fun c=>bF c.l (al Pg c.f c.nt):=⟨⟨akA,TT⟩,aqB⟩
def ard:aE:=aE.ofIO G3 bD io0
theorem atf:ard.Ok Pg:=aE.ofIO_ok aO Kg
def aay:ag:=ag.sub [1,1,1,1,0,0] (emb m8)
def IZ (α:Type)(a b:Int)(k1:Bool->Op α):Op α:=
 cK (a == 5)
 (k1 true)
 (k1 (b == 0))
def rU:bS:=sld IZ
def Pl (v:bS)(α:Type)(K:KT α):Int->Int->ae->ae->Int->Int->Int->Int->Int->Int->Int->Int->Int->Int->Int->Bool->ae->I4 (Op α):=fun a b c d e g h i j l m o p q r s t w z A B=>v α a b (fun C=>uo (K .normal) a b C c d e g h i j l m o p q r s t w z A B)
theorem acL:∀ (α:Type) (K:KT α),Pl rU α K=gH.unc fun σ=>aF Pg ard xy aay K σ:=bM (fun α K=>by kernel_rfl)
abbrev nz:Type 1:=(α:Type)->ae->Int->Int->Int->Int->Int->Int->Int->ae->Bool->Int->Int->Int->Int->Int->(ae->Bool->Op α)->(ae->Int->Int->Bool->Op α)->Op α
def ajl (α:Type)(h:ae)(i j l m o p q:Int)(a:ae)(r:Bool)(b c d e s:Int)(k1:ae->Bool->Op α)(k2:ae->Int->Int->Bool->Op α):Op α:=
 ep α h i j l m o p q b c d e
 (fun B=>cK (B == 2)
 (gK (fj 1 8 a [[DC.v (.int .i64 0)]]) (k1 (a++[[DC.v (.int .i64 0)]]) r))
 (eK α b c
 (fun t=>eK α d e
 (fun w=>jJ α
 (ep α h i j l m o p q t t w w
 (fun C=>cK (C == 0)
 (k2 a t w r)
 (jN α b c d e
 (fun g=>rU α s g
 (fun D=>cK D
 (k1 a true)
 (gK (fj 1 8 a [[DC.v (.int .i64 g)]]) (jt α b c d e g
 (fun F G H I Q=>Bs α h i j l m o p q (a++[[DC.v (.int .i64 g)]]) r b F d G (w64 (s+1))
 (fun z A=>Bs α h i j l m o p q z A H c I e (w64 (s+1))
 (fun J L=>k1 J L)
 (fun M N=>k2 z M N A))
 (fun O P=>k2 (a++[[DC.v (.int .i64 g)]]) O P r)))))))))))))
def AC:nz:=sld ajl
def XI (v:nz)(α:Type)(k:RT α):ae->ae->Int->Int->Int->Int->Int->Int->Int->Int->Int->Int->Int->ae->Bool->I5 (Op α):=fun m a b c d e g o p q r h i s t w z A B C=>v α a b c d e g h i s t w z A B C (fun j l=>lE k true m a b c d e g o p q r h i j l) (fun j l D F=>ll k false m a b c d e g o p q r h i j l D F)
def akP:ag:=(ag.put (.m [⟨gH,Pl rU⟩]) [1,1,1,1,0] (emb m8))
theorem alS:al Pg 73 89 ⟨ky,XI AC⟩:=iZ atf (ah Tryz.func73 (by kernel_rfl)) xy akP ((aw _ _).trans (aG _)) (aY (by kernel_rfl) (aM m8) ⟨acL,TT⟩) fun _ _=>by kernel_rfl
def ahs:aE:=aE.ofIO (⟨73,89,[⟨ky,XI AC⟩]⟩::G3) bD io0
theorem alT:ahs.Ok Pg:=aE.ofIO_ok aO ⟨⟨alS,TT⟩,Kg⟩
def T8:ag:=ag.sub [1,1,1,1,0,0] (emb m8)
def Jr (α:Type)(a b:Int)(k1:Bool->Op α):Op α:=
 cK (a == 5)
 (k1 true)
 (k1 (b == 0))
def rT:bS:=sld Jr
def ON (v:bS)(α:Type)(K:KT α):Int->Int->ae->ae->Int->Int->Int->Int->Int->Int->Int->Int->Int->Int->Int->Bool->ae->I4 (Op α):=fun a b c d e g h i j l m o p q r s t w z A B=>v α a b (fun C=>uo (K .normal) a b C c d e g h i j l m o p q r s t w z A B)
theorem agw:∀ (α:Type) (K:KT α),ON rT α K=gH.unc fun σ=>aF Pg ahs xy T8 K σ:=bM (fun α K=>by kernel_rfl)
def ali (α:Type)(g:ae)(h i j l m o p:Int)(a:ae)(r:Bool)(b c d e s:Int)(k1:ae->Bool->Op α)(k2:ae->Int->Int->Bool->Op α):Op α:=
 ep α g h i j l m o p b c d e
 (fun z=>cK (z == 2)
 (gK (fj 1 8 a [[DC.v (.int .i64 0)]]) (k1 (a++[[DC.v (.int .i64 0)]]) r))
 (eK α b c
 (fun t=>eK α d e
 (fun w=>jJ α
 (ep α g h i j l m o p t t w w
 (fun A=>cK (A == 0)
 (k2 a t w r)
 (jN α b c d e
 (fun q=>rT α s q
 (fun B=>cK B
 (k1 a true)
 (gK (fj 1 8 a [[DC.v (.int .i64 q)]]) (jt α b c d e q
 (fun C D F G V=>AC α g h i j l m o p (a++[[DC.v (.int .i64 q)]]) r b C d D (w64 (s+1))
 (fun H I=>AC α g h i j l m o p H I F c G e (w64 (s+1))
 (fun J L=>k1 J L)
 (fun M N O P=>k2 M N O P))
 (fun Q R T U=>k2 Q R T U)))))))))))))
def Ba:nz:=sld ali
def aaF (v:nz)(α:Type)(k:RT α):ae->ae->Int->Int->Int->Int->Int->Int->Int->Int->Int->Int->Int->ae->Bool->I5 (Op α):=fun m a b c d e g o p q r h i s t w z A B C=>v α a b c d e g h i s t w z A B C (fun j l=>lE k true m a b c d e g o p q r h i j l) (fun j l D F=>ll k false m a b c d e g o p q r h i j l D F)
def akw:ag:=(ag.put (.m [⟨gH,ON rT⟩]) [1,1,1,1,0] (emb m8))
theorem alB:al Pg 73 89 ⟨ky,aaF Ba⟩:=iZ alT (ah Tryz.func73 (by kernel_rfl)) xy akw ((aw _ _).trans (aG _)) (aY (by kernel_rfl) (aM m8) ⟨agw,TT⟩) fun _ _=>by kernel_rfl
def ahD:aE:=aE.ofIO (⟨73,89,[⟨ky,aaF Ba⟩]⟩::G3) bD io0
theorem aky:ahD.Ok Pg:=aE.ofIO_ok aO ⟨⟨alB,TT⟩,Kg⟩
def Uo:ag:=ag.sub [1,1,1,1,0,0] (emb m8)
def H2 (α:Type)(a b:Int)(k1:Bool->Op α):Op α:=
 cK (a == 5)
 (k1 true)
 (k1 (b == 0))
def tB:bS:=sld H2
def MU (v:bS)(α:Type)(K:KT α):Int->Int->ae->ae->Int->Int->Int->Int->Int->Int->Int->Int->Int->Int->Int->Bool->ae->I4 (Op α):=fun a b c d e g h i j l m o p q r s t w z A B=>v α a b (fun C=>uo (K .normal) a b C c d e g h i j l m o p q r s t w z A B)
theorem ag6:∀ (α:Type) (K:KT α),MU tB α K=gH.unc fun σ=>aF Pg ahD xy Uo K σ:=bM (fun α K=>by kernel_rfl)
def alV (α:Type)(g:ae)(h i j l m o p:Int)(a:ae)(r:Bool)(b c d e s:Int)(k1:ae->Bool->Op α)(k2:ae->Int->Int->Bool->Op α):Op α:=
 ep α g h i j l m o p b c d e
 (fun z=>cK (z == 2)
 (gK (fj 1 8 a [[DC.v (.int .i64 0)]]) (k1 (a++[[DC.v (.int .i64 0)]]) r))
 (eK α b c
 (fun t=>eK α d e
 (fun w=>jJ α
 (ep α g h i j l m o p t t w w
 (fun A=>cK (A == 0)
 (k2 a t w r)
 (jN α b c d e
 (fun q=>tB α s q
 (fun B=>cK B
 (k1 a true)
 (gK (fj 1 8 a [[DC.v (.int .i64 q)]]) (jt α b c d e q
 (fun C D F G V=>Ba α g h i j l m o p (a++[[DC.v (.int .i64 q)]]) r b C d D (w64 (s+1))
 (fun H I=>Ba α g h i j l m o p H I F c G e (w64 (s+1))
 (fun J L=>k1 J L)
 (fun M N O P=>k2 M N O P))
 (fun Q R T U=>k2 Q R T U)))))))))))))
def Ad:nz:=sld alV
def T4 (v:nz)(α:Type)(k:RT α):ae->ae->Int->Int->Int->Int->Int->Int->Int->Int->Int->Int->Int->ae->Bool->I5 (Op α):=fun m a b c d e g o p q r h i s t w z A B C=>v α a b c d e g h i s t w z A B C (fun j l=>lE k true m a b c d e g o p q r h i j l) (fun j l D F=>ll k false m a b c d e g o p q r h i j l D F)
def ajD:ag:=(ag.put (.m [⟨gH,MU tB⟩]) [1,1,1,1,0] (emb m8))
theorem akO:al Pg 73 89 ⟨ky,T4 Ad⟩:=iZ aky (ah Tryz.func73 (by kernel_rfl)) xy ajD ((aw _ _).trans (aG _)) (aY (by kernel_rfl) (aM m8) ⟨ag6,TT⟩) fun _ _=>by kernel_rfl
def aiA:aE:=aE.ofIO (⟨73,89,[⟨ky,T4 Ad⟩]⟩::G3) bD io0
theorem ajW:aiA.Ok Pg:=aE.ofIO_ok aO ⟨⟨akO,TT⟩,Kg⟩
def Y9:ag:=ag.sub [1,1,1,1,0,0] (emb m8)
def HD (α:Type)(a b:Int)(k1:Bool->Op α):Op α:=
 cK (a == 5)
 (k1 true)
 (k1 (b == 0))
def ud:bS:=sld HD
def Oq (v:bS)(α:Type)(K:KT α):Int->Int->ae->ae->Int->Int->Int->Int->Int->Int->Int->Int->Int->Int->Int->Bool->ae->I4 (Op α):=fun a b c d e g h i j l m o p q r s t w z A B=>v α a b (fun C=>uo (K .normal) a b C c d e g h i j l m o p q r s t w z A B)
theorem aeo:∀ (α:Type) (K:KT α),Oq ud α K=gH.unc fun σ=>aF Pg aiA xy Y9 K σ:=bM (fun α K=>by kernel_rfl)
def akk (α:Type)(g:ae)(h i j l m o p:Int)(a:ae)(r:Bool)(b c d e s:Int)(k1:ae->Bool->Op α)(k2:ae->Int->Int->Bool->Op α):Op α:=
 ep α g h i j l m o p b c d e
 (fun z=>cK (z == 2)
 (gK (fj 1 8 a [[DC.v (.int .i64 0)]]) (k1 (a++[[DC.v (.int .i64 0)]]) r))
 (eK α b c
 (fun t=>eK α d e
 (fun w=>jJ α
 (ep α g h i j l m o p t t w w
 (fun A=>cK (A == 0)
 (k2 a t w r)
 (jN α b c d e
 (fun q=>ud α s q
 (fun B=>cK B
 (k1 a true)
 (gK (fj 1 8 a [[DC.v (.int .i64 q)]]) (jt α b c d e q
 (fun C D F G V=>Ad α g h i j l m o p (a++[[DC.v (.int .i64 q)]]) r b C d D (w64 (s+1))
 (fun H I=>Ad α g h i j l m o p H I F c G e (w64 (s+1))
 (fun J L=>k1 J L)
 (fun M N O P=>k2 M N O P))
 (fun Q R T U=>k2 Q R T U)))))))))))))
def tu:nz:=sld akk
def UA (v:nz)(α:Type)(k:RT α):ae->ae->Int->Int->Int->Int->Int->Int->Int->Int->Int->Int->Int->ae->Bool->I5 (Op α):=fun m a b c d e g o p q r h i s t w z A B C=>v α a b c d e g h i s t w z A B C (fun j l=>lE k true m a b c d e g o p q r h i j l) (fun j l D F=>ll k false m a b c d e g o p q r h i j l D F)
def amr:ag:=(ag.put (.m [⟨gH,Oq ud⟩]) [1,1,1,1,0] (emb m8))
theorem ajb:al Pg 73 89 ⟨ky,UA tu⟩:=iZ ajW (ah Tryz.func73 (by kernel_rfl)) xy amr ((aw _ _).trans (aG _)) (aY (by kernel_rfl) (aM m8) ⟨aeo,TT⟩) fun _ _=>by kernel_rfl
def FS:PT St:=pSv [(0,500000000,0)] [sl 0 (aV false [(gn 500000000 0)]),sI 2,sP 4,sI 8] [aB 500000000 [(cD dL),(cD dL),xI,xI,xI,xI,xI,xI,xI,xI,xI,xI,xI,akd,(cD dNP),(cD dB)],aB 4 (xs 4)]
def ary {β:Type}(g:St->β):Int->Int->ae->ae->Int->Int->Int->Int->Int->Int->Int->Int->Int->Int->Int->Bool->I4 β:=FS.unc g
def aca:PT St:=pSv [(0,500000000,0)] [sl 0 (aV false [(gn 500000000 0)]),sI 2,sP 4,sI 8,sY 55 dB] [aB 500000000 [(cD dL),(cD dL),xI,xI,xI,xI,xI,xI,xI,xI,xI,xI,xI,akd,(cD dNP),(cD dB)],aB 4 (xs 4)]
def aga {β:Type}(g:St->β):Int->Int->Bool->ae->ae->Int->Int->Int->Int->Int->Int->Int->Int->Int->Int->Int->Bool->I4 β:=aca.unc g
def Uh:PT (List RV):=pRs [pR false [rD dB],pR true [rD dL,rD dL,rD (dI .i64),rD (dI .i64),rD (dI .i64),rD (dI .i64),rD (dI .i64),rD (dI .i64),rD (dI .i64),rD (dI .i64),rD (dI .i64),rD (dI .i64),rD (dI .i64),rD dL,rD (dP [(dI .i64),(dI .i64)] 0),rD dB]]
def Y5 {β:Type}(g:List RV->β):Bool->ae->ae->Int->Int->Int->Int->Int->Int->Int->Int->Int->Int->Int->ae->Int->Int->Bool->β:=Uh.unc g
def X7:PT (List RV):=pRs [pR false [rD dB],pR true [rD dL,rD dL,rD (dI .i64),rD (dI .i64),rD (dI .i64),rD (dI .i64),rD (dI .i64),rD (dI .i64),rD (dI .i64),rD (dI .i64),rD (dI .i64),rD (dI .i64),rD (dI .i64),rD dL,rD dNP,rD dB]]
def VS {β:Type}(g:List RV->β):Bool->ae->ae->Int->Int->Int->Int->Int->Int->Int->Int->Int->Int->Int->ae->Bool->β:=X7.unc g
def ah5:aE:=aE.ofIO (⟨73,89,[⟨ky,UA tu⟩]⟩::G3) bD io0
theorem aiW:ah5.Ok Pg:=aE.ofIO_ok aO ⟨⟨ajb,TT⟩,Kg⟩
def Yb:ag:=ag.sub [1,1,1,1,0,0] (emb m8)
def Iv (α:Type)(a b:Int)(k1:Bool->Op α):Op α:=
 cK (a == 5)
 (k1 true)
 (k1 (b == 0))
def uJ:bS:=sld Iv
def MV (v:bS)(α:Type)(K:KT α):Int->Int->ae->ae->Int->Int->Int->Int->Int->Int->Int->Int->Int->Int->Int->Bool->I4 (Op α):=fun a b c d e g h i j l m o p q r s t w z A=>v α a b (fun B=>aga (K .normal) a b B c d e g h i j l m o p q r s t w z A)
theorem abG:∀ (α:Type) (K:KT α),MV uJ α K=FS.unc fun σ=>aF Pg ah5 xy Yb K σ:=bM (fun α K=>by kernel_rfl)
abbrev aax:Type 1:=(α:Type)->ae->Int->Int->Int->Int->Int->Int->Int->Bool->Int->Int->Int->Int->Int->(ae->Bool->Op α)->(Int->Int->Op α)->(Op α)->(ae->Int->Int->Bool->Op α)->Op α
def Ud (α:Type)(e:ae)(g h i j l m o:Int)(t:Bool)(a b c d p:Int)(k1:ae->Bool->Op α)(k2:Int->Int->Op α)(k3:Op α)(k4:ae->Int->Int->Bool->Op α):Op α:=
 ep α e g h i j l m o a b c d
 (fun w=>cK (w == 2)
 (k1 [[DC.v (.int .i64 0)]] t)
 (eK α a b
 (fun q=>eK α c d
 (fun r=>jJ α
 (ep α e g h i j l m o q q r r
 (fun z=>cK (z == 0)
 (k2 q r)
 (jN α a b c d
 (fun s=>uJ α p s
 (fun A=>cK A
 (k3)
 (jt α a b c d s
 (fun B C D F U=>tu α e g h i j l m o [[DC.v (.int .i64 s)]] t a B c C (w64 (p+1))
 (fun G H=>tu α e g h i j l m o G H D b F d (w64 (p+1))
 (fun I J=>k1 I J)
 (fun L M N O=>k4 L M N O))
 (fun P Q R T=>k4 P Q R T))))))))))))
def GN:aax:=sld Ud
def UO:PT (List DV):=pA [pV false [(dMr [dL,dL,(dI .i64),(dI .i64),(dI .i64),(dI .i64),(dI .i64),(dI .i64),(dI .i64),(dI .i64),(dI .i64),(dI .i64),(dI .i64),dON,dNP,dB] 0)],pV true [(dI .i64),(dI .i64),(dI .i64),(dI .i64)],vI]
def XA (v:aax)(α:Type)(k:RT α):ae->ae->Int->Int->Int->Int->Int->Int->Int->Int->Int->Int->Int->Bool->I5 (Op α):=fun m a b c d e g o p q r h i s t w z A B=>v α a b c d e g h i s t w z A B (fun j l=>lE k true m a b c d e g o p q r h i j l) (fun j l=>Y5 k false m a b c d e g o p q r h i ([]:ae) j l s) (VS k true m a b c d e g o p q r h i ([]:ae) true) (fun j l C D=>ll k false m a b c d e g o p q r h i j l C D)
def ajv:ag:=(ag.put (.m [⟨FS,MV uJ⟩]) [1,1,1,1,0] (emb m8))
theorem al4:al Pg 73 89 ⟨UO,XA GN⟩:=iZ aiW (ah Tryz.func73 (by kernel_rfl)) xy ajv ((aw _ _).trans (aG _)) (aY (by kernel_rfl) (aM m8) ⟨abG,TT⟩) fun _ _=>by kernel_rfl
def JT:SG:=[(11,[.sl]),(16,iS 9),(17,iS 9),(18,[.sl,.sl,.int .i64,.int .i64]),(19,iS 9),(24,iS 9),(39,iT),(46,iT),(51,[.bool]),(56,[.sl])]
def aue:TG:=[tT 0 [1,4],tT 1 [1,4,5],tT 2 [1,4,5,6],tT 3 [1,4,5,6,11,12,13],tT 4 [1,4,5,6,11,12,13,14],tT 5 [1,4,5,6,7,8,11,12,13],tT 6 [1,4,5,6,7,8,9,11,12,13],tT 7 [1,4,5,6,7,9,11,12,13],tT 8 [1,4,5,6,7,9,11,12,13,31],(9,⟨[2,3,4],true,[],[3]⟩),tT 10 [1,4,5,6,9,11,12,13,51],tT 11 [1,4,5,6,9,11,12,13],tT 12 [1,4,5,6,11,12,13],tT 13 [1,4,5,6,11,12,13],tT 14 [4,5,6,61],tT 15 [4,5,6],(16,⟨[2,3,4],true,[],[3]⟩)]
def atV:TG:=[(4,⟨[1,4,5,6,11,12,13],true,[⟨false,5,0,20005,1⟩,⟨false,11,0,20011,9⟩,⟨true,1,0,30100,9⟩,⟨true,1,1,30101,5⟩,⟨true,22,0,32200,9⟩,⟨true,22,1,32201,5⟩,⟨true,22,13,32213,1⟩],[]⟩)]
def RM:au:=aD Pg Tryz.f30 aue atV
def rX:OT:=tdC (ag.sub [1,1,1,0,1,0] (emb RM))
def xU:PT St:=pS [sP 1,sP 4,sl 5 (aV false [(cY 20005)]),sI 6,sI 7,sP 8,sl 9 (aV false [(gn 22 0)]),sY 11 dL,sI 12,sI 13] [aB 1 [(cD dL),(cD dL),xI,xI],aB 4 (xs 3),cZ 20005 1,aB 8 (xs 9),aB 22 [(cD dL),(cD dL),xI,xI,xI,xI,xI,xI,xI,xI,xI,xI,xI,akd,(cD dNP),(cD dB)]]
def arw {β:Type}(g:St->β):Int->Int->ae->Int->Int->ae->ae->Int->Int->Int->Int->Int->ae->Int->Int->Int->Int->Int->Int->Int->Int->Int->ae->ae->Int->Int->Int->Int->Int->Int->Int->Int->Int->Int->Int->Bool->β:=xU.unc g
def adk:PT St:=pS [sP 1,sP 4,sl 5 (aV false [(cY 20005)]),sI 6,sI 7,sl 9 (aV false [(gn 22 0)]),sY 11 dL,sI 12,sI 13] [aB 1 [(cD dL),(cD dL),xI,xI],aB 4 (xs 3),cZ 20005 1,aB 22 [(cD dL),(cD dL),xI,xI,xI,xI,xI,xI,xI,xI,xI,xI,xI,(cY 770026),(cD dNP),(cD dB)],cZ 770026 1]
def afC {β:Type}(g:St->β):Int->Int->ae->Int->Int->ae->ae->Int->Int->Int->Int->Int->ae->ae->ae->Int->Int->Int->Int->Int->Int->Int->Int->Int->Int->Int->Bool->ae->β:=adk.unc g
def aeA:PT St:=pS [sP 1,sP 4,sl 5 (aV false [(cY 20005)]),sI 6,sI 7,sl 9 (aV false [(gn 22 0)]),sY 11 dL,sI 12,sI 13] [aB 1 [(cD dL),(cD dL),xI,xI],aB 4 (xs 3),cZ 20005 1,aB 22 [(cD dL),(cD dL),xI,xI,xI,xI,xI,xI,xI,xI,xI,xI,xI,(cD dL),(cD (dP [(dI .i64),(dI .i64)] 0)),(cD dB)]]
def ab7 {β:Type}(g:St->β):Int->Int->ae->Int->Int->ae->ae->Int->Int->Int->Int->Int->ae->ae->ae->Int->Int->Int->Int->Int->Int->Int->Int->Int->Int->Int->ae->Int->Int->Bool->β:=aeA.unc g
def ab4:PT St:=pS [sP 1,sP 4,sl 5 (aV false [(cY 20005)]),sI 6,sI 7,sl 9 (aV false [(gn 22 0)]),sY 11 dL,sI 12,sI 13] [aB 1 [(cD dL),(cD dL),xI,xI],aB 4 (xs 3),cZ 20005 1,aB 22 [(cD dL),(cD dL),xI,xI,xI,xI,xI,xI,xI,xI,xI,xI,xI,(cD dL),(cD dNP),(cD dB)]]
def ac9 {β:Type}(g:St->β):Int->Int->ae->Int->Int->ae->ae->Int->Int->Int->Int->Int->ae->ae->ae->Int->Int->Int->Int->Int->Int->Int->Int->Int->Int->Int->ae->Bool->β:=ab4.unc g
def ad7:PT St:=pS [sP 1,sP 4,sl 5 (aV false [(cY 20005)]),sI 6,sI 7,sl 9 (aV false [(gn 22 0)]),sY 11 dL,sI 12,sI 13] [aB 1 [(cD dL),(cD dL),xI,xI],aB 4 (xs 3),cZ 20005 1,aB 22 [(cD dL),(cD dL),xI,xI,xI,xI,xI,xI,xI,xI,xI,xI,xI,(cY 770026),(cD (dP [(dI .i64),(dI .i64)] 0)),(cD dB)],cZ 770026 1]
def afq {β:Type}(g:St->β):Int->Int->ae->Int->Int->ae->ae->Int->Int->Int->Int->Int->ae->ae->ae->Int->Int->Int->Int->Int->Int->Int->Int->Int->Int->Int->Int->Int->Bool->ae->β:=ad7.unc g
def yv:PT St:=pS [sP 1,sP 4,sl 5 (aV false [(cY 20005)]),sI 6,sI 7,sl 9 (aV false [(gn 22 0)]),sY 11 dL,sI 12,sI 13,sY 31 dB] [aB 1 [(cD dL),(cD dL),xI,xI],aB 4 (xs 3),cZ 20005 1,aB 22 [(cD dL),(cD dL),xI,xI,xI,xI,xI,xI,xI,xI,xI,xI,xI,(cY 770026),(cD dNP),(cD dB)],cZ 770026 1]
def art {β:Type}(g:St->β):Int->Int->ae->Int->Int->Bool->ae->ae->Int->Int->Int->Int->Int->ae->ae->ae->Int->Int->Int->Int->Int->Int->Int->Int->Int->Int->Int->Bool->ae->β:=yv.unc g
def aff:PT St:=pS [sP 1,sP 4,sl 5 (aV false [(cY 20005)]),sI 6,sl 9 (aV false [(gn 22 0)]),sY 11 dL,sI 12,sI 13] [aB 1 [(cD dL),(cD dL),xI,xI],aB 4 (xs 3),cZ 20005 1,aB 22 [(cD dL),(cD dL),xI,xI,xI,xI,xI,xI,xI,xI,xI,xI,xI,(cY 770026),(cD dNP),(cD dB)],cZ 770026 1]
def afi {β:Type}(g:St->β):Int->ae->Int->Int->ae->ae->Int->Int->Int->Int->Int->ae->ae->ae->Int->Int->Int->Int->Int->Int->Int->Int->Int->Int->Int->Bool->ae->β:=aff.unc g
def afk:PT St:=pS [sP 1,sP 4,sl 5 (aV false [(cY 20005)]),sI 6,sl 9 (aV false [(gn 22 0)]),sY 11 dL,sI 12,sI 13,sY 51 dB] [aB 1 [(cD dL),(cD dL),xI,xI],aB 4 (xs 3),cZ 20005 1,aB 22 [(cD dL),(cD dL),xI,xI,xI,xI,xI,xI,xI,xI,xI,xI,xI,(cY 770026),(cD dNP),(cD dB)],cZ 770026 1]
def acs {β:Type}(g:St->β):Int->ae->Int->Int->Bool->ae->ae->Int->Int->Int->Int->Int->ae->ae->ae->Int->Int->Int->Int->Int->Int->Int->Int->Int->Int->Int->Bool->ae->β:=afk.unc g
def E6:PT St:=pS [sP 1,sP 4,sl 5 (aV false [(cY 20005)]),sI 6,sY 11 dL,sI 12,sI 13] [aB 1 [(cD dL),(cD dL),xI,xI],aB 4 (xs 3),cZ 20005 1]
def EH {β:Type}(g:St->β):Int->ae->Int->Int->ae->ae->Int->Int->Int->Int->Int->ae->β:=E6.unc g
def acX:PT St:=pS [sI 2,sY 3 dL,sP 4] [aB 4 (xs 3)]
def yw {β:Type}(g:St->β):Int->ae->Int->Int->Int->β:=acX.unc g
def ZL:PT St:=pS [sP 1,sP 4,sl 5 (aV false [(cY 20005)]),sI 6,sY 11 dL,sI 12,sI 13,sY 14 dB] [aB 1 [(cD dL),(cD dL),xI,xI],aB 4 (xs 3),cZ 20005 1]
def rP {β:Type}(g:St->β):Int->ae->Int->Int->Bool->ae->ae->Int->Int->Int->Int->Int->ae->β:=ZL.unc g
def XO:PT (List RV):=pRs [wI,pR false [rD dL],pR true [rD (dI .i64),rD (dI .i64),rD (dI .i64)]]
def Xt {β:Type}(g:List RV->β):Int->ae->Int->Int->Int->β:=XO.unc g
def Ay:aE:=aE.ofIO (⟨73,89,[⟨UO,XA GN⟩]⟩::G3) bD io0
theorem akG:Ay.Ok Pg:=aE.ofIO_ok aO ⟨⟨al4,TT⟩,Kg⟩
def Zl:ag:=ag.sub [1,1,1,0,1,0,0,1,1,0,0,1,1,1,1,0] (emb RM)
def Jz (α:Type)(a:Bool)(k1:Op α)(k2:Op α):Op α:=
 cK a
 (k1)
 (k2)
def mh:ur:=sld Jz
def GF (v:ur)(α:Type)(K:KT α):Int->Int->ae->Int->Int->Bool->ae->ae->Int->Int->Int->Int->Int->ae->ae->ae->Int->Int->Int->Int->Int->Int->Int->Int->Int->Int->Int->Bool->ae->Op α:=fun I J b c d L e g h i j l m o p q r s t w z A B C D F G a H=>v α a (afi (K .normal) 1 b c d e g h i j l m o p q r s t w z A B C D F G a H) (acs (K .normal) I b c d a e g h i j l m o p q r s t w z A B C D F G a H)
theorem aed:∀ (α:Type) (K:KT α),GF mh α K=yv.unc fun σ=>aF Pg Ay JT Zl K σ:=bM (fun α K=>by kernel_rfl)
def TU:ag:=ag.sub [1,1,1,0,1,0,0,1,1,0,0,1,1,0] (emb RM)
abbrev Ix:Type 1:=(α:Type)->Int->Int->Int->Int->ae->Int->Int->Int->Int->Int->Int->Int->Bool->(Bool->ae->Op α)->(Int->Int->Op α)->(Op α)->(Int->Int->Bool->ae->Op α)->Op α
def Ji (α:Type)(a b c d:Int)(e:ae)(g h i j l m o:Int)(p:Bool)(k1:Bool->ae->Op α)(k2:Int->Int->Op α)(k3:Op α)(k4:Int->Int->Bool->ae->Op α):Op α:=
 Ec α
 (GN α e g h i j l m o p c d a b 0
 (fun q r=>k1 r q)
 (fun s t=>k2 s t)
 (k3)
 (fun w z A B=>k4 z A B w))
def uX:Ix:=sld Ji
def Fe (v:Ix)(α:Type)(K:KT α):Int->Int->ae->Int->Int->ae->ae->Int->Int->Int->Int->Int->ae->Int->Int->Int->Int->Int->Int->Int->Int->Int->ae->ae->I11 (Bool->Op α):=fun m o p q r s t w z A B C D T U V M N O P W X F a b c d e g G H I J h i L=>v α M N O P a b c d e g h i L (fun j l=>afC (K .normal) m o p q r s t w z A B C D F a b c d e g G H I J h i j l) (fun j l=>ab7 (K .normal) m o p q r s t w z A B C D F a b c d e g G H I J h i ([]:ae) j l L) (ac9 (K .normal) m o p q r s t w z A B C D F a b c d e g G H I J h i ([]:ae) true) (fun j l Q R=>afq (K .normal) m o p q r s t w z A B C D F a b c d e g G H I J h i j l Q R)
theorem ae2:∀ (α:Type) (K:KT α),Fe uX α K=xU.unc fun σ=>aF Pg Ay JT TU K σ:=bM (fun α K=>by kernel_rfl)
def sd:ag:=ag.sub [1,1,1,0,1,0,0] (ag.put (.m [⟨xU,Fe uX⟩]) [1,1,1,0,1,0,0,1,1,0,0,1,1] (ag.put (.m [⟨yv,GF mh⟩]) [1,1,1,0,1,0,0,1,1,0,0,1,1,1,1] (emb RM)))
def sJ (α:Type)(g:ae)(d:Int)(h:ae)(i j e a:Int)(b:ae)(kn:Int->Int->ae->Op α)(k1:Int->Int->Int->Op α)(k2:Int->Int->Bool->ae->Op α):Op α:=
 cK (decide (a < d))
 (gq g a [.int .i64,.int .i64,.int .i64,.int .i64,.int .i64,.int .i64,.int .i64,.int .i64,.int .i64]
 (fun l m o p q r s t w=>uX α p q r s h i j l m o t w false
 (fun z c=>mh α z
 (gK (fj 1 24 b [[DC.sl c]]) (kn 1 (w64 (a+1)) (b++[[DC.sl c]])))
 (gK (fj 1 24 b [[DC.sl c]]) (kn e (w64 (a+1)) (b++[[DC.sl c]]))))
 (fun A B=>k1 a A B)
 (gK (fj 1 24 b [[DC.sl ([]:ae)]]) (kn 1 (w64 (a+1)) (b++[[DC.sl ([]:ae)]])))
 (fun C D F G=>k1 a C D)))
 (k2 e a (decide (a < d)) b)
def mo (α:Type)(a:ae)(b:Int)(c:ae)(d e:Int)(k1:Int->Int->Int->Op α)(k2:Int->Int->Bool->ae->Op α):Nat->Int->Int->ae->Op α
 | 0,_,_,_=>none
 | n+1,g,h,i=>sJ α a b c d e g h i (mo α a b c d e k1 k2 n) k1 k2
def IC (α:Type)(a:ae)(b:Int)(c:ae)(d e:Int)(k1:Int->Int->Int->Op α)(k2:Int->Int->Bool->ae->Op α)(g h:Int)(i:ae):Op α:=mo α a b c d e k1 k2 aN g h i
abbrev Hi:Type 1:=(α:Type)->ae->Int->ae->Int->Int->(Int->Int->Int->Op α)->(Int->Int->Bool->ae->Op α)->Int->Int->ae->Op α
def yK:Hi:=sld IC
def Lz (v:Hi)(α:Type)(K:KT α):Int->ae->Int->Int->ae->ae->Int->Int->Int->Int->Int->ae->Op α:=fun j d e l m g h i o p q r=>v α d e g h i (fun a b c=>yw (K .ret) 0 ([]:ae) a b c) (fun a b c s=>rP (K (.exit 0)) a d e b c m g h i o p q s) j l r
theorem agz (α:Type)(K:KT α)(Kn:SK α)(a:Int)(b:ae)(c d:Int)(j e:ae)(g h l m o:Int)(i:ae):EH (fun σ=>aF Pg Ay JT sd (di (fun σ=>bR rX σ Kn) K) σ) a b c d j e g h l m o i=sJ α b c e g h a d i (fun a d i=>EH Kn a b c d j e g h l m o i) (fun p q r=>yw (K .ret) 0 ([]:ae) p q r) (fun p q r s=>rP (K (.exit 0)) p b c q r j e g h l m o s):=by kernel_rfl
theorem afW (α:Type)(K:KT α):∀ (n:Nat) (g:Int) (a:ae) (b h:Int) (o c:ae) (d e p q r:Int) (i:ae),mo α a b c d e (fun j l m=>yw (K .ret) 0 ([]:ae) j l m) (fun j l m s=>rP (K (.exit 0)) j a b l m o c d e p q r s) n g h i=EH (aS (aF Pg Ay JT sd) rX K n) g a b h o c d e p q r i:=by
 intro n
 induction n with
 | zero=>intros;rfl
 | succ n ih=>intro g a b h o c d e p q r i;exact (congrArg (fun kn=>sJ α a b c d e g h i kn (fun j l m=>yw (K .ret) 0 ([]:ae) j l m) (fun j l m s=>rP (K (.exit 0)) j a b l m o c d e p q r s)) (funext fun g=>funext fun h=>funext fun i=>ih g a b h o c d e p q r i)).trans (agz α K (aS (aF Pg Ay JT sd) rX K n) g a b h o c d e p q r i).symm
theorem afS:∀ (α:Type) (K:KT α),Lz yK α K=E6.unc fun σ=>aS (aF Pg Ay JT sd) rX K aN σ:=bM (fun α K=>funext fun a=>funext fun b=>funext fun c=>funext fun d=>funext fun e=>funext fun g=>funext fun h=>funext fun i=>funext fun j=>funext fun l=>funext fun m=>funext fun o=>afW α K aN a b c d e g h i j l m o)
abbrev abq:Type 1:=(α:Type)->ae->ae->Int->Int->(Int->ae->Int->Int->Int->Op α)->Op α
def Un (α:Type)(b c:ae)(d e:Int)(k1:Int->ae->Int->Int->Int->Op α):Op α:=
 yK α b ((List.length b:Nat):Int) c d e
 (fun g h i=>k1 0 ([]:ae) g h i)
 (fun a l m j=>cK (a != 2)
 (k1 a ([]:ae) 0 0 0)
 (k1 a j 0 0 0)) 2 0 ([]:ae)
def N2:abq:=sld Un
def aa5 (v:abq)(α:Type)(k:RT α):ae->ae->Int->Int->Op α:=fun a b c d=>v α a b c d (fun e g h i j=>Xt k e g h i j)
def alh:ag:=(ag.put (.m [⟨E6,Lz yK⟩]) [1,1,1,0,1,0] (ag.put (.m [⟨xU,Fe uX⟩]) [1,1,1,0,1,0,0,1,1,0,0,1,1] (ag.put (.m [⟨yv,GF mh⟩]) [1,1,1,0,1,0,0,1,1,0,0,1,1,1,1] (emb RM))))
theorem ajw:al Pg 30 65 ⟨vp,aa5 N2⟩:=iZ akG (ah Tryz.func30 (by kernel_rfl)) JT alh ((aw _ _).trans ((aw _ _).trans ((aw _ _).trans (aG _)))) (bJ (td:=rX) (by kernel_rfl) (aY (by kernel_rfl) (aY (by kernel_rfl) (aM RM) ⟨aed,TT⟩) ⟨ae2,TT⟩) ⟨afS,TT⟩) fun _ _=>by kernel_rfl
def sh8:SG:=[(12,[.sl,.sl,.int .i64,.int .i64]),(21,[.sl,.sl,.int .i64,.int .i64]),(28,iS 3)]
def tr8:TG:=[tT 0 [1,4],tT 1 [1,4,7],tT 2 [1,4,7,17],(3,⟨[2,3,4,5],true,[],[3]⟩),tT 4 [4,8,9,10],tT 5 [2,3,4,5]]
def ac8:au:=aD Pg Tryz.f8 tr8 aX
def afG:PT (List RV):=pRs [wI,pR false [rD dL],pR true [rD (dI .i64),rD (dI .i64),rD (dI .i64)],wI]
def aee {β:Type}(g:List RV->β):Int->ae->I4 β:=afG.unc g
noncomputable abbrev alr:List bz:=⟨30,65,[⟨vp,aa5 N2⟩]⟩::G3
theorem aoZ:bF alr fun c=>bF c.l (al Pg c.f c.nt):=⟨⟨ajw,TT⟩,Kg⟩
def asg:aE:=aE.ofIO alr bD io0
theorem atm:asg.Ok Pg:=aE.ofIO_ok aO aoZ
abbrev ahw:Type 1:=(α:Type)->ae->ae->Int->Int->(Int->ae->I4 (Op α))->Op α
def ail (α:Type)(a b:ae)(c d:Int)(k1:Int->ae->I4 (Op α)):Op α:=
 AE α a b c d
 (fun m e=>cK (e != 0)
 (k1 0 ([]:ae) 0 0 0 e)
 (N2 α a b c d
 (fun g h i j l=>k1 g h i j l 0)))
def Zf:ahw:=sld ail
def ah8 (v:ahw)(α:Type)(k:RT α):ae->ae->Int->Int->Op α:=fun a b c d=>v α a b c d (fun e g h i j l=>aee k e g h i j l)
theorem ank:al Pg 8 29 ⟨vp,ah8 Zf⟩:=iP atm ac8 (ah Tryz.func8 (by kernel_rfl)) sh8 fun _ _=>by kernel_rfl
def asv:SG:=[(11,[.sl,.sl,.int .i64,.sl,.int .i64,.int .i64]),(21,[.sl]),(24,iS 2),(32,iS 3)]
def asn:TG:=[tT 0 [1,3],tT 1 [1,3,5,6],tT 2 [1,3,5,6,16],tT 3 [2,3,4],tT 4 [3,6,7,9],tT 5 [2,3,4]]
def atv:au:=aD Pg Tryz.f22 asn aX
def W6:PT (List RV):=pRs [wI,pR true [rD (dI .i64),rD (dI .i64),rD (dI .i64)],wI]
def aag {β:Type}(g:List RV->β):I5 β:=W6.unc g
noncomputable abbrev amp:List bz:=⟨8,29,[⟨vp,ah8 Zf⟩]⟩::alr
theorem an7:bF amp fun c=>bF c.l (al Pg c.f c.nt):=⟨⟨ank,TT⟩,aoZ⟩
def att:aE:=aE.ofIO amp bD io0
theorem asT:att.Ok Pg:=aE.ofIO_ok aO an7
abbrev aa1:Type 1:=(α:Type)->ae->ae->Int->ae->Int->Int->(I5 (Op α))->Op α
def U4 (α:Type)(b c:ae)(d:Int)(e:ae)(g h:Int)(k1:I5 (Op α)):Op α:=
 Cl α b c d
 (fun i a=>cK (a != 0)
 (k1 0 0 0 0 a)
 (Zf α e i g h
 (fun j q l m o p=>k1 j l m o p)))
def wT:aa1:=sld U4
def Zd (v:aa1)(α:Type)(k:RT α):ae->ae->Int->ae->Int->Int->Op α:=fun a b c d e g=>v α a b c d e g (fun h i j l m=>aag k h i j l m)
theorem akL:al Pg 22 34 ⟨kW,Zd wT⟩:=iP asT atv (ah Tryz.func22 (by kernel_rfl)) asv fun _ _=>by kernel_rfl
end
end Go.AM.K
