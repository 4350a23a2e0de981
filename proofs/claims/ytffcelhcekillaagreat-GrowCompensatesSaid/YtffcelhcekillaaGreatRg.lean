/- Printed by KGen. -/
import Derived.Test.YtffcelhcekillaaGreatRf
namespace Go.AM.K
open Go.Proofs
set_option maxRecDepth 100000
set_option linter.unusedVariables false
noncomputable section
def avZ:SG:=[(22,iT),(28,iT),(37,iT),(43,iT),(46,iT),(53,iS 2),(62,iT),(68,iS 2),(79,iT),(85,[.cpx .f64,.int .i64]),(90,iT),(92,iT)]
def aGN:TG:=[tT 0 [0,1,2,6],tT 1 [0,2,6,7],tT 2 [0,2,6,7,14],tT 3 [0,2,6,7,14,15],tT 4 [0,2,6,7,8,14],tT 5 [0,2,6,7,14],tT 6 [0,2,6,7,14],tT 7 [0,6,7,38],tT 8 [0,6],tT 9 [0,6,7,9],tT 10 [0,6,7,9,48],tT 11 [0,6,7,9],tT 12 [0,6,7,9,63],tT 13 [0,6],tT 14 [0,6,7,9,10],tT 15 [0,6,9,10],tT 16 [0,6,9,10,80],tT 17 [0,6],tT 18 [0,6]]
def aH8:TG:=[tT 3 [0,2,6,7,14]]
def Vs:aq:=aw Pg Tryz.f182 aGN aH8
def aIn:OT:=tdC (ah.sub [1,1,0,1,0] (emb Vs))
def BN:PT St:=pSv [(0,500000000,0)] [sl 0 (aV false [(cE 500000000 0)]),sP 6,sP 7,sP 9] [au 500000000 [xI,xI,xI,xI,xI,xI,xI,(cD dL),xI,xI],au 6 [(cD (dX .f64)),xI],au 7 (xs 4),au 9 [(cD (dX .f64)),xI]]
def ahi {β:Type}(g:St->β):Int->Int->Int->Int->Int->Int->Int->ae->Int->Int->Nat->Nat->Int->Int->Int->Int->Int->Nat->Nat->Int->β:=BN.unc g
def adi:PT St:=pSv [(0,500000000,0)] [sl 0 (aV false [(cE 500000000 0)]),sP 6,sP 7,sP 9,sl 48 (aV false [(cD dB)])] [au 500000000 [xI,xI,xI,xI,xI,xI,xI,(cD dL),xI,xI],au 6 [(cD (dX .f64)),xI],au 7 (xs 4),au 9 [(cD (dX .f64)),xI]]
def aiK {β:Type}(g:St->β):Bool->Int->Int->Int->Int->Int->Int->Int->ae->Int->Int->Nat->Nat->Int->Int->Int->Int->Int->Nat->Nat->Int->β:=adi.unc g
noncomputable abbrev azT:List bC:=⟨213,81,[⟨ig,V2 CS⟩]⟩::⟨152,107,[⟨eV,Rw EV⟩]⟩::⟨130,35,[⟨ig,XE jt⟩]⟩::awr
theorem aDf:bH azT fun c=>bH c.l (ak Pg c.f c.nt):=⟨⟨aug,trivial⟩,⟨auM,trivial⟩,⟨apR,trivial⟩,aCj⟩
def aEn:aF:=aF.ofIO azT bu io0
theorem aFv:aEn.Ok Pg:=aF.ofIO_ok aN aDf
def abi:ah:=ah.sub [1,1,1,1,1,0] (emb Vs)
abbrev HJ:Type 1:=(α:Type)->Int->Int->(Int->Nat->Nat->Int->Op α)->(Bool->Op α)->Op α
def HN (α:Type)(a b:Int)(k1:Int->Nat->Nat->Int->Op α)(k2:Bool->Op α):Op α:=
 cK (decide ((w64 (b - a)) < 1048576))
 (xR α a b
 (fun c d e g=>dV α
 (k1 g c d e)))
 (k2 (decide ((w64 (b - a)) < 1048576)))
def v8:HJ:=sld HN
def Nf (v:HJ)(α:Type)(K:KT α):Int->Int->Int->Int->Int->Int->Int->ae->Int->Int->Nat->Nat->Int->Int->Int->Int->Int->Nat->Nat->Int->Op α:=fun w d e g h i j l m o p q r a b s t z A B=>v α a b (fun c C D F=>ahi (K .normal) c d e g h i j l m o p q r a b s t C D F) (fun c=>aiK (K .normal) c w d e g h i j l m o p q r a b s t z A B)
theorem acU:∀ (α:Type) (K:KT α),Nf v8 α K=BN.unc fun σ=>az Pg aEn avZ abi K σ:=aZ (fun α K=>by kernel_rfl)
abbrev S7:Type 1:=(α:Type)->Int->Int->Int->Int->Int->Int->ae->Int->Int->Int->Int->(Nat->Nat->Int->Int->Op α)->Op α
def Zn (α:Type)(i j l m o p:Int)(q:ae)(r s t a:Int)(k1:Nat->Nat->Int->Int->Op α):Op α:=
 CS α i j l m o p q r s t
 (fun w z e g b=>cK (b != 0)
 (k1 0 0 0 b)
 (v8 α (w64 (a*w)) (w64 (a*z))
 (fun h A B C=>cK (h != 0)
 (k1 0 0 0 h)
 (si α (w64 (a*e)) (w64 (a*g))
 (fun D F c=>cK (c != 0)
 (k1 0 0 0 c)
 (pd α c D F
 (fun G H I J=>cS α J A B C G H I
 (fun L M N O=>k1 L M N O))))))
 (fun a0=>cK (b != 0)
 (k1 0 0 0 b)
 (si α (w64 (a*e)) (w64 (a*g))
 (fun P Q d=>cK (d != 0)
 (k1 0 0 0 d)
 (pd α d P Q
 (fun R T U V=>cS α V 0 0 1048576 R T U
 (fun W X Y Z=>k1 W X Y Z))))))))
def xN:S7:=sld Zn
def Xa (v:S7)(α:Type)(k:RT α):Int->Int->Int->Int->Int->Int->Int->ae->I4 (Op α):=fun j a b c l d e g h i m o=>v α j a b c d e g h i m o (fun p q r s=>cO k p q r s a b c l d e g h i)
def amP:ah:=(ah.put (.u 3) [1,1,0,1,0] (ah.put (.m [⟨BN,Nf v8⟩]) [1,1,1,1,1] (emb Vs)))
theorem an6:ak Pg 182 95 ⟨qI,Xa xN⟩:=iZ aFv (ag Tryz.func182 (by kernel_rfl)) avZ amP ((am _ _).trans ((am _ _).trans (aA _))) (GB (by decide) (aM (by kernel_rfl) (aD Vs) ⟨acU,trivial⟩)) fun _ _=>by kernel_rfl
def aA4:SG:=[(12,iT),(14,iS 2),(16,iT),(18,iS 2),(20,[.sl]),(22,iS 2),(32,iS 2),(34,iS 2),(36,iS 2),(39,iT),(40,iS 2),(41,iS 2)]
def aFN:TG:=[tT 0 [3,4,5,6],tT 1 [4,6,8,9],tT 2 [4,6,8,9,28],tT 3 [6,7],tT 4 [6,7]]
def aEH:aq:=aw Pg Tryz.f125 aFN aC
abbrev z3:Type 1:=(α:Type)->ae->Int->Int->Int->Int->Int->Int->Int->Int->Int->(Int->Int->Int->Op α)->Op α
def Yw (α:Type)(j:ae)(l m a o p q r s t:Int)(k1:Int->Int->Int->Op α):Op α:=
 EV α p s t o q r j l m
 (fun b c d e g h i=>cK (i != 0)
 (k1 0 0 i)
 (ixK [[DC.v (.int .i64 b),DC.v (.int .i64 c)],[DC.v (.int .i64 d),DC.v (.int .i64 e)],[DC.v (.int .i64 g),DC.v (.int .i64 h)]] a 2
 (ldK [[DC.v (.int .i64 b),DC.v (.int .i64 c)],[DC.v (.int .i64 d),DC.v (.int .i64 e)],[DC.v (.int .i64 g),DC.v (.int .i64 h)]] (Int.toNat a) 0 [.int .i64,.int .i64]
 (fun w z=>k1 w z 0))))
def CZ:z3:=sld Yw
def YR (v:z3)(α:Type)(k:RT α):ae->ae->I15 (Op α):=fun q a b c d e g r s t w z A h i j l=>v α a b c d e g h i j l (fun m o p=>jk k m o p)
theorem arc:ak Pg 125 42 ⟨xu,YR CZ⟩:=iP aFv aEH (ag Tryz.func125 (by kernel_rfl)) aA4 fun _ _=>by kernel_rfl
def Ff:SG:=[(22,[.sl]),(30,iT),(45,[.cpx .f64,.int .i64]),(51,[.cpx .f64,.int .i64,.cpx .f64,.int .i64,.cpx .f64,.int .i64,.cpx .f64,.int .i64]),(53,[.cpx .f64,.int .i64]),(54,[.cpx .f64,.int .i64]),(57,[.cpx .f64,.int .i64,.cpx .f64,.int .i64,.cpx .f64,.int .i64,.cpx .f64,.int .i64]),(58,[.cpx .f64,.int .i64])]
def aEV:TG:=[tT 0 [0,1,4,5],tT 1 [0,1,4,5,6,7],tT 2 [0,1,4,5,6,7,8],tT 3 [0,1,4,5,6,7,8,32],tT 5 [0,1,4,5,6,7,8,9],tT 6 [0,1,4,5,6,7,8,9,10],tT 7 [0,1,4,5,6,7,8,9,10,41],tT 8 [0,1,4,5,6,7,8,9,10],tT 9 [0,1,4,5,6,7,8],tT 4 [0,1,4,5,6,7,8],tT 10 [0,4,5]]
def aAS:TG:=[tT 3 [0,1,4,5,6,7,8]]
def L1:aq:=aw Pg Tryz.f153 aEV aAS
def wD:OT:=tdC (ah.sub [1,1,0,1,0] (emb L1))
def vB:PT St:=pSv [(0,500000000,0)] [sl 0 (aV false [(cE 500000000 0)]),sl 1 (aV false [(cD dB)]),sP 4,sP 5,sP 6,sP 7,sI 8,sP 9,sP 10] [au 500000000 [xI,xI,xI,xI,xI,xI,xI,(cD dL),xI,xI],au 4 [(cD (dX .f64)),xI,(cD (dX .f64)),xI,(cD (dX .f64)),xI,(cD (dX .f64)),xI],au 5 [(cD (dX .f64)),xI],au 6 [(cD (dX .f64)),xI,(cD (dX .f64)),xI,(cD (dX .f64)),xI,(cD (dX .f64)),xI],au 7 [(cD (dX .f64)),xI],au 9 [(cD (dX .f64)),xI],au 10 [(cD (dX .f64)),xI]]
def aho {β:Type}(g:St->β):Bool->Int->Int->Int->Int->Int->Int->Int->Int->ae->Int->Int->Nat->Nat->Int->Nat->Nat->Int->Nat->Nat->Int->Nat->Nat->Int->Nat->Nat->Int->Nat->Nat->Int->Nat->Nat->Int->Nat->Nat->Int->Nat->Nat->Int->Nat->Nat->Int->Nat->Nat->Int->Nat->Nat->Int->β:=vB.unc g
def ahl:PT St:=pSv [(0,500000000,0)] [sl 0 (aV false [(cE 500000000 0)]),sl 1 (aV false [(cD dB)]),sP 4,sP 5,sP 6,sP 7,sI 8,sP 9,sP 10,sl 41 (aV false [(cD dB)])] [au 500000000 [xI,xI,xI,xI,xI,xI,xI,(cD dL),xI,xI],au 4 [(cD (dX .f64)),xI,(cD (dX .f64)),xI,(cD (dX .f64)),xI,(cD (dX .f64)),xI],au 5 [(cD (dX .f64)),xI],au 6 [(cD (dX .f64)),xI,(cD (dX .f64)),xI,(cD (dX .f64)),xI,(cD (dX .f64)),xI],au 7 [(cD (dX .f64)),xI],au 9 [(cD (dX .f64)),xI],au 10 [(cD (dX .f64)),xI]]
def aik {β:Type}(g:St->β):Bool->Int->Bool->Int->Int->Int->Int->Int->Int->Int->ae->Int->Int->Nat->Nat->Int->Nat->Nat->Int->Nat->Nat->Int->Nat->Nat->Int->Nat->Nat->Int->Nat->Nat->Int->Nat->Nat->Int->Nat->Nat->Int->Nat->Nat->Int->Nat->Nat->Int->Nat->Nat->Int->Nat->Nat->Int->β:=ahl.unc g
def EP:PT St:=pSv [(0,500000000,0)] [sl 0 (aV false [(cE 500000000 0)]),sl 1 (aV false [(cD dB)]),sP 4,sP 5,sP 6,sP 7,sI 8] [au 500000000 [xI,xI,xI,xI,xI,xI,xI,(cD dL),xI,xI],au 4 [(cD (dX .f64)),xI,(cD (dX .f64)),xI,(cD (dX .f64)),xI,(cD (dX .f64)),xI],au 5 [(cD (dX .f64)),xI],au 6 [(cD (dX .f64)),xI,(cD (dX .f64)),xI,(cD (dX .f64)),xI,(cD (dX .f64)),xI],au 7 [(cD (dX .f64)),xI]]
def DR {β:Type}(g:St->β):Bool->Int->Int->Int->Int->Int->Int->Int->Int->ae->Int->Int->Nat->Nat->Int->Nat->Nat->Int->Nat->Nat->Int->Nat->Nat->Int->Nat->Nat->Int->Nat->Nat->Int->Nat->Nat->Int->Nat->Nat->Int->Nat->Nat->Int->Nat->Nat->Int->β:=EP.unc g
def aeS:PT St:=pSv [(0,500000000,0)] [sl 0 (aV false [(cE 500000000 0)]),sl 1 (aV false [(cD dB)]),sP 4,sP 5,sP 6,sP 7,sI 8,sl 32 (aV false [(cD dB)])] [au 500000000 [xI,xI,xI,xI,xI,xI,xI,(cD dL),xI,xI],au 4 [(cD (dX .f64)),xI,(cD (dX .f64)),xI,(cD (dX .f64)),xI,(cD (dX .f64)),xI],au 5 [(cD (dX .f64)),xI],au 6 [(cD (dX .f64)),xI,(cD (dX .f64)),xI,(cD (dX .f64)),xI,(cD (dX .f64)),xI],au 7 [(cD (dX .f64)),xI]]
def uW {β:Type}(g:St->β):Bool->Int->Bool->Int->Int->Int->Int->Int->Int->Int->ae->Int->Int->Nat->Nat->Int->Nat->Nat->Int->Nat->Nat->Int->Nat->Nat->Int->Nat->Nat->Int->Nat->Nat->Int->Nat->Nat->Int->Nat->Nat->Int->Nat->Nat->Int->Nat->Nat->Int->β:=aeS.unc g
def ZC:PT (List RV):=pRs [pR true [rD (dX .f64),rD (dI .i64),rD (dX .f64),rD (dI .i64),rD (dX .f64),rD (dI .i64),rD (dX .f64),rD (dI .i64)],pR true [rD (dX .f64),rD (dI .i64)],pR true [rD (dI .i64),rD (dI .i64),rD (dI .i64),rD (dI .i64),rD (dI .i64),rD (dI .i64),rD (dI .i64),rD dL,rD (dI .i64),rD (dI .i64)]]
def abA {β:Type}(g:List RV->β):Nat->Nat->Int->Nat->Nat->Int->Nat->Nat->Int->Nat->Nat->Int->Nat->Nat->Int->Int->Int->Int->Int->Int->Int->Int->ae->Int->Int->β:=ZC.unc g
noncomputable abbrev aws:List bC:=⟨182,95,[⟨qI,Xa xN⟩]⟩::⟨125,42,[⟨xu,YR CZ⟩]⟩::azT
theorem aIh:bH aws fun c=>bH c.l (ak Pg c.f c.nt):=⟨⟨an6,trivial⟩,⟨arc,trivial⟩,aDf⟩
def Pa:aF:=aF.ofIO aws bu io0
theorem aGG:Pa.Ok Pg:=aF.ofIO_ok aN aIh
def aac:ah:=ah.sub [1,1,0,1,0,0,1,0,0,1,1,0] (emb L1)
abbrev F8:Type 1:=(α:Type)->Bool->Int->Int->Int->Int->Int->Int->Int->ae->Int->Int->Nat->Nat->Int->(Int->Nat->Nat->Int->Op α)->(Op α)->Op α
def Gr (α:Type)(a:Bool)(b c d e g h i:Int)(j:ae)(l m:Int)(o p:Nat)(q:Int)(k1:Int->Nat->Nat->Int->Op α)(k2:Op α):Op α:=
 cK a
 (xN α c d e g h i j l m b 1
 (fun r s t w=>cS α w o p q r s t
 (fun z A B C=>k1 C z A B)))
 (k2)
def nN:F8:=sld Gr
def EC (v:F8)(α:Type)(K:KT α):Bool->Int->Int->Int->Int->Int->Int->Int->Int->ae->Int->Int->Nat->Nat->Int->Nat->Nat->Int->Nat->Nat->Int->Nat->Nat->Int->Nat->Nat->Int->Nat->Nat->Int->Nat->Nat->Int->Nat->Nat->Int->Nat->Nat->Int->Nat->Nat->Int->Nat->Nat->Int->Nat->Nat->Int->Op α:=fun a b m c d e o g h i j l p q r s t w z A B C D F G H I J L M N O P Q R T U V W X Y Z a0 a1 a2 a3 a4 a5=>v α a b m c d e g h i j l X Y Z (fun a6 a7 a8 a9=>aho (K .normal) a b a6 c d e o g h i j l p q r s t w z A B C D F G H I J L M N O P Q R T U V W a7 a8 a9 a0 a1 a2 a3 a4 a5) (aik (K .normal) a b a m c d e o g h i j l p q r s t w z A B C D F G H I J L M N O P Q R T U V W X Y Z a0 a1 a2 a3 a4 a5)
theorem ahO:∀ (α:Type) (K:KT α),EC nN α K=vB.unc fun σ=>az Pg Pa Ff aac K σ:=aZ (fun α K=>by kernel_rfl)
def wR:ah:=ah.sub [1,1,0,1,0,0] (ah.put (.m [⟨vB,EC nN⟩]) [1,1,0,1,0,0,1,0,0,1,1] (emb L1))
def pn (α:Type)(P:Bool)(z A B Q F G:Int)(c:ae)(C D a b:Int)(d e:Nat)(g:Int)(h i:Nat)(j:Int)(l m:Nat)(o:Int)(p q:Nat)(r:Int)(s t:Nat)(w:Int)(kn:Int->Int->Nat->Nat->Int->Nat->Nat->Int->Nat->Nat->Int->Nat->Nat->Int->Nat->Nat->Int->Op α)(k1:Int->Bool->Int->Nat->Nat->Int->Nat->Nat->Int->Nat->Nat->Int->Nat->Nat->Int->Nat->Nat->Int->Op α):Op α:=
 cK (decide (a<=((List.length c:Nat):Int)))
 (cK (b == 0)
 (jt α b z A B Q c C D a
 (fun H I J R=>xN α R z A B F G c C D a 2
 (fun L M N O=>nN α P a O z A B F G c C D s t w
 (fun T U V W=>yk α T H I J L M N
 (fun X Y Z a0 a1 a2 a3 a4 a5 a6 a7 a8 a9=>xj α a9 d e g h i j l m o p q r X Y Z a0 a1 a2 a3 a4 a5 a6 a7 a8
 (fun b0 b1 b2 b3 b4 b5 b6 b7 b8 b9 c0 c1 c2=>kn (w64 (a+1)) c2 b0 b1 b2 b3 b4 b5 b6 b7 b8 b9 c0 c1 U V W)))
 (yk α O H I J L M N
 (fun c3 c4 c5 c6 c7 c8 c9 d0 d1 d2 d3 d4 d5=>xj α d5 d e g h i j l m o p q r c3 c4 c5 c6 c7 c8 c9 d0 d1 d2 d3 d4
 (fun d6 d7 d8 d9 e0 e1 e2 e3 e4 e5 e6 e7 e8=>kn (w64 (a+1)) e8 d6 d7 d8 d9 e0 e1 e2 e3 e4 e5 e6 e7 s t w))))))
 (k1 a (b == 0) b d e g h i j l m o p q r s t w))
 (k1 a false b d e g h i j l m o p q r s t w)
def lO (α:Type)(a:Bool)(b c d e g h:Int)(i:ae)(j l:Int)(k1:Int->Bool->Int->Nat->Nat->Int->Nat->Nat->Int->Nat->Nat->Int->Nat->Nat->Int->Nat->Nat->Int->Op α):Nat->Int->Int->Nat->Nat->Int->Nat->Nat->Int->Nat->Nat->Int->Nat->Nat->Int->Nat->Nat->Int->Op α
 | 0=>fun _ _ _ _ _ _ _ _ _ _ _ _ _ _ _ _ _=>none
 | n+1=>fun m o p q r s t w z A B C D F G H I=>pn α a b c d e g h i j l m o p q r s t w z A B C D F G H I (lO α a b c d e g h i j l k1 n) k1
def H0 (α:Type)(a:Bool)(b c d e g h:Int)(i:ae)(j l:Int)(k1:Int->Bool->Int->Nat->Nat->Int->Nat->Nat->Int->Nat->Nat->Int->Nat->Nat->Int->Nat->Nat->Int->Op α)(m o:Int)(p q:Nat)(r:Int)(s t:Nat)(w:Int)(z A:Nat)(B:Int)(C D:Nat)(F:Int)(G H:Nat)(I:Int):Op α:=lO α a b c d e g h i j l k1 aE m o p q r s t w z A B C D F G H I
abbrev Fl:Type 1:=(α:Type)->Bool->Int->Int->Int->Int->Int->Int->ae->Int->Int->(Int->Bool->Int->Nat->Nat->Int->Nat->Nat->Int->Nat->Nat->Int->Nat->Nat->Int->Nat->Nat->Int->Op α)->Int->Int->Nat->Nat->Int->Nat->Nat->Int->Nat->Nat->Int->Nat->Nat->Int->Nat->Nat->Int->Op α
def uf:Fl:=sld H0
def LE (v:Fl)(α:Type)(K:KT α):Bool->Int->Int->Int->Int->Int->Int->Int->Int->ae->Int->Int->Nat->Nat->Int->Nat->Nat->Int->Nat->Nat->Int->Nat->Nat->Int->Nat->Nat->Int->Nat->Nat->Int->Nat->Nat->Int->Nat->Nat->Int->Nat->Nat->Int->Nat->Nat->Int->Op α:=fun a m o b c d e g h i j l p q r s t w z A B C D F G H I J L M N O P Q R T U V W X Y Z=>v α a b c d e g h i j l (fun a0 a1 a2 a3 a4 a5 a6 a7 a8 a9 b0 b1 b2 b3 b4 b5 b6 b7=>uW (K (.exit 0)) a a0 a1 a2 b c d e g h i j l p q r s t w z A B C D F G H I a3 a4 a5 a6 a7 a8 a9 b0 b1 b2 b3 b4 b5 b6 b7) m o J L M N O P Q R T U V W X Y Z
theorem af9 (α:Type)(K:KT α)(Kn:SK α)(a:Bool)(b c d e g h i j:Int)(l:ae)(m o:Int)(J L:Nat)(M:Int)(N O:Nat)(P:Int)(Q R:Nat)(T:Int)(U V:Nat)(W:Int)(X Y:Nat)(Z:Int)(p q:Nat)(r:Int)(s t:Nat)(w:Int)(z A:Nat)(B:Int)(C D:Nat)(F:Int)(G H:Nat)(I:Int):DR (fun σ=>az Pg Pa Ff wR (bI (fun σ=>br wD σ Kn) K) σ) a b c d e g h i j l m o J L M N O P Q R T U V W X Y Z p q r s t w z A B C D F G H I=pn α a d e g h i j l m o b c p q r s t w z A B C D F G H I (fun b c p q r s t w z A B C D F G H I=>DR Kn a b c d e g h i j l m o J L M N O P Q R T U V W X Y Z p q r s t w z A B C D F G H I) (fun a0 a1 a2 a3 a4 a5 a6 a7 a8 a9 b0 b1 b2 b3 b4 b5 b6 b7=>uW (K (.exit 0)) a a0 a1 a2 d e g h i j l m o J L M N O P Q R T U V W X Y Z a3 a4 a5 a6 a7 a8 a9 b0 b1 b2 b3 b4 b5 b6 b7):=by kernel_rfl
theorem afp (α:Type)(K:KT α):∀ (n:Nat) (a:Bool) (m o b c d e g h:Int) (i:ae) (j l:Int) (J L:Nat) (M:Int) (N O:Nat) (P:Int) (Q R:Nat) (T:Int) (U V:Nat) (W:Int) (X Y:Nat) (Z:Int) (p q:Nat) (r:Int) (s t:Nat) (w:Int) (z A:Nat) (B:Int) (C D:Nat) (F:Int) (G H:Nat) (I:Int),lO α a b c d e g h i j l (fun a0 a1 a2 a3 a4 a5 a6 a7 a8 a9 b0 b1 b2 b3 b4 b5 b6 b7=>uW (K (.exit 0)) a a0 a1 a2 b c d e g h i j l J L M N O P Q R T U V W X Y Z a3 a4 a5 a6 a7 a8 a9 b0 b1 b2 b3 b4 b5 b6 b7) n m o p q r s t w z A B C D F G H I=DR (aJ (az Pg Pa Ff wR) wD K n) a m o b c d e g h i j l J L M N O P Q R T U V W X Y Z p q r s t w z A B C D F G H I:=by
 intro n
 induction n with
 | zero=>intros;rfl
 | succ n ih=>intro a m o b c d e g h i j l J L M N O P Q R T U V W X Y Z p q r s t w z A B C D F G H I;exact (congrArg (fun kn=>pn α a b c d e g h i j l m o p q r s t w z A B C D F G H I kn (fun a0 a1 a2 a3 a4 a5 a6 a7 a8 a9 b0 b1 b2 b3 b4 b5 b6 b7=>uW (K (.exit 0)) a a0 a1 a2 b c d e g h i j l J L M N O P Q R T U V W X Y Z a3 a4 a5 a6 a7 a8 a9 b0 b1 b2 b3 b4 b5 b6 b7)) (funext fun m=>funext fun o=>funext fun p=>funext fun q=>funext fun r=>funext fun s=>funext fun t=>funext fun w=>funext fun z=>funext fun A=>funext fun B=>funext fun C=>funext fun D=>funext fun F=>funext fun G=>funext fun H=>funext fun I=>ih a m o b c d e g h i j l J L M N O P Q R T U V W X Y Z p q r s t w z A B C D F G H I)).trans (af9 α K (aJ (az Pg Pa Ff wR) wD K n) a m o b c d e g h i j l J L M N O P Q R T U V W X Y Z p q r s t w z A B C D F G H I).symm
theorem afx:∀ (α:Type) (K:KT α),LE uf α K=EP.unc fun σ=>aJ (az Pg Pa Ff wR) wD K aE σ:=aZ (fun α K=>funext fun a=>funext fun b=>funext fun c=>funext fun d=>funext fun e=>funext fun g=>funext fun h=>funext fun i=>funext fun j=>funext fun l=>funext fun m=>funext fun o=>funext fun p=>funext fun q=>funext fun r=>funext fun s=>funext fun t=>funext fun w=>funext fun z=>funext fun A=>funext fun B=>funext fun C=>funext fun D=>funext fun F=>funext fun G=>funext fun H=>funext fun I=>funext fun J=>funext fun L=>funext fun M=>funext fun N=>funext fun O=>funext fun P=>funext fun Q=>funext fun R=>funext fun T=>funext fun U=>funext fun V=>funext fun W=>funext fun X=>funext fun Y=>funext fun Z=>afp α K aE a b c d e g h i j l m o p q r s t w z A B C D F G H I J L M N O P Q R T U V W X Y Z)
abbrev YG:Type 1:=(α:Type)->Int->Int->Int->Int->Int->Int->Int->ae->Int->Int->Bool->(Nat->Nat->Int->Nat->Nat->Int->Nat->Nat->Int->Nat->Nat->Int->Nat->Nat->Int->Int->Op α)->Op α
def So (α:Type)(a b c d e g h:Int)(i:ae)(j l:Int)(m:Bool)(k1:Nat->Nat->Int->Nat->Nat->Int->Nat->Nat->Int->Nat->Nat->Int->Nat->Nat->Int->Int->Op α):Op α:=
 mJ α
 (BE α
 (BE α
 (mJ α
 (mJ α
 (uf α m b c d e g h i j l
 (fun J L o p q r s t w z A B C D F G H I=>k1 p q r s t w z A B C D F G H I o) 1 a 4697254411347427328 0 0 0 0 0 0 0 0 4697254411347427328 0 0 4697254411347427328 0 0)))))
def Cp:YG:=sld So
def Ax:PT (List DV):=pA [pV false [(dMr [(dI .i64),(dI .i64),(dI .i64),(dI .i64),(dI .i64),(dI .i64),(dI .i64),dL,(dI .i64),(dI .i64)] 0)],pV false [dB]]
def U7 (v:YG)(α:Type)(k:RT α):Int->Int->Int->Int->Int->Int->Int->ae->Int->Int->Bool->Op α:=fun l a b c d e g h i j m=>v α l a b c d e g h i j m (fun o p q r s t w z A B C D F G H I=>abA k o p q r s t w z A B C D F G H I a b c d e g h i j)
def aoo:ah:=(ah.put (.m [⟨EP,LE uf⟩]) [1,1,0,1,0] (ah.put (.m [⟨vB,EC nN⟩]) [1,1,0,1,0,0,1,0,0,1,1] (emb L1)))
theorem auQ:ak Pg 153 59 ⟨Ax,U7 Cp⟩:=iZ aGG (ag Tryz.func153 (by kernel_rfl)) Ff aoo ((am _ _).trans ((am _ _).trans (aA _))) (aW (td:=wD) (by kernel_rfl) (aM (by kernel_rfl) (aD L1) ⟨ahO,trivial⟩) ⟨afx,trivial⟩) fun _ _=>by kernel_rfl
def avk:SG:=[(10,[.sl,.sl,.int .i64,.int .i64]),(11,iS 9),(12,iS 4),(19,iT),(22,iT),(27,iT),(30,iT),(35,iT),(38,iT),(43,iT),(46,iT)]
def aDW:TG:=[tT 0 [3,4,5],tT 1 [4,7,8],tT 2 [4,7,17],tT 3 [6],tT 4 [4,7,33],tT 5 [6],tT 6 [49],tT 7 [6],tT 8 [6]]
def adu:aq:=aw Pg Tryz.f101 aDW aC
def BQ:PT St:=pS [sP 4,sP 7,sl 17 (aV false [(cD dB)])] [au 4 (xs 9),au 7 [xI,xI]]
def aEp {β:Type}(g:St->β):Bool->I11 β:=BQ.unc g
def ago:PT St:=pS [sI 6] []
def ahh {β:Type}(g:St->β):Int->β:=ago.unc g
def alb:PT St:=pS [sP 4,sP 7,sl 33 (aV false [(cD dB)])] [au 4 (xs 9),au 7 [xI,xI]]
def agK {β:Type}(g:St->β):Bool->I11 β:=alb.unc g
def aaT:ah:=ah.sub [1,1,1,0] (emb adu)
def GH (α:Type)(c a d b:Int)(k1:Op α)(k2:Bool->Op α):Op α:=
 cK (decide ((w64 (c*1048576))<=(w64 (d*10000))))
 (cK (decide ((w64 (b*10000))<=(w64 (a*1048576))))
 (k1)
 (k2 (decide ((w64 (b*10000))<=(w64 (a*1048576))))))
 (k2 false)
def ml:qm:=sld GH
def OA (v:qm)(α:Type)(K:KT α):Bool->I11 (Op α):=fun p e g h i j l m a b c d=>v α a b c d (ahh (K .ret) 2) (fun o=>agK (K .normal) o e g h i j l m a b c d)
theorem aj3:∀ (α:Type) (K:KT α),OA ml α K=BQ.unc fun σ=>az Pg Pa avk aaT K σ:=aZ (fun α K=>by kernel_rfl)
abbrev AD:Type 1:=(α:Type)->ae->Int->Int->Int->Int->Int->Int->Int->Int->Int->Int->Int->(Int->Op α)->Op α
def Vx (α:Type)(e:ae)(g h i j l a b m o p q:Int)(k1:Int->Op α):Op α:=
 CZ α e g h i j l m o p q
 (fun c d r=>cK (r != 0)
 (k1 1)
 (ml α a b c d
 (k1 2)
 (fun s=>cK (decide ((w64 (d*10000)) < (w64 (a*1048576))))
 (k1 0)
 (cK (decide ((w64 (b*1048576)) < (w64 (c*10000))))
 (k1 0)
 (k1 1)))))
def gG:AD:=sld Vx
def Yv (v:AD)(α:Type)(k:RT α):ae->ae->I15 (Op α):=fun q a b c d e g r s t w h i j l m o=>v α a b c d e g h i j l m o (fun p=>aR k p)
def amz:ah:=(ah.put (.m [⟨BQ,OA ml⟩]) [1,1,1] (emb adu))
theorem apo:ak Pg 101 50 ⟨xu,Yv gG⟩:=iZ aGG (ag Tryz.func101 (by kernel_rfl)) avk amz ((am _ _).trans (aA _)) (aM (by kernel_rfl) (aD adu) ⟨aj3,trivial⟩) fun _ _=>by kernel_rfl
def aAp:SG:=[(26,[.sl]),(34,[.cpx .f64,.int .i64]),(39,[.cpx .f64,.int .i64]),(40,[.cpx .f64,.int .i64]),(47,[.cpx .f64,.int .i64]),(52,[.cpx .f64,.int .i64]),(53,[.cpx .f64,.int .i64]),(59,[.cpx .f64,.int .i64]),(60,[.cpx .f64,.int .i64]),(65,[.cpx .f64,.int .i64]),(66,[.cpx .f64,.int .i64]),(78,[.cpx .f64,.int .i64]),(79,[.cpx .f64,.int .i64]),(81,[.cpx .f64,.int .i64]),(83,[.cpx .f64,.int .i64]),(91,[.cpx .f64,.int .i64]),(92,[.cpx .f64,.int .i64]),(94,[.cpx .f64,.int .i64])]
def aDb:TG:=[tT 0 [0,1,4],tT 1 [0,1,4,5],tT 2 [0,1,4,5,6,7],tT 3 [0,1,4,5,6,7,8],tT 4 [0,1,4,5,6,7,8,9],tT 5 [0,1,4,5,7,9,10],tT 6 [0,1,4,5,7,10,11],tT 7 [0,1,4,5,7,10,11,12],tT 8 [0,4,5,7,10,11,12,68],tT 9 [0,4],tT 10 [0,4]]
def aHw:aq:=aw Pg Tryz.f128 aDb aC
noncomputable abbrev ayL:List bC:=⟨153,59,[⟨Ax,U7 Cp⟩]⟩::⟨101,50,[⟨xu,Yv gG⟩]⟩::aws
theorem aH9:bH ayL fun c=>bH c.l (ak Pg c.f c.nt):=⟨⟨auQ,trivial⟩,⟨apo,trivial⟩,aIh⟩
def azc:aF:=aF.ofIO ayL bu io0
theorem aBs:azc.Ok Pg:=aF.ofIO_ok aN aH9
abbrev Ut:Type 1:=(α:Type)->Int->Int->Int->Int->Int->Int->Int->ae->Int->Int->Bool->(Nat->Nat->Int->Int->Op α)->Op α
def QS (α:Type)(G b c d e H I:Int)(a:ae)(g h:Int)(m:Bool)(k1:Nat->Nat->Int->Int->Op α):Op α:=
 jt α G b c d e a g h 0
 (fun i j l J=>Cp α J b c d e H I a g h m
 (fun L M N O P Q R T U V W X Y Z a0 a1=>jt α a1 b c d e a g h (w64 (((List.length a:Nat):Int)+1))
 (fun o p q a2=>cS α a2 O P Q o p q
 (fun a3 a4 a5 a6=>fA α a6 L M N a3 a4 a5
 (fun a7 a8 a9 b0=>cS α b0 V W X o p q
 (fun b1 b2 b3 b4=>fA α b4 R T U b1 b2 b3
 (fun r s t b5=>cS α b5 i j l a7 a8 a9
 (fun w z A b6=>fA α b6 w z A r s t
 (fun B C D F=>cK m
 (fA α F i j l i j l
 (fun b7 b8 b9 c0=>cS α c0 b7 b8 b9 Y Z a0
 (fun c1 c2 c3 c4=>pP α c4 c1 c2 c3 B C D
 (fun c5 c6 c7 c8=>k1 c5 c6 c7 c8))))
 (nV α F w z A r s t
 (fun c9 d0 d1 d2=>pP α d2 c9 d0 d1 B C D
 (fun d3 d4 d5 d6=>k1 d3 d4 d5 d6))))))))))))
def xF:Ut:=sld QS
def Sd (v:Ut)(α:Type)(k:RT α):Int->Int->Int->Int->Int->Int->Int->ae->Int->Int->Bool->Op α:=fun l a b c d e g h i j m=>v α l a b c d e g h i j m (fun o p q r=>cO k o p q r a b c d e g h i j)
theorem apu:ak Pg 128 96 ⟨Ax,Sd xF⟩:=iP aBs aHw (ag Tryz.func128 (by kernel_rfl)) aAp fun _ _=>by kernel_rfl
def nC:SG:=[(20,[.bool]),(22,[.sl]),(24,iS 9),(25,iS 9),(26,[.sl,.sl,.int .i64,.int .i64]),(27,iS 9),(28,iS 4),(35,[.sl]),(42,iS 2),(45,iS 2),(48,[.sl,.sl,.int .i64,.int .i64]),(49,iS 9),(51,iT),(53,iT),(59,iS 3),(65,iS 4),(83,[.sl]),(90,iS 4),(96,[.sl,.sl,.int .i64,.int .i64]),(98,iS 4),(103,[.sl,.sl,.int .i64,.int .i64]),(105,iS 4)]
def aJr:TG:=[tT 0 [0,2,4,6,8],tT 1 [0,2,4,6,8,20],tT 2 [0,2,4,6,8,10],tT 3 [0,2,4,6,8,10,30],tT 4 [0],tT 5 [0,2,4,6,8,10,11],tT 6 [0,2,4,6,8,11,56],tT 7 [0],tT 8 [0,2,4,6,8,12,13],tT 9 [0,2,4,6,8,12,74],tT 10 [0],tT 11 [0,2,4,6,8,12,14],tT 12 [0,2,4,6,8,12,14,78],tT 13 [0,2,4,6,8,12,14],tT 14 [0,2,4,6,8,12],tT 15 [0,2,4,6,15,16],tT 16 [0,2,4,6,16],tT 17 [0]]
def Fa:aq:=aw Pg Tryz.f74 aJr aC
def m9:PT St:=pSv [(0,500000000,0)] [sl 0 (aV false [(cE 500000000 0)]),sI 2,sI 4,sP 6,sP 8,sl 12 (aV false [(cD dB)]),sl 13 (aV false [(cD dB)])] [au 500000000 [(dG 500000001),(cD dB),xI,xI,xI,(cD dB)],dE 500000001 1,au 6 [(cD dL),(cD dL),xI,xI],au 8 (xs 4)]
def aIs {β:Type}(g:St->β):Int->Int->Bool->Bool->Bool->Int->Int->Int->Bool->ae->ae->ae->I6 β:=m9.unc g
def amH:PT St:=pSv [(0,500000000,0)] [sl 0 (aV false [(cE 500000000 0)]),sI 2,sI 4,sP 6,sP 8,sl 12 (aV false [(cD dB)]),sl 74 (aV false [(cD dB)])] [au 500000000 [(dG 500000001),(cD dB),xI,xI,xI,(cD dB)],dE 500000001 1,au 6 [(cD dL),(cD dL),xI,xI],au 8 (xs 4)]
def apO {β:Type}(g:St->β):Int->Int->Bool->Bool->Bool->Int->Int->Int->Bool->ae->ae->ae->I6 β:=amH.unc g
def mw:PT St:=pSv [(0,500000000,0)] [sl 0 (aV false [(cE 500000000 0)]),sI 2,sI 4,sP 6,sP 8,sl 12 (aV false [(cD dB)]),sI 14] [au 500000000 [(dG 500000001),(cD dB),xI,xI,xI,(cD dB)],dE 500000001 1,au 6 [(cD dL),(cD dL),xI,xI],au 8 (xs 4)]
def atB {β:Type}(g:St->β):Int->Int->Bool->Int->Bool->Int->Int->Int->Bool->ae->ae->ae->I6 β:=mw.unc g
def amO:PT St:=pSv [(0,500000000,0)] [sl 0 (aV false [(cE 500000000 0)]),sI 2,sI 4,sP 6,sP 8,sl 12 (aV false [(cD dB)]),sI 14,sl 78 (aV false [(cD dB)])] [au 500000000 [(dG 500000001),(cD dB),xI,xI,xI,(cD dB)],dE 500000001 1,au 6 [(cD dL),(cD dL),xI,xI],au 8 (xs 4)]
def anY {β:Type}(g:St->β):Int->Int->Bool->Int->Bool->Bool->Int->Int->Int->Bool->ae->ae->ae->I6 β:=amO.unc g
def afF:PT (List RV):=pRs [pR true [rO 1,rD dB,rD (dI .i64),rD (dI .i64),rD (dI .i64),rD dB]]
def mc {β:Type}(g:List RV->β):ae->Bool->Int->Int->Int->Bool->β:=afF.unc g
def mo:ah:=ah.sub [1,1,1,1,1,1,1,1,1,0] (emb Fa)
def qu (v:jh)(α:Type)(K:KT α):Int->Int->Bool->Int->Bool->Int->Int->Int->Bool->ae->ae->ae->I6 (Op α):=fun b c a w d e g h i j l m o p q r s t=>v α a (atB (K .normal) b c a 1 d e g h i j l m o p q r s t) (anY (K .normal) b c a w a d e g h i j l m o p q r s t)
theorem auy:∀ (α:Type) (K:KT α),qu be α K=mw.unc fun σ=>az Pg azc nC mo K σ:=aZ (fun α K=>by kernel_rfl)
def lP:ah:=ah.sub [1,1,1,1,1,1,1,0,0] (emb Fa)
abbrev EQ:Type 1:=(α:Type)->Int->Bool->(Bool->Op α)->Op α
def jl (α:Type)(a:Int)(b:Bool)(k1:Bool->Op α):Op α:=
 cK (decide (5<=a))
 (k1 true)
 (k1 (!b))
def ct:EQ:=sld jl
def rc (v:EQ)(α:Type)(K:KT α):Int->Int->Bool->Bool->Bool->Int->Int->Int->Bool->ae->ae->ae->I6 (Op α):=fun b a c d e g h i j l m o p q r s t w=>v α a d (fun z=>apO (K .normal) b a c z e g h i j l m o p q r s t w)
theorem arO:∀ (α:Type) (K:KT α),rc ct α K=m9.unc fun σ=>az Pg azc nC lP K σ:=aZ (fun α K=>by kernel_rfl)
abbrev jQ:Type 1:=(α:Type)->ae->Bool->Int->Int->Int->Bool->ae->ae->Int->Int->Int->Int->Int->Int->Int->Int->(ae->Bool->Int->Int->Int->Bool->Op α)->Op α
def Pu (α:Type)(a:ae)(g:Bool)(h i j:Int)(l:Bool)(D q:ae)(r s t b c d e F:Int)(k1:ae->Bool->Int->Int->Int->Bool->Op α):Op α:=
 cK g
 (k1 a g h i j l)
 (dT D t [.int .i64,.int .i64,.int .i64,.int .i64,.int .i64,.int .i64,.int .i64,.int .i64,.int .i64]
 (fun w z A L M N O B C=>gG α q r s w z A B C b c d e
 (fun G=>cK (G == 2)
 (gK (dH 1 8 a [[DC.v (.int .i64 0)]]) (k1 (a++[[DC.v (.int .i64 0)]]) g h i j l))
 (fB α b c
 (fun m=>fB α d e
 (fun o=>oe α
 (gG α q r s w z A B C m m o o
 (fun H=>cK (H == 0)
 (k1 a true t m o l)
 (pg α b c d e
 (fun p I=>ct α F I
 (fun J=>cK J
 (k1 a g h i j true)
 (be α p
 (gK (dH 1 8 a [[DC.v (.int .i64 1)]]) (gC α b c d e p
 (fun P Q R T=>none)))
 (gK (dH 1 8 a [[DC.v (.int .i64 2)]]) (gC α b c d e p
 (fun U V W X=>none)))))))))))))))
def F2:jQ:=sld Pu
def kM:PT (List DV):=pA [pV false [(dMr [(dOs 1),dB,(dI .i64),(dI .i64),(dI .i64),dB] 0)],pV true [dL,dL,(dI .i64),(dI .i64)],vI,pV true [(dI .i64),(dI .i64),(dI .i64),(dI .i64)],vI]
def agE (v:jQ)(α:Type)(k:RT α):ae->Bool->Int->Int->Int->Bool->ae->ae->I8 (Op α):=fun a b c d e g h i j l m o p q r s=>v α a b c d e g h i j l m o p q r s (fun t w z A B C=>mc k t w z A B C)
def CC:ah:=(ah.put (.m [⟨m9,rc ct⟩]) [1,1,1,1,1,1,1,0] (ah.put (.m [⟨mw,qu be⟩]) [1,1,1,1,1,1,1,1,1] (emb Fa)))
theorem aze:ak Pg 74 109 ⟨kM,agE F2⟩:=iZ aBs (ag Tryz.func74 (by kernel_rfl)) nC CC ((am _ _).trans ((am _ _).trans (aA _))) (aM (by kernel_rfl) (aM (by kernel_rfl) (aD Fa) ⟨auy,trivial⟩) ⟨arO,trivial⟩) fun _ _=>by kernel_rfl
noncomputable abbrev Oh:List bC:=⟨74,109,[⟨kM,agE F2⟩]⟩::⟨128,96,[⟨Ax,Sd xF⟩]⟩::ayL
theorem O0:bH Oh fun c=>bH c.l (ak Pg c.f c.nt):=⟨⟨aze,trivial⟩,⟨apu,trivial⟩,aH9⟩
def arA:aF:=aF.ofIO Oh bu io0
theorem az8:arA.Ok Pg:=aF.ofIO_ok aN O0
theorem aqL:∀ (α:Type) (K:KT α),qu be α K=mw.unc fun σ=>az Pg arA nC mo K σ:=aZ (fun α K=>by kernel_rfl)
theorem aux:∀ (α:Type) (K:KT α),rc ct α K=m9.unc fun σ=>az Pg arA nC lP K σ:=aZ (fun α K=>by kernel_rfl)
def asb (vv:jQ)(α:Type)(a:ae)(g:Bool)(m o p:Int)(q:Bool)(r h:ae)(i j l b c d e s:Int)(k1:ae->Bool->Int->Int->Int->Bool->Op α):Op α:=
 cK g
 (k1 a g m o p q)
 (dT r l [.int .i64,.int .i64,.int .i64,.int .i64,.int .i64,.int .i64,.int .i64,.int .i64,.int .i64]
 (fun A B C b8 b9 c0 c1 D F=>gG α h i j A B C D F b c d e
 (fun G=>cK (G == 2)
 (gK (dH 1 8 a [[DC.v (.int .i64 0)]]) (k1 (a++[[DC.v (.int .i64 0)]]) g m o p q))
 (fB α b c
 (fun t=>fB α d e
 (fun w=>oe α
 (gG α h i j A B C D F t t w w
 (fun H=>cK (H == 0)
 (k1 a true l t w q)
 (pg α b c d e
 (fun z I=>ct α s I
 (fun J=>cK J
 (k1 a g m o p true)
 (be α z
 (gK (dH 1 8 a [[DC.v (.int .i64 1)]]) (gC α b c d e z
 (fun L M N O=>vv α (a++[[DC.v (.int .i64 1)]]) g m o p q r h i j l b L d M (w64 (s+1))
 (fun P Q R T U V=>vv α P Q R T U V r h i j l N c O e (w64 (s+1))
 (fun W X Y Z a0 a1=>k1 W X Y Z a0 a1)))))
 (gK (dH 1 8 a [[DC.v (.int .i64 2)]]) (gC α b c d e z
 (fun a2 a3 a4 a5=>vv α (a++[[DC.v (.int .i64 2)]]) g m o p q r h i j l b a2 d a3 (w64 (s+1))
 (fun a6 a7 a8 a9 b0 b1=>vv α a6 a7 a8 a9 b0 b1 r h i j l a4 c a5 e (w64 (s+1))
 (fun b2 b3 b4 b5 b6 b7=>k1 b2 b3 b4 b5 b6 b7)))))))))))))))))
def axV:=asb F2
def Gl:jQ:=sld axV
def acF (v:jQ)(α:Type)(k:RT α):ae->Bool->Int->Int->Int->Bool->ae->ae->I8 (Op α):=fun a b c d e g h i j l m o p q r s=>v α a b c d e g h i j l m o p q r s (fun t w z A B C=>mc k t w z A B C)
theorem awN:ak Pg 74 109 ⟨kM,acF Gl⟩:=iZ az8 (ag Tryz.func74 (by kernel_rfl)) nC CC ((am _ _).trans ((am _ _).trans (aA _))) (aM (by kernel_rfl) (aM (by kernel_rfl) (aD Fa) ⟨aqL,trivial⟩) ⟨aux,trivial⟩) fun _ _=>by kernel_rfl
def aiD:aF:=aF.ofIO (⟨74,109,[⟨kM,acF Gl⟩]⟩::Oh) bu io0
theorem ax2:aiD.Ok Pg:=aF.ofIO_ok aN ⟨⟨awN,trivial⟩,O0⟩
theorem arE:∀ (α:Type) (K:KT α),qu be α K=mw.unc fun σ=>az Pg aiD nC mo K σ:=aZ (fun α K=>by kernel_rfl)
theorem atW:∀ (α:Type) (K:KT α),rc ct α K=m9.unc fun σ=>az Pg aiD nC lP K σ:=aZ (fun α K=>by kernel_rfl)
def azL:=asb Gl
def H3:jQ:=sld azL
def agu (v:jQ)(α:Type)(k:RT α):ae->Bool->Int->Int->Int->Bool->ae->ae->I8 (Op α):=fun a b c d e g h i j l m o p q r s=>v α a b c d e g h i j l m o p q r s (fun t w z A B C=>mc k t w z A B C)
theorem aza:ak Pg 74 109 ⟨kM,agu H3⟩:=iZ ax2 (ag Tryz.func74 (by kernel_rfl)) nC CC ((am _ _).trans ((am _ _).trans (aA _))) (aM (by kernel_rfl) (aM (by kernel_rfl) (aD Fa) ⟨arE,trivial⟩) ⟨atW,trivial⟩) fun _ _=>by kernel_rfl
def ahQ:aF:=aF.ofIO (⟨74,109,[⟨kM,agu H3⟩]⟩::Oh) bu io0
theorem ayX:ahQ.Ok Pg:=aF.ofIO_ok aN ⟨⟨aza,trivial⟩,O0⟩
theorem aqV:∀ (α:Type) (K:KT α),qu be α K=mw.unc fun σ=>az Pg ahQ nC mo K σ:=aZ (fun α K=>by kernel_rfl)
theorem arY:∀ (α:Type) (K:KT α),rc ct α K=m9.unc fun σ=>az Pg ahQ nC lP K σ:=aZ (fun α K=>by kernel_rfl)
def axE:=asb H3
def HX:jQ:=sld axE
def ajY (v:jQ)(α:Type)(k:RT α):ae->Bool->Int->Int->Int->Bool->ae->ae->I8 (Op α):=fun a b c d e g h i j l m o p q r s=>v α a b c d e g h i j l m o p q r s (fun t w z A B C=>mc k t w z A B C)
theorem axS:ak Pg 74 109 ⟨kM,ajY HX⟩:=iZ ayX (ag Tryz.func74 (by kernel_rfl)) nC CC ((am _ _).trans ((am _ _).trans (aA _))) (aM (by kernel_rfl) (aM (by kernel_rfl) (aD Fa) ⟨aqV,trivial⟩) ⟨arY,trivial⟩) fun _ _=>by kernel_rfl
def acK:aF:=aF.ofIO (⟨74,109,[⟨kM,ajY HX⟩]⟩::Oh) bu io0
theorem awJ:acK.Ok Pg:=aF.ofIO_ok aN ⟨⟨axS,trivial⟩,O0⟩
theorem atU:∀ (α:Type) (K:KT α),qu be α K=mw.unc fun σ=>az Pg acK nC mo K σ:=aZ (fun α K=>by kernel_rfl)
theorem atj:∀ (α:Type) (K:KT α),rc ct α K=m9.unc fun σ=>az Pg acK nC lP K σ:=aZ (fun α K=>by kernel_rfl)
def ay6:=asb HX
def nO:jQ:=sld ay6
def agC (v:jQ)(α:Type)(k:RT α):ae->Bool->Int->Int->Int->Bool->ae->ae->I8 (Op α):=fun a b c d e g h i j l m o p q r s=>v α a b c d e g h i j l m o p q r s (fun t w z A B C=>mc k t w z A B C)
theorem awD:ak Pg 74 109 ⟨kM,agC nO⟩:=iZ awJ (ag Tryz.func74 (by kernel_rfl)) nC CC ((am _ _).trans ((am _ _).trans (aA _))) (aM (by kernel_rfl) (aM (by kernel_rfl) (aD Fa) ⟨atU,trivial⟩) ⟨atj,trivial⟩) fun _ _=>by kernel_rfl
def K8:PT St:=pSv [(0,500000000,0)] [sl 0 (aV false [(cE 500000000 0)]),sI 2,sI 4,sP 6,sP 8,sl 12 (aV false [(cD dB)]),sl 13 (aV false [(cD dB)])] [au 500000000 [Ls,(cD dB),xI,xI,xI,(cD dB)],au 6 [(cD dL),(cD dL),xI,xI],au 8 (xs 4)]
def aIp {β:Type}(g:St->β):Int->Int->Bool->Bool->Bool->Int->Int->Int->Bool->ae->ae->I6 β:=K8.unc g
def an0:PT St:=pSv [(0,500000000,0)] [sl 0 (aV false [(cE 500000000 0)]),sI 2,sI 4,sP 6,sP 8,sl 12 (aV false [(cD dB)]),sl 74 (aV false [(cD dB)])] [au 500000000 [Ls,(cD dB),xI,xI,xI,(cD dB)],au 6 [(cD dL),(cD dL),xI,xI],au 8 (xs 4)]
def anN {β:Type}(g:St->β):Int->Int->Bool->Bool->Bool->Int->Int->Int->Bool->ae->ae->I6 β:=an0.unc g
def Kr:PT St:=pSv [(0,500000000,0)] [sl 0 (aV false [(cE 500000000 0)]),sI 2,sI 4,sP 6,sP 8,sl 12 (aV false [(cD dB)]),sI 14] [au 500000000 [Ls,(cD dB),xI,xI,xI,(cD dB)],au 6 [(cD dL),(cD dL),xI,xI],au 8 (xs 4)]
def atM {β:Type}(g:St->β):Int->Int->Bool->Int->Bool->Int->Int->Int->Bool->ae->ae->I6 β:=Kr.unc g
def aoY:PT St:=pSv [(0,500000000,0)] [sl 0 (aV false [(cE 500000000 0)]),sI 2,sI 4,sP 6,sP 8,sl 12 (aV false [(cD dB)]),sI 14,sl 78 (aV false [(cD dB)])] [au 500000000 [Ls,(cD dB),xI,xI,xI,(cD dB)],au 6 [(cD dL),(cD dL),xI,xI],au 8 (xs 4)]
def ar9 {β:Type}(g:St->β):Int->Int->Bool->Int->Bool->Bool->Int->Int->Int->Bool->ae->ae->I6 β:=aoY.unc g
def ai9:PT (List RV):=pRs [pR true [rD dL,rD dB,rD (dI .i64),rD (dI .i64),rD (dI .i64),rD dB]]
def aeO {β:Type}(g:List RV->β):ae->Bool->Int->Int->Int->Bool->β:=ai9.unc g
def aiO:aF:=aF.ofIO (⟨74,109,[⟨kM,agC nO⟩]⟩::Oh) bu io0
theorem awt:aiO.Ok Pg:=aF.ofIO_ok aN ⟨⟨awD,trivial⟩,O0⟩
def P8 (v:jh)(α:Type)(K:KT α):Int->Int->Bool->Int->Bool->Int->Int->Int->Bool->ae->ae->I6 (Op α):=fun b c a t d e g h i j l m o p q r s=>v α a (atM (K .normal) b c a 1 d e g h i j l m o p q r s) (ar9 (K .normal) b c a t a d e g h i j l m o p q r s)
theorem aun:∀ (α:Type) (K:KT α),P8 be α K=Kr.unc fun σ=>az Pg aiO nC mo K σ:=aZ (fun α K=>by kernel_rfl)
def Wx (v:EQ)(α:Type)(K:KT α):Int->Int->Bool->Bool->Bool->Int->Int->Int->Bool->ae->ae->I6 (Op α):=fun b a c d e g h i j l m o p q r s t=>v α a d (fun w=>anN (K .normal) b a c w e g h i j l m o p q r s t)
theorem am4:∀ (α:Type) (K:KT α),Wx ct α K=K8.unc fun σ=>az Pg aiO nC lP K σ:=aZ (fun α K=>by kernel_rfl)
abbrev aki:Type 1:=(α:Type)->Bool->Int->Int->Int->Bool->ae->ae->Int->Int->Int->Int->Int->Int->Int->Int->(Bool->Int->Int->Int->Bool->Op α)->(ae->Bool->Int->Int->Int->Bool->Op α)->Op α
def ae7 (α:Type)(e:Bool)(l m o:Int)(p:Bool)(q g:ae)(h i j a b c d r:Int)(k1:Bool->Int->Int->Int->Bool->Op α)(k2:ae->Bool->Int->Int->Int->Bool->Op α):Op α:=
 cK e
 (k1 e l m o p)
 (dT q j [.int .i64,.int .i64,.int .i64,.int .i64,.int .i64,.int .i64,.int .i64,.int .i64,.int .i64]
 (fun z A B b7 b8 b9 c0 C D=>gG α g h i z A B C D a b c d
 (fun F=>cK (F == 2)
 (k2 [[DC.v (.int .i64 0)]] e l m o p)
 (fB α a b
 (fun s=>fB α c d
 (fun t=>oe α
 (gG α g h i z A B C D s s t t
 (fun G=>cK (G == 0)
 (k1 true j s t p)
 (pg α a b c d
 (fun w H=>ct α r H
 (fun I=>cK I
 (k1 e l m o true)
 (be α w
 (gC α a b c d w
 (fun J L M N=>nO α [[DC.v (.int .i64 1)]] e l m o p q g h i j a J c L (w64 (r+1))
 (fun O P Q R T U=>nO α O P Q R T U q g h i j M b N d (w64 (r+1))
 (fun V W X Y Z a0=>k2 V W X Y Z a0))))
 (gC α a b c d w
 (fun a1 a2 a3 a4=>nO α [[DC.v (.int .i64 2)]] e l m o p q g h i j a a1 c a2 (w64 (r+1))
 (fun a5 a6 a7 a8 a9 b0=>nO α a5 a6 a7 a8 a9 b0 q g h i j a3 b a4 d (w64 (r+1))
 (fun b1 b2 b3 b4 b5 b6=>k2 b1 b2 b3 b4 b5 b6))))))))))))))))
def NC:aki:=sld ae7
def ab2:PT (List DV):=pA [pV false [(dMr [dON,dB,(dI .i64),(dI .i64),(dI .i64),dB] 0)],pV true [dL,dL,(dI .i64),(dI .i64)],vI,pV true [(dI .i64),(dI .i64),(dI .i64),(dI .i64)],vI]
def alk (v:aki)(α:Type)(k:RT α):Bool->Int->Int->Int->Bool->ae->ae->I8 (Op α):=fun g h i j l m o p q r s t w z A=>v α g h i j l m o p q r s t w z A (fun a b c d e=>aeO k ([]:ae) a b c d e) (fun a b c d e B=>mc k a b c d e B)
def axt:ah:=(ah.put (.m [⟨K8,Wx ct⟩]) [1,1,1,1,1,1,1,0] (ah.put (.m [⟨Kr,P8 be⟩]) [1,1,1,1,1,1,1,1,1] (emb Fa)))
theorem azU:ak Pg 74 109 ⟨ab2,alk NC⟩:=iZ awt (ag Tryz.func74 (by kernel_rfl)) nC axt ((am _ _).trans ((am _ _).trans (aA _))) (aM (by kernel_rfl) (aM (by kernel_rfl) (aD Fa) ⟨aun,trivial⟩) ⟨am4,trivial⟩) fun _ _=>by kernel_rfl
def avH:SG:=[(17,[.int .i64,.int .i64,.int .i64,.int .i64,.int .i64,.int .i64,.sl,.int .i64,.int .i64]),(30,[.sl]),(58,iT),(65,iT),(67,iT),(71,[.cpx .f64,.int .i64]),(80,[.cpx .f64,.int .i64]),(88,iS 2),(90,iS 2),(93,iT),(95,iT),(98,iT),(101,iT),(103,iT),(106,iT),(117,iS 2),(119,iS 2),(122,iS 6)]
def aDo:TG:=[tT 0 [1,2],tT 1 [1,2,4,5],tT 2 [1,2,4,5,22],tT 3 [2,3],tT 4 [1,2,4,6],tT 5 [1,2,4,6,7],tT 6 [2,4,6,7,8],tT 7 [2,4,6,7,8,9,10],tT 8 [2,4,6,7,9,10,12],tT 9 [2,4,6,7,9,10,12,59],tT 10 [2,3],tT 11 [2,4,6,7,9,10,12,68],tT 12 [2,3],tT 13 [2,4,5,7,9,10,12,13],tT 14 [2,4,5,7,9,10,12,13,76],tT 15 [2,3],tT 16 [2,4,5,9,10,12,13,14],tT 17 [2,4,5,9,10,12,13,14,85],tT 18 [2,3],tT 19 [2,4,9,10,12,13,14],tT 20 [2,4,12,15],tT 21 [2,4,15,111],tT 22 [2,4,15],tT 23 [2,15,115],tT 24 [2,15],tT 25 [2,3]]
def agX:aq:=aw Pg Tryz.f106 aDo aC
def EY:PT St:=pS [sP 2,sl 4 (aV false [(cE 18 0)]),sl 12 (aV false [(cD dB)]),sP 15] [au 2 (xs 6),au 18 [xI,xI,xI,xI,xI,xI,xI,(cD dL),xI,xI],au 15 (xs 6)]
def aGl {β:Type}(g:St->β):Bool->Int->Int->Int->Int->Int->Int->Int->Int->Int->Int->Int->Int->Int->ae->I8 β:=EY.unc g
def aeJ:PT St:=pS [sP 2,sl 4 (aV false [(cE 18 0)]),sP 15] [au 2 (xs 6),au 18 [xI,xI,xI,xI,xI,xI,xI,(cD dL),xI,xI],au 15 (xs 6)]
def ag8 {β:Type}(g:St->β):Int->Int->Int->Int->Int->Int->Int->Int->Int->Int->Int->Int->Int->ae->I8 β:=aeJ.unc g
def ajb:PT St:=pS [sP 2,sl 4 (aV false [(cE 18 0)]),sP 15,sl 111 (aV false [(cD dB)])] [au 2 (xs 6),au 18 [xI,xI,xI,xI,xI,xI,xI,(cD dL),xI,xI],au 15 (xs 6)]
def acd {β:Type}(g:St->β):Bool->Int->Int->Int->Int->Int->Int->Int->Int->Int->Int->Int->Int->Int->ae->I8 β:=ajb.unc g
def abF:ah:=ah.sub [1,1,1,1,1,1,1,1,1,1,1,1,1,1,1,1,0] (emb agX)
def MR (v:jh)(α:Type)(K:KT α):Bool->Int->Int->Int->Int->Int->Int->Int->Int->Int->Int->Int->Int->Int->ae->I8 (Op α):=fun a b c d e g h i j l m o p q r s t w z C D A B=>v α a (ag8 (K .normal) b c d e g h i j l m o p q r s t w z 0 0 A B) (acd (K .normal) a b c d e g h i j l m o p q r s t w z C D A B)
theorem ag1:∀ (α:Type) (K:KT α),MR be α K=EY.unc fun σ=>az Pg arA avH abF K σ:=aZ (fun α K=>by kernel_rfl)
def TI (α:Type)(b e g j l m:Int)(a:ae)(c d:Int)(k1:I7 (Op α)):Op α:=
 JB α b e g j l m a c d
 (fun q=>cK (q != 0)
 (k1 0 0 0 0 0 0 q)
 (xF α 0 b e g j l m a c d false
 (fun z A B C=>xF α C b e g j l m a c d true
 (fun D F G H=>jt α H b e g j a c d (w64 (((List.length a:Nat):Int)+1))
 (fun I J L M=>oW α M I J L
 (fun N O b2 b3 P=>jt α P b e g j a c d 0
 (fun Q R T U=>oW α U Q R T
 (fun r V b4 b5 W=>r6 α W b e g a c d (w64 (((List.length a:Nat):Int)+1))
 (fun b6 b7 b8 X s=>cK (s != 0)
 (k1 0 0 0 0 0 0 s)
 (cK (decide (r<=0))
 (k1 0 0 0 0 0 0 9)
 (r9 α z A B
 (fun Y Z t=>cK (t != 0)
 (k1 0 0 0 0 0 0 t)
 (r9 α D F G
 (fun a0 a1 w=>cK (w != 0)
 (k1 0 0 0 0 0 0 w)
 (nd α N O
 (fun a2 a3=>yC α Y Z
 (fun h i=>jP α (w64 (a2*a0)) V
 (fun a4=>nx α (w64 (a3*a1)) r
 (fun a5=>yC α a4 a5
 (fun o p=>be α X
 (n7 α b a c d
 (fun a6=>cK a6
 (od α h i 0 0
 (fun a7 a8=>k1 h i 0 0 a7 a8 0))
 (k1 h i 0 0 0 0 0)))
 (n7 α b a c d
 (fun a9=>cK a9
 (od α h i o p
 (fun b0 b1=>k1 h i o p b0 b1 0))
 (k1 h i o p 0 0 0)))))))))))))))))))))))
def DP:AH:=sld TI
def QY (v:AH)(α:Type)(k:RT α):Int->Int->Int->Int->Int->Int->ae->Int->Int->Op α:=fun a b c d e g h i j=>v α a b c d e g h i j (fun l m o p q r s=>FV k l m o p q r s)
def at3:ah:=(ah.put (.m [⟨EY,MR be⟩]) [1,1,1,1,1,1,1,1,1,1,1,1,1,1,1,1] (emb agX))
theorem arW:ak Pg 106 123 ⟨eV,QY DP⟩:=iZ az8 (ag Tryz.func106 (by kernel_rfl)) avH at3 ((am _ _).trans (aA _)) (aM (by kernel_rfl) (aD agX) ⟨ag1,trivial⟩) fun _ _=>by kernel_rfl
end
end Go.AM.K
