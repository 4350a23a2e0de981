/- Printed by KGen. -/
import Derived.Test.YtffcelhcekillaaGreatRf
namespace Go.AM.K
open Go.Proofs
set_option maxRecDepth 100000
set_option linter.unusedVariables false
noncomputable section
def aE4:TG:=[tT 0 [1,2],tT 1 [1,2,4],tT 2 [2,4,5],tT 3 [2,3]]
def aG5:ap:=aw Pg Tryz.f170 aE4 aC
def Sx (α:Type)(a b c d e g:Int)(h:ae)(i j:Int)(k1:I4 (Op α)):Op α:=
 xB α 0 a b c d e g h i j false
 (fun l m o p=>k1 l m o p)
def Jj:AS:=sld Sx
def QO (v:AS)(α:Type)(k:RT α):Int->Int->Int->Int->Int->Int->ae->Int->Int->Op α:=fun a b c d e g h i j=>v α a b c d e g h i j (fun l m o p=>bD k l m o p)
theorem aub:ak Pg 170 16 ⟨eW,QO Jj⟩:=iP axb aG5 (ah Tryz.func170 (by kernel_rfl)) av3 fun _ _=>by kernel_rfl
def avZ:SG:=[(20,[.cpx .f64,.int .i64]),(26,[.sl]),(29,iS 5),(30,iS 5),(35,iT),(41,iS 4),(46,iS 2),(50,iT),(54,iT),(61,iT),(64,iT),(68,iT),(75,iT),(80,iS 4)]
def az9:TG:=[tT 0 [0,1,4],tT 1 [0,1,4,5,6],tT 2 [0,1,4,6,7],tT 3 [0,4,6,7,8],tT 5 [0,4,6,7,8,33],tT 6 [0,4,7,8,37],tT 7 [0,4,7,8],tT 4 [0,4,7,8],tT 8 [0,4,7,8,41,42],tT 9 [0,4,7,8,41,42,43],tT 10 [0,4,7,8,9,10,41,42],tT 11 [0,4,7,8,9,10,41,42],tT 12 [0,4,7,8,41,42],tT 13 [0,4,7,8,41,42],tT 14 [0,4]]
def aFG:TG:=[tT 9 [0,4,7,8,41,42]]
def WA:ap:=aw Pg Tryz.f213 az9 aFG
def aHn:OT:=tdC (ag.sub [1,1,1,1,1,0,1,0] (emb WA))
def Bg:PT St:=pSv [(0,500000000,0)] [sl 0 (aV false [(cC 500000000 0)]),sP 4,sl 6 (aV false [(cD dB)]),sP 7,sP 8] [au 500000000 [xI,xI,xI,xI,xI,xI,xI,(cD dL),xI,xI],au 4 (xs 4),au 7 (xs 4),au 8 (xs 5)]
def aDT {β:Type}(g:St->β):Bool->Int->Int->Int->Int->Int->Int->Int->ae->I15 β:=Bg.unc g
def agH:PT St:=pSv [(0,500000000,0)] [sl 0 (aV false [(cC 500000000 0)]),sP 4,sl 6 (aV false [(cD dB)]),sP 7,sP 8,sl 33 (aV false [(cD dB)])] [au 500000000 [xI,xI,xI,xI,xI,xI,xI,(cD dL),xI,xI],au 4 (xs 4),au 7 (xs 4),au 8 (xs 5)]
def adk {β:Type}(g:St->β):Bool->Bool->Int->Int->Int->Int->Int->Int->Int->ae->I15 β:=agH.unc g
def afr:PT St:=pSv [(0,500000000,0)] [sl 0 (aV false [(cC 500000000 0)]),sP 4,sP 7,sP 8] [au 500000000 [xI,xI,xI,xI,xI,xI,xI,(cD dL),xI,xI],au 4 (xs 4),au 7 (xs 4),au 8 (xs 5)]
def adV {β:Type}(g:St->β):Int->Int->Int->Int->Int->Int->Int->ae->I15 β:=afr.unc g
noncomputable abbrev ayj:List bE:=⟨131,111,[⟨hH,Qr rK⟩]⟩::⟨170,16,[⟨eW,QO Jj⟩]⟩::⟨171,16,[⟨eW,Ro BX⟩]⟩::⟨184,55,[⟨hP,RO xD⟩]⟩::at2
theorem aEO:bJ ayj fun c=>bJ c.l (ak Pg c.f c.nt):=⟨⟨aqJ,trivial⟩,⟨aub,trivial⟩,⟨auN,trivial⟩,⟨apQ,trivial⟩,ayh⟩
def ayc:aE:=aE.ofIO ayj bw io0
theorem axp:ayc.Ok Pg:=aE.ofIO_ok aO aEO
def aeR:ag:=ag.sub [1,1,1,1,0] (emb WA)
abbrev HI:Type 1:=(α:Type)->Bool->Int->Int->Int->Int->Int->(Bool->Op α)->(I4 (Op α))->Op α
def Gc (α:Type)(b:Bool)(c d e g a:Int)(k1:Bool->Op α)(k2:I4 (Op α)):Op α:=
 cK (a != 0)
 (k1 (a != 0))
 (cK b
 (k2 0 0 e g)
 (k2 c d 0 0))
def v7:HI:=sld Gc
def Mz (v:HI)(α:Type)(K:KT α):Bool->Int->Int->Int->Int->Int->Int->Int->ae->I15 (Op α):=fun c d e g h i j l m o p q r s t w z A B C D F G a=>v α c w z A B a (fun b=>adk (K .normal) c b d e g h i j l m o p q r s t w z A B C D F G a) (fun b H I J=>adV (K .normal) d e g h i j l m o p q r s t b H I J C D F G a)
theorem acf:∀ (α:Type) (K:KT α),Mz v7 α K=Bg.unc fun σ=>az Pg ayc avZ aeR K σ:=aY (fun α K=>by kernel_rfl)
def Wt (α:Type)(o p q r a b:Int)(e:ae)(s t g:Int)(k1:I5 (Op α)):Op α:=
 rK α o p q r e s t g
 (fun w z A B C=>oI α C w z A
 (fun h i j l m=>dE e (w64 (g - 1)) [.int .i64,.int .i64,.int .i64,.int .i64,.int .i64]
 (fun a1 a2 c d D=>v7 α B h i j l D
 (fun a3=>mo α h i
 (fun F G=>jF α (w64 ((w64 (4*F))*c)) b
 (fun H=>ne α (w64 ((w64 (4*G))*d)) a
 (fun I=>mo α j l
 (fun J L=>jF α (w64 ((w64 (4*J))*c)) b
 (fun M=>ne α (w64 ((w64 (4*L))*d)) a
 (fun N=>k1 H I M N m)))))))
 (fun O P Q R=>mo α O P
 (fun T U=>jF α (w64 ((w64 (4*T))*c)) b
 (fun V=>ne α (w64 ((w64 (4*U))*d)) a
 (fun W=>mo α Q R
 (fun X Y=>jF α (w64 ((w64 (4*X))*c)) b
 (fun Z=>ne α (w64 ((w64 (4*Y))*d)) a
 (fun a0=>k1 V W Z a0 m))))))))))
def CA:Ak:=sld Wt
def Sf (v:Ak)(α:Type)(k:RT α):Int->Int->Int->Int->Int->Int->Int->ae->Int->Int->Int->Op α:=fun j a b c l d e g h i m=>v α j a b c d e g h i m (fun o p q r s=>Ge k o p q r s a b c l d e g h i)
def arC:ag:=(ag.put (.m [⟨Bg,Mz v7⟩]) [1,1,1,1] (ag.put (.u 3) [1,1,1,1,1,0,1,0] (emb WA)))
theorem amP:ak Pg 213 81 ⟨hH,Sf CA⟩:=iZ axp (ah Tryz.func213 (by kernel_rfl)) avZ arC ((an _ _).trans ((an _ _).trans (aA _))) (aL (by kernel_rfl) (E3 (by decide) (aD WA)) ⟨acf,trivial⟩) fun _ _=>by kernel_rfl
def aHj:SG:=[(18,iT),(20,[.cpx .f64,.int .i64]),(30,[.cpx .f64,.int .i64]),(31,[.cpx .f64,.int .i64]),(33,[.cpx .f64,.int .i64])]
def aEE:TG:=[tT 0 [0,1,4],tT 1 [0,1,4,5],tT 2 [0,1,4,5,19],tT 3 [0,4],tT 4 [0,4,5,7],tT 5 [0,4]]
def aHM:ap:=aw Pg Tryz.f130 aEE aC
abbrev Rc:Type 1:=(α:Type)->Int->Int->Int->Int->Int->ae->Int->Int->Int->(Nat->Nat->Int->Int->Op α)->Op α
def Uw (α:Type)(p a q r s:Int)(b:ae)(c d e:Int)(k1:Nat->Nat->Int->Int->Op α):Op α:=
 rK α p a q r b c d e
 (fun g h i H j=>cK (s == 0)
 (k1 g h i j)
 (yx α j a b c d e
 (fun l m o t=>cR α t l m o l m o
 (fun w z A B=>oq α B w z A g h i
 (fun C D F G=>k1 C D F G)))))
def js:Rc:=sld Uw
def Yt (v:Rc)(α:Type)(k:RT α):Int->Int->Int->Int->Int->Int->Int->ae->Int->Int->Int->Op α:=fun i a b c d j l e g h m=>v α i a b c d e g h m (fun o p q r=>cG k o p q r a b c d j l e g h)
theorem aoC:ak Pg 130 35 ⟨hH,Yt js⟩:=iP axp aHM (ah Tryz.func130 (by kernel_rfl)) aHj fun _ _=>by kernel_rfl
def avH:SG:=[(20,[.int .i64,.int .i64,.int .i64,.int .i64,.int .i64,.int .i64,.sl,.int .i64,.int .i64]),(26,iS 6),(29,[.int .i64,.int .i64,.int .i64,.int .i64,.int .i64,.int .i64,.sl,.int .i64,.int .i64]),(35,iS 6),(40,[.int .i64,.int .i64,.int .i64,.int .i64,.int .i64,.int .i64,.sl,.int .i64,.int .i64]),(43,[.int .i64,.int .i64,.int .i64,.int .i64,.int .i64,.int .i64,.sl,.int .i64,.int .i64]),(45,[.sl]),(51,[.int .i64,.int .i64,.int .i64,.int .i64,.int .i64,.int .i64,.sl,.int .i64,.int .i64]),(53,[.sl]),(60,iS 3),(63,iS 3),(68,iT),(70,iS 6),(71,iS 3),(73,iS 3),(77,iT),(79,iT),(82,iT),(85,iT),(87,iT),(90,iT),(98,[.int .i64,.int .i64,.int .i64,.int .i64,.int .i64,.int .i64,.sl,.int .i64,.int .i64]),(101,iS 2),(103,iS 2),(106,iS 6)]
def aFW:TG:=[tT 0 [1,2],tT 1 [1,2,4],tT 2 [1,2,4,5,6],tT 3 [1,2,4,5,6,25],tT 4 [2,3],tT 5 [1,2,4,5,6,7],tT 6 [1,2,4,5,6,7,34],tT 7 [2,3],tT 8 [1,2,4,5,7,8],tT 9 [1,2,4,5,7,8,9,10],tT 10 [1,2,4,5,7,9,10,13],tT 11 [1,2,4,5,7,13,14,15],tT 12 [1,2,4,5,7,13,14,15,69],tT 13 [2,3],tT 14 [1,2,5,13,14,15,16],tT 15 [1,2,13,17],tT 16 [1,2,17,95],tT 17 [1,2,17],tT 18 [2,17,99],tT 19 [2,17],tT 20 [2,3]]
def aes:ap:=aw Pg Tryz.f152 aFW aC
def CV:PT St:=pS [sP 1,sP 2,sl 13 (aV false [(cD dB)]),sP 17] [au 1 [xI,xI,xI,xI,xI,xI,(cD dL),xI,xI],au 2 (xs 6),au 17 (xs 6)]
def aEB {β:Type}(g:St->β):Bool->Int->Int->Int->Int->Int->Int->ae->I14 β:=CV.unc g
def akY:PT St:=pS [sP 1,sP 2,sP 17] [au 1 [xI,xI,xI,xI,xI,xI,(cD dL),xI,xI],au 2 (xs 6),au 17 (xs 6)]
def ajq {β:Type}(g:St->β):Int->Int->Int->Int->Int->Int->ae->I14 β:=akY.unc g
def acW:PT St:=pS [sP 1,sP 2,sP 17,sl 95 (aV false [(cD dB)])] [au 1 [xI,xI,xI,xI,xI,xI,(cD dL),xI,xI],au 2 (xs 6),au 17 (xs 6)]
def ajA {β:Type}(g:St->β):Bool->Int->Int->Int->Int->Int->Int->ae->I14 β:=acW.unc g
def Z4:PT (List RV):=pRs [pR true [rD (dI .i64),rD (dI .i64),rD (dI .i64),rD (dI .i64),rD (dI .i64),rD (dI .i64)],wI]
def FX {β:Type}(g:List RV->β):I7 β:=Z4.unc g
def abE:ag:=ag.sub [1,1,1,1,1,1,1,1,1,1,1,1,1,0] (emb aes)
abbrev bV:Type 1:=(α:Type)->Bool->(Op α)->(Op α)->Op α
def EV (α:Type)(a:Bool)(k1:Op α)(k2:Op α):Op α:=
 cK a
 (k1)
 (k2)
def n8:bV:=sld EV
def LP (v:bV)(α:Type)(K:KT α):Bool->Int->Int->Int->Int->Int->Int->ae->I14 (Op α):=fun a b c d e g h i j l m o p q r s t w B C z A=>v α a (ajq (K .normal) b c d e g h i j l m o p q r s t w 0 0 z A) (ajA (K .normal) a b c d e g h i j l m o p q r s t w B C z A)
theorem ah1:∀ (α:Type) (K:KT α),LP n8 α K=CV.unc fun σ=>az Pg ayc avH abE K σ:=aY (fun α K=>by kernel_rfl)
abbrev zM:Type 1:=(α:Type)->Int->Int->Int->Int->Int->Int->ae->Int->Int->(I7 (Op α))->Op α
def Vm (α:Type)(e g h j o p:Int)(a:ae)(i b:Int)(k1:I7 (Op α)):Op α:=
 Jj α e g h j o p a i b
 (fun t w z q=>cK (q != 0)
 (k1 0 0 0 0 0 0 q)
 (BX α e g h j o p a i b
 (fun A B C r=>cK (r != 0)
 (k1 0 0 0 0 0 0 r)
 (jz α 0 e g h j a i b 0
 (fun D F G H=>jz α H e g h j a i b (w64 (((List.length a:Nat):Int)+1))
 (fun I J L M=>nZ α M e g h a i b (w64 (((List.length a:Nat):Int)+1))
 (fun a6 a7 a8 a9 b0 b1 N b2=>nT α D F G
 (fun s O b3 b4=>nT α I J L
 (fun P Q b5 b6=>r7 α P Q
 (fun R T=>cK (decide (s<=0))
 (k1 0 0 0 0 0 0 9)
 (yL α A B C
 (fun U V=>yL α t w z
 (fun W X=>xX α W X
 (fun c d=>dC α (w64 (R*U)) O
 (fun Y=>cy α (w64 (T*V)) s
 (fun Z=>xX α Y Z
 (fun l m=>n8 α N
 (pL α a b
 (fun a0=>cK a0
 (nq α c d 0 0
 (fun a1 a2=>k1 c d 0 0 a1 a2 0))
 (k1 c d 0 0 0 0 0)))
 (pL α a b
 (fun a3=>cK a3
 (nq α c d l m
 (fun a4 a5=>k1 c d l m a4 a5 0))
 (k1 c d l m 0 0 0))))))))))))))))))))
def Ew:zM:=sld Vm
def Yp (v:zM)(α:Type)(k:RT α):Int->Int->Int->Int->Int->Int->ae->Int->Int->Op α:=fun a b c d e g h i j=>v α a b c d e g h i j (fun l m o p q r s=>FX k l m o p q r s)
def anl:ag:=(ag.put (.m [⟨CV,LP n8⟩]) [1,1,1,1,1,1,1,1,1,1,1,1,1] (emb aes))
theorem ant:ak Pg 152 107 ⟨eW,Yp Ew⟩:=iZ axp (ah Tryz.func152 (by kernel_rfl)) avH anl ((an _ _).trans (aA _)) (aL (by kernel_rfl) (aD aes) ⟨ah1,trivial⟩) fun _ _=>by kernel_rfl
def avd:SG:=[(22,iT),(28,iT),(37,iT),(43,iT),(46,iT),(53,iS 2),(62,iT),(68,iS 2),(79,iT),(85,[.cpx .f64,.int .i64]),(90,iT),(92,iT)]
def aEy:TG:=[tT 0 [0,1,2,6],tT 1 [0,2,6,7],tT 2 [0,2,6,7,14],tT 3 [0,2,6,7,14,15],tT 4 [0,2,6,7,8,14],tT 5 [0,2,6,7,14],tT 6 [0,2,6,7,14],tT 7 [0,6,7,38],tT 8 [0,6],tT 9 [0,6,7,9],tT 10 [0,6,7,9,48],tT 11 [0,6,7,9],tT 12 [0,6,7,9,63],tT 13 [0,6],tT 14 [0,6,7,9,10],tT 15 [0,6,9,10],tT 16 [0,6,9,10,80],tT 17 [0,6],tT 18 [0,6]]
def aCd:TG:=[tT 3 [0,2,6,7,14]]
def Zw:ap:=aw Pg Tryz.f182 aEy aCd
def aId:OT:=tdC (ag.sub [1,1,0,1,0] (emb Zw))
def Cc:PT St:=pSv [(0,500000000,0)] [sl 0 (aV false [(cC 500000000 0)]),sP 6,sP 7,sP 9] [au 500000000 [xI,xI,xI,xI,xI,xI,xI,(cD dL),xI,xI],au 6 [(cD (dX .f64)),xI],au 7 (xs 4),au 9 [(cD (dX .f64)),xI]]
def agv {β:Type}(g:St->β):Int->Int->Int->Int->Int->Int->Int->ae->Int->Int->Nat->Nat->Int->Int->Int->Int->Int->Nat->Nat->Int->β:=Cc.unc g
def ahN:PT St:=pSv [(0,500000000,0)] [sl 0 (aV false [(cC 500000000 0)]),sP 6,sP 7,sP 9,sl 48 (aV false [(cD dB)])] [au 500000000 [xI,xI,xI,xI,xI,xI,xI,(cD dL),xI,xI],au 6 [(cD (dX .f64)),xI],au 7 (xs 4),au 9 [(cD (dX .f64)),xI]]
def afD {β:Type}(g:St->β):Bool->Int->Int->Int->Int->Int->Int->Int->ae->Int->Int->Nat->Nat->Int->Int->Int->Int->Int->Nat->Nat->Int->β:=ahN.unc g
noncomputable abbrev azc:List bE:=⟨213,81,[⟨hH,Sf CA⟩]⟩::⟨152,107,[⟨eW,Yp Ew⟩]⟩::⟨130,35,[⟨hH,Yt js⟩]⟩::ayj
theorem aHQ:bJ azc fun c=>bJ c.l (ak Pg c.f c.nt):=⟨⟨amP,trivial⟩,⟨ant,trivial⟩,⟨aoC,trivial⟩,aEO⟩
def aFB:aE:=aE.ofIO azc bw io0
theorem aHd:aFB.Ok Pg:=aE.ofIO_ok aO aHQ
def abL:ag:=ag.sub [1,1,1,1,1,0] (emb Zw)
abbrev GL:Type 1:=(α:Type)->Int->Int->(Int->Nat->Nat->Int->Op α)->(Bool->Op α)->Op α
def GE (α:Type)(a b:Int)(k1:Int->Nat->Nat->Int->Op α)(k2:Bool->Op α):Op α:=
 cK (decide ((w64 (b - a)) < 1048576))
 (yJ α a b
 (fun c d e g=>dR α
 (k1 g c d e)))
 (k2 (decide ((w64 (b - a)) < 1048576)))
def wG:GL:=sld GE
def Oy (v:GL)(α:Type)(K:KT α):Int->Int->Int->Int->Int->Int->Int->ae->Int->Int->Nat->Nat->Int->Int->Int->Int->Int->Nat->Nat->Int->Op α:=fun w d e g h i j l m o p q r a b s t z A B=>v α a b (fun c C D F=>agv (K .normal) c d e g h i j l m o p q r a b s t C D F) (fun c=>afD (K .normal) c w d e g h i j l m o p q r a b s t z A B)
theorem agp:∀ (α:Type) (K:KT α),Oy wG α K=Cc.unc fun σ=>az Pg aFB avd abL K σ:=aY (fun α K=>by kernel_rfl)
abbrev T2:Type 1:=(α:Type)->Int->Int->Int->Int->Int->Int->ae->Int->Int->Int->Int->(Nat->Nat->Int->Int->Op α)->Op α
def R0 (α:Type)(i j l m o p:Int)(q:ae)(r s t a:Int)(k1:Nat->Nat->Int->Int->Op α):Op α:=
 CA α i j l m o p q r s t
 (fun w z e g b=>cK (b != 0)
 (k1 0 0 0 b)
 (wG α (w64 (a*w)) (w64 (a*z))
 (fun h A B C=>cK (h != 0)
 (k1 0 0 0 h)
 (su α (w64 (a*e)) (w64 (a*g))
 (fun D F c=>cK (c != 0)
 (k1 0 0 0 c)
 (n9 α c D F
 (fun G H I J=>cR α J A B C G H I
 (fun L M N O=>k1 L M N O))))))
 (fun a0=>cK (b != 0)
 (k1 0 0 0 b)
 (su α (w64 (a*e)) (w64 (a*g))
 (fun P Q d=>cK (d != 0)
 (k1 0 0 0 d)
 (n9 α d P Q
 (fun R T U V=>cR α V 0 0 1048576 R T U
 (fun W X Y Z=>k1 W X Y Z))))))))
def xp:T2:=sld R0
def Ww (v:T2)(α:Type)(k:RT α):Int->Int->Int->Int->Int->Int->Int->ae->I4 (Op α):=fun j a b c l d e g h i m o=>v α j a b c d e g h i m o (fun p q r s=>cG k p q r s a b c l d e g h i)
def att:ag:=(ag.put (.u 3) [1,1,0,1,0] (ag.put (.m [⟨Cc,Oy wG⟩]) [1,1,1,1,1] (emb Zw)))
theorem aur:ak Pg 182 95 ⟨qi,Ww xp⟩:=iZ aHd (ah Tryz.func182 (by kernel_rfl)) avd att ((an _ _).trans ((an _ _).trans (aA _))) (E3 (by decide) (aL (by kernel_rfl) (aD Zw) ⟨agp,trivial⟩)) fun _ _=>by kernel_rfl
def aDF:SG:=[(12,iT),(14,iS 2),(16,iT),(18,iS 2),(20,[.sl]),(22,iS 2),(32,iS 2),(34,iS 2),(36,iS 2),(39,iT),(40,iS 2),(41,iS 2)]
def aBj:TG:=[tT 0 [3,4,5,6],tT 1 [4,6,8,9],tT 2 [4,6,8,9,28],tT 3 [6,7],tT 4 [6,7]]
def aAX:ap:=aw Pg Tryz.f125 aBj aC
abbrev z5:Type 1:=(α:Type)->ae->Int->Int->Int->Int->Int->Int->Int->Int->Int->(Int->Int->Int->Op α)->Op α
def UF (α:Type)(j:ae)(l m a o p q r s t:Int)(k1:Int->Int->Int->Op α):Op α:=
 Ew α p s t o q r j l m
 (fun b c d e g h i=>cK (i != 0)
 (k1 0 0 i)
 (ixK [[DC.v (.int .i64 b),DC.v (.int .i64 c)],[DC.v (.int .i64 d),DC.v (.int .i64 e)],[DC.v (.int .i64 g),DC.v (.int .i64 h)]] a 2
 (ldK [[DC.v (.int .i64 b),DC.v (.int .i64 c)],[DC.v (.int .i64 d),DC.v (.int .i64 e)],[DC.v (.int .i64 g),DC.v (.int .i64 h)]] (Int.toNat a) 0 [.int .i64,.int .i64]
 (fun w z=>k1 w z 0))))
def Cm:z5:=sld UF
def WR (v:z5)(α:Type)(k:RT α):ae->ae->I15 (Op α):=fun q a b c d e g r s t w z A h i j l=>v α a b c d e g h i j l (fun m o p=>jd k m o p)
theorem atk:ak Pg 125 42 ⟨xM,WR Cm⟩:=iP aHd aAX (ah Tryz.func125 (by kernel_rfl)) aDF fun _ _=>by kernel_rfl
def G6:SG:=[(22,[.sl]),(30,iT),(45,[.cpx .f64,.int .i64]),(51,[.cpx .f64,.int .i64,.cpx .f64,.int .i64,.cpx .f64,.int .i64,.cpx .f64,.int .i64]),(53,[.cpx .f64,.int .i64]),(54,[.cpx .f64,.int .i64]),(57,[.cpx .f64,.int .i64,.cpx .f64,.int .i64,.cpx .f64,.int .i64,.cpx .f64,.int .i64]),(58,[.cpx .f64,.int .i64])]
def aBS:TG:=[tT 0 [0,1,4,5],tT 1 [0,1,4,5,6,7],tT 2 [0,1,4,5,6,7,8],tT 3 [0,1,4,5,6,7,8,32],tT 5 [0,1,4,5,6,7,8,9],tT 6 [0,1,4,5,6,7,8,9,10],tT 7 [0,1,4,5,6,7,8,9,10,41],tT 8 [0,1,4,5,6,7,8,9,10],tT 9 [0,1,4,5,6,7,8],tT 4 [0,1,4,5,6,7,8],tT 10 [0,4,5]]
def aFf:TG:=[tT 3 [0,1,4,5,6,7,8]]
def Nr:ap:=aw Pg Tryz.f153 aBS aFf
def ur:OT:=tdC (ag.sub [1,1,0,1,0] (emb Nr))
def tI:PT St:=pSv [(0,500000000,0)] [sl 0 (aV false [(cC 500000000 0)]),sl 1 (aV false [(cD dB)]),sP 4,sP 5,sP 6,sP 7,sI 8,sP 9,sP 10] [au 500000000 [xI,xI,xI,xI,xI,xI,xI,(cD dL),xI,xI],au 4 [(cD (dX .f64)),xI,(cD (dX .f64)),xI,(cD (dX .f64)),xI,(cD (dX .f64)),xI],au 5 [(cD (dX .f64)),xI],au 6 [(cD (dX .f64)),xI,(cD (dX .f64)),xI,(cD (dX .f64)),xI,(cD (dX .f64)),xI],au 7 [(cD (dX .f64)),xI],au 9 [(cD (dX .f64)),xI],au 10 [(cD (dX .f64)),xI]]
def aeb {β:Type}(g:St->β):Bool->Int->Int->Int->Int->Int->Int->Int->Int->ae->Int->Int->Nat->Nat->Int->Nat->Nat->Int->Nat->Nat->Int->Nat->Nat->Int->Nat->Nat->Int->Nat->Nat->Int->Nat->Nat->Int->Nat->Nat->Int->Nat->Nat->Int->Nat->Nat->Int->Nat->Nat->Int->Nat->Nat->Int->β:=tI.unc g
def ajE:PT St:=pSv [(0,500000000,0)] [sl 0 (aV false [(cC 500000000 0)]),sl 1 (aV false [(cD dB)]),sP 4,sP 5,sP 6,sP 7,sI 8,sP 9,sP 10,sl 41 (aV false [(cD dB)])] [au 500000000 [xI,xI,xI,xI,xI,xI,xI,(cD dL),xI,xI],au 4 [(cD (dX .f64)),xI,(cD (dX .f64)),xI,(cD (dX .f64)),xI,(cD (dX .f64)),xI],au 5 [(cD (dX .f64)),xI],au 6 [(cD (dX .f64)),xI,(cD (dX .f64)),xI,(cD (dX .f64)),xI,(cD (dX .f64)),xI],au 7 [(cD (dX .f64)),xI],au 9 [(cD (dX .f64)),xI],au 10 [(cD (dX .f64)),xI]]
def aid {β:Type}(g:St->β):Bool->Int->Bool->Int->Int->Int->Int->Int->Int->Int->ae->Int->Int->Nat->Nat->Int->Nat->Nat->Int->Nat->Nat->Int->Nat->Nat->Int->Nat->Nat->Int->Nat->Nat->Int->Nat->Nat->Int->Nat->Nat->Int->Nat->Nat->Int->Nat->Nat->Int->Nat->Nat->Int->Nat->Nat->Int->β:=ajE.unc g
def BL:PT St:=pSv [(0,500000000,0)] [sl 0 (aV false [(cC 500000000 0)]),sl 1 (aV false [(cD dB)]),sP 4,sP 5,sP 6,sP 7,sI 8] [au 500000000 [xI,xI,xI,xI,xI,xI,xI,(cD dL),xI,xI],au 4 [(cD (dX .f64)),xI,(cD (dX .f64)),xI,(cD (dX .f64)),xI,(cD (dX .f64)),xI],au 5 [(cD (dX .f64)),xI],au 6 [(cD (dX .f64)),xI,(cD (dX .f64)),xI,(cD (dX .f64)),xI,(cD (dX .f64)),xI],au 7 [(cD (dX .f64)),xI]]
def Ct {β:Type}(g:St->β):Bool->Int->Int->Int->Int->Int->Int->Int->Int->ae->Int->Int->Nat->Nat->Int->Nat->Nat->Int->Nat->Nat->Int->Nat->Nat->Int->Nat->Nat->Int->Nat->Nat->Int->Nat->Nat->Int->Nat->Nat->Int->Nat->Nat->Int->Nat->Nat->Int->β:=BL.unc g
def acL:PT St:=pSv [(0,500000000,0)] [sl 0 (aV false [(cC 500000000 0)]),sl 1 (aV false [(cD dB)]),sP 4,sP 5,sP 6,sP 7,sI 8,sl 32 (aV false [(cD dB)])] [au 500000000 [xI,xI,xI,xI,xI,xI,xI,(cD dL),xI,xI],au 4 [(cD (dX .f64)),xI,(cD (dX .f64)),xI,(cD (dX .f64)),xI,(cD (dX .f64)),xI],au 5 [(cD (dX .f64)),xI],au 6 [(cD (dX .f64)),xI,(cD (dX .f64)),xI,(cD (dX .f64)),xI,(cD (dX .f64)),xI],au 7 [(cD (dX .f64)),xI]]
def wP {β:Type}(g:St->β):Bool->Int->Bool->Int->Int->Int->Int->Int->Int->Int->ae->Int->Int->Nat->Nat->Int->Nat->Nat->Int->Nat->Nat->Int->Nat->Nat->Int->Nat->Nat->Int->Nat->Nat->Int->Nat->Nat->Int->Nat->Nat->Int->Nat->Nat->Int->Nat->Nat->Int->β:=acL.unc g
def ZH:PT (List RV):=pRs [pR true [rD (dX .f64),rD (dI .i64),rD (dX .f64),rD (dI .i64),rD (dX .f64),rD (dI .i64),rD (dX .f64),rD (dI .i64)],pR true [rD (dX .f64),rD (dI .i64)],pR true [rD (dI .i64),rD (dI .i64),rD (dI .i64),rD (dI .i64),rD (dI .i64),rD (dI .i64),rD (dI .i64),rD dL,rD (dI .i64),rD (dI .i64)]]
def aau {β:Type}(g:List RV->β):Nat->Nat->Int->Nat->Nat->Int->Nat->Nat->Int->Nat->Nat->Int->Nat->Nat->Int->Int->Int->Int->Int->Int->Int->Int->ae->Int->Int->β:=ZH.unc g
noncomputable abbrev azS:List bE:=⟨182,95,[⟨qi,Ww xp⟩]⟩::⟨125,42,[⟨xM,WR Cm⟩]⟩::azc
theorem aEh:bJ azS fun c=>bJ c.l (ak Pg c.f c.nt):=⟨⟨aur,trivial⟩,⟨atk,trivial⟩,aHQ⟩
def PL:aE:=aE.ofIO azS bw io0
theorem aEJ:PL.Ok Pg:=aE.ofIO_ok aO aEh
def abq:ag:=ag.sub [1,1,0,1,0,0,1,0,0,1,1,0] (emb Nr)
abbrev Ft:Type 1:=(α:Type)->Bool->Int->Int->Int->Int->Int->Int->Int->ae->Int->Int->Nat->Nat->Int->(Int->Nat->Nat->Int->Op α)->(Op α)->Op α
def Hj (α:Type)(a:Bool)(b c d e g h i:Int)(j:ae)(l m:Int)(o p:Nat)(q:Int)(k1:Int->Nat->Nat->Int->Op α)(k2:Op α):Op α:=
 cK a
 (xp α c d e g h i j l m b 1
 (fun r s t w=>cR α w o p q r s t
 (fun z A B C=>k1 C z A B)))
 (k2)
def oD:Ft:=sld Hj
def Ca (v:Ft)(α:Type)(K:KT α):Bool->Int->Int->Int->Int->Int->Int->Int->Int->ae->Int->Int->Nat->Nat->Int->Nat->Nat->Int->Nat->Nat->Int->Nat->Nat->Int->Nat->Nat->Int->Nat->Nat->Int->Nat->Nat->Int->Nat->Nat->Int->Nat->Nat->Int->Nat->Nat->Int->Nat->Nat->Int->Nat->Nat->Int->Op α:=fun a b m c d e o g h i j l p q r s t w z A B C D F G H I J L M N O P Q R T U V W X Y Z a0 a1 a2 a3 a4 a5=>v α a b m c d e g h i j l X Y Z (fun a6 a7 a8 a9=>aeb (K .normal) a b a6 c d e o g h i j l p q r s t w z A B C D F G H I J L M N O P Q R T U V W a7 a8 a9 a0 a1 a2 a3 a4 a5) (aid (K .normal) a b a m c d e o g h i j l p q r s t w z A B C D F G H I J L M N O P Q R T U V W X Y Z a0 a1 a2 a3 a4 a5)
theorem alu:∀ (α:Type) (K:KT α),Ca oD α K=tI.unc fun σ=>az Pg PL G6 abq K σ:=aY (fun α K=>by kernel_rfl)
def uz:ag:=ag.sub [1,1,0,1,0,0] (ag.put (.m [⟨tI,Ca oD⟩]) [1,1,0,1,0,0,1,0,0,1,1] (emb Nr))
def o8 (α:Type)(P:Bool)(z A B Q F G:Int)(c:ae)(C D a b:Int)(d e:Nat)(g:Int)(h i:Nat)(j:Int)(l m:Nat)(o:Int)(p q:Nat)(r:Int)(s t:Nat)(w:Int)(kn:Int->Int->Nat->Nat->Int->Nat->Nat->Int->Nat->Nat->Int->Nat->Nat->Int->Nat->Nat->Int->Op α)(k1:Int->Bool->Int->Nat->Nat->Int->Nat->Nat->Int->Nat->Nat->Int->Nat->Nat->Int->Nat->Nat->Int->Op α):Op α:=
 cK (decide (a<=((List.length c:Nat):Int)))
 (cK (b == 0)
 (js α b z A B Q c C D a
 (fun H I J R=>xp α R z A B F G c C D a 2
 (fun L M N O=>oD α P a O z A B F G c C D s t w
 (fun T U V W=>xD α T H I J L M N
 (fun X Y Z a0 a1 a2 a3 a4 a5 a6 a7 a8 a9=>xN α a9 d e g h i j l m o p q r X Y Z a0 a1 a2 a3 a4 a5 a6 a7 a8
 (fun b0 b1 b2 b3 b4 b5 b6 b7 b8 b9 c0 c1 c2=>kn (w64 (a+1)) c2 b0 b1 b2 b3 b4 b5 b6 b7 b8 b9 c0 c1 U V W)))
 (xD α O H I J L M N
 (fun c3 c4 c5 c6 c7 c8 c9 d0 d1 d2 d3 d4 d5=>xN α d5 d e g h i j l m o p q r c3 c4 c5 c6 c7 c8 c9 d0 d1 d2 d3 d4
 (fun d6 d7 d8 d9 e0 e1 e2 e3 e4 e5 e6 e7 e8=>kn (w64 (a+1)) e8 d6 d7 d8 d9 e0 e1 e2 e3 e4 e5 e6 e7 s t w))))))
 (k1 a (b == 0) b d e g h i j l m o p q r s t w))
 (k1 a false b d e g h i j l m o p q r s t w)
def lL (α:Type)(a:Bool)(b c d e g h:Int)(i:ae)(j l:Int)(k1:Int->Bool->Int->Nat->Nat->Int->Nat->Nat->Int->Nat->Nat->Int->Nat->Nat->Int->Nat->Nat->Int->Op α):Nat->Int->Int->Nat->Nat->Int->Nat->Nat->Int->Nat->Nat->Int->Nat->Nat->Int->Nat->Nat->Int->Op α
 | 0=>fun _ _ _ _ _ _ _ _ _ _ _ _ _ _ _ _ _=>none
 | n+1=>fun m o p q r s t w z A B C D F G H I=>o8 α a b c d e g h i j l m o p q r s t w z A B C D F G H I (lL α a b c d e g h i j l k1 n) k1
def GO (α:Type)(a:Bool)(b c d e g h:Int)(i:ae)(j l:Int)(k1:Int->Bool->Int->Nat->Nat->Int->Nat->Nat->Int->Nat->Nat->Int->Nat->Nat->Int->Nat->Nat->Int->Op α)(m o:Int)(p q:Nat)(r:Int)(s t:Nat)(w:Int)(z A:Nat)(B:Int)(C D:Nat)(F:Int)(G H:Nat)(I:Int):Op α:=lL α a b c d e g h i j l k1 aG m o p q r s t w z A B C D F G H I
abbrev F1:Type 1:=(α:Type)->Bool->Int->Int->Int->Int->Int->Int->ae->Int->Int->(Int->Bool->Int->Nat->Nat->Int->Nat->Nat->Int->Nat->Nat->Int->Nat->Nat->Int->Nat->Nat->Int->Op α)->Int->Int->Nat->Nat->Int->Nat->Nat->Int->Nat->Nat->Int->Nat->Nat->Int->Nat->Nat->Int->Op α
def vO:F1:=sld GO
def LM (v:F1)(α:Type)(K:KT α):Bool->Int->Int->Int->Int->Int->Int->Int->Int->ae->Int->Int->Nat->Nat->Int->Nat->Nat->Int->Nat->Nat->Int->Nat->Nat->Int->Nat->Nat->Int->Nat->Nat->Int->Nat->Nat->Int->Nat->Nat->Int->Nat->Nat->Int->Nat->Nat->Int->Op α:=fun a m o b c d e g h i j l p q r s t w z A B C D F G H I J L M N O P Q R T U V W X Y Z=>v α a b c d e g h i j l (fun a0 a1 a2 a3 a4 a5 a6 a7 a8 a9 b0 b1 b2 b3 b4 b5 b6 b7=>wP (K (.exit 0)) a a0 a1 a2 b c d e g h i j l p q r s t w z A B C D F G H I a3 a4 a5 a6 a7 a8 a9 b0 b1 b2 b3 b4 b5 b6 b7) m o J L M N O P Q R T U V W X Y Z
theorem akp (α:Type)(K:KT α)(Kn:SK α)(a:Bool)(b c d e g h i j:Int)(l:ae)(m o:Int)(J L:Nat)(M:Int)(N O:Nat)(P:Int)(Q R:Nat)(T:Int)(U V:Nat)(W:Int)(X Y:Nat)(Z:Int)(p q:Nat)(r:Int)(s t:Nat)(w:Int)(z A:Nat)(B:Int)(C D:Nat)(F:Int)(G H:Nat)(I:Int):Ct (fun σ=>az Pg PL G6 uz (bM (fun σ=>br ur σ Kn) K) σ) a b c d e g h i j l m o J L M N O P Q R T U V W X Y Z p q r s t w z A B C D F G H I=o8 α a d e g h i j l m o b c p q r s t w z A B C D F G H I (fun b c p q r s t w z A B C D F G H I=>Ct Kn a b c d e g h i j l m o J L M N O P Q R T U V W X Y Z p q r s t w z A B C D F G H I) (fun a0 a1 a2 a3 a4 a5 a6 a7 a8 a9 b0 b1 b2 b3 b4 b5 b6 b7=>wP (K (.exit 0)) a a0 a1 a2 d e g h i j l m o J L M N O P Q R T U V W X Y Z a3 a4 a5 a6 a7 a8 a9 b0 b1 b2 b3 b4 b5 b6 b7):=by kernel_rfl
theorem ag3 (α:Type)(K:KT α):∀ (n:Nat) (a:Bool) (m o b c d e g h:Int) (i:ae) (j l:Int) (J L:Nat) (M:Int) (N O:Nat) (P:Int) (Q R:Nat) (T:Int) (U V:Nat) (W:Int) (X Y:Nat) (Z:Int) (p q:Nat) (r:Int) (s t:Nat) (w:Int) (z A:Nat) (B:Int) (C D:Nat) (F:Int) (G H:Nat) (I:Int),lL α a b c d e g h i j l (fun a0 a1 a2 a3 a4 a5 a6 a7 a8 a9 b0 b1 b2 b3 b4 b5 b6 b7=>wP (K (.exit 0)) a a0 a1 a2 b c d e g h i j l J L M N O P Q R T U V W X Y Z a3 a4 a5 a6 a7 a8 a9 b0 b1 b2 b3 b4 b5 b6 b7) n m o p q r s t w z A B C D F G H I=Ct (aK (az Pg PL G6 uz) ur K n) a m o b c d e g h i j l J L M N O P Q R T U V W X Y Z p q r s t w z A B C D F G H I:=by
 intro n
 induction n with
 | zero=>intros;rfl
 | succ n ih=>intro a m o b c d e g h i j l J L M N O P Q R T U V W X Y Z p q r s t w z A B C D F G H I;exact (congrArg (fun kn=>o8 α a b c d e g h i j l m o p q r s t w z A B C D F G H I kn (fun a0 a1 a2 a3 a4 a5 a6 a7 a8 a9 b0 b1 b2 b3 b4 b5 b6 b7=>wP (K (.exit 0)) a a0 a1 a2 b c d e g h i j l J L M N O P Q R T U V W X Y Z a3 a4 a5 a6 a7 a8 a9 b0 b1 b2 b3 b4 b5 b6 b7)) (funext fun m=>funext fun o=>funext fun p=>funext fun q=>funext fun r=>funext fun s=>funext fun t=>funext fun w=>funext fun z=>funext fun A=>funext fun B=>funext fun C=>funext fun D=>funext fun F=>funext fun G=>funext fun H=>funext fun I=>ih a m o b c d e g h i j l J L M N O P Q R T U V W X Y Z p q r s t w z A B C D F G H I)).trans (akp α K (aK (az Pg PL G6 uz) ur K n) a m o b c d e g h i j l J L M N O P Q R T U V W X Y Z p q r s t w z A B C D F G H I).symm
theorem adT:∀ (α:Type) (K:KT α),LM vO α K=BL.unc fun σ=>aK (az Pg PL G6 uz) ur K aG σ:=aY (fun α K=>funext fun a=>funext fun b=>funext fun c=>funext fun d=>funext fun e=>funext fun g=>funext fun h=>funext fun i=>funext fun j=>funext fun l=>funext fun m=>funext fun o=>funext fun p=>funext fun q=>funext fun r=>funext fun s=>funext fun t=>funext fun w=>funext fun z=>funext fun A=>funext fun B=>funext fun C=>funext fun D=>funext fun F=>funext fun G=>funext fun H=>funext fun I=>funext fun J=>funext fun L=>funext fun M=>funext fun N=>funext fun O=>funext fun P=>funext fun Q=>funext fun R=>funext fun T=>funext fun U=>funext fun V=>funext fun W=>funext fun X=>funext fun Y=>funext fun Z=>ag3 α K aG a b c d e g h i j l m o p q r s t w z A B C D F G H I J L M N O P Q R T U V W X Y Z)
abbrev XQ:Type 1:=(α:Type)->Int->Int->Int->Int->Int->Int->Int->ae->Int->Int->Bool->(Nat->Nat->Int->Nat->Nat->Int->Nat->Nat->Int->Nat->Nat->Int->Nat->Nat->Int->Int->Op α)->Op α
def Tw (α:Type)(a b c d e g h:Int)(i:ae)(j l:Int)(m:Bool)(k1:Nat->Nat->Int->Nat->Nat->Int->Nat->Nat->Int->Nat->Nat->Int->Nat->Nat->Int->Int->Op α):Op α:=
 mX α
 (DL α
 (DL α
 (mX α
 (mX α
 (vO α m b c d e g h i j l
 (fun J L o p q r s t w z A B C D F G H I=>k1 p q r s t w z A B C D F G H I o) 1 a 4697254411347427328 0 0 0 0 0 0 0 0 4697254411347427328 0 0 4697254411347427328 0 0)))))
def CF:XQ:=sld Tw
def AR:PT (List DV):=pA [pV false [(dMr [(dI .i64),(dI .i64),(dI .i64),(dI .i64),(dI .i64),(dI .i64),(dI .i64),dL,(dI .i64),(dI .i64)] 0)],pV false [dB]]
def Rs (v:XQ)(α:Type)(k:RT α):Int->Int->Int->Int->Int->Int->Int->ae->Int->Int->Bool->Op α:=fun l a b c d e g h i j m=>v α l a b c d e g h i j m (fun o p q r s t w z A B C D F G H I=>aau k o p q r s t w z A B C D F G H I a b c d e g h i j)
def anr:ag:=(ag.put (.m [⟨BL,LM vO⟩]) [1,1,0,1,0] (ag.put (.m [⟨tI,Ca oD⟩]) [1,1,0,1,0,0,1,0,0,1,1] (emb Nr)))
theorem anp:ak Pg 153 59 ⟨AR,Rs CF⟩:=iZ aEJ (ah Tryz.func153 (by kernel_rfl)) G6 anr ((an _ _).trans ((an _ _).trans (aA _))) (aZ (td:=ur) (by kernel_rfl) (aL (by kernel_rfl) (aD Nr) ⟨alu,trivial⟩) ⟨adT,trivial⟩) fun _ _=>by kernel_rfl
def au4:SG:=[(10,[.sl,.sl,.int .i64,.int .i64]),(11,iS 9),(12,iS 4),(19,iT),(22,iT),(27,iT),(30,iT),(35,iT),(38,iT),(43,iT),(46,iT)]
def aAb:TG:=[tT 0 [3,4,5],tT 1 [4,7,8],tT 2 [4,7,17],tT 3 [6],tT 4 [4,7,33],tT 5 [6],tT 6 [49],tT 7 [6],tT 8 [6]]
def ale:ap:=aw Pg Tryz.f101 aAb aC
def C6:PT St:=pS [sP 4,sP 7,sl 17 (aV false [(cD dB)])] [au 4 (xs 9),au 7 [xI,xI]]
def aBC {β:Type}(g:St->β):Bool->I11 β:=C6.unc g
def ahL:PT St:=pS [sI 6] []
def agt {β:Type}(g:St->β):Int->β:=ahL.unc g
def amc:PT St:=pS [sP 4,sP 7,sl 33 (aV false [(cD dB)])] [au 4 (xs 9),au 7 [xI,xI]]
def ahW {β:Type}(g:St->β):Bool->I11 β:=amc.unc g
def abH:ag:=ag.sub [1,1,1,0] (emb ale)
def Fx (α:Type)(c a d b:Int)(k1:Op α)(k2:Bool->Op α):Op α:=
 cK (decide ((w64 (c*1048576))<=(w64 (d*10000))))
 (cK (decide ((w64 (b*10000))<=(w64 (a*1048576))))
 (k1)
 (k2 (decide ((w64 (b*10000))<=(w64 (a*1048576))))))
 (k2 false)
def lw:qM:=sld Fx
def LV (v:qM)(α:Type)(K:KT α):Bool->I11 (Op α):=fun p e g h i j l m a b c d=>v α a b c d (agt (K .ret) 2) (fun o=>ahW (K .normal) o e g h i j l m a b c d)
theorem al4:∀ (α:Type) (K:KT α),LV lw α K=C6.unc fun σ=>az Pg PL au4 abH K σ:=aY (fun α K=>by kernel_rfl)
abbrev AY:Type 1:=(α:Type)->ae->Int->Int->Int->Int->Int->Int->Int->Int->Int->Int->Int->(Int->Op α)->Op α
def Qq (α:Type)(e:ae)(g h i j l a b m o p q:Int)(k1:Int->Op α):Op α:=
 Cm α e g h i j l m o p q
 (fun c d r=>cK (r != 0)
 (k1 1)
 (lw α a b c d
 (k1 2)
 (fun s=>cK (decide ((w64 (d*10000)) < (w64 (a*1048576))))
 (k1 0)
 (cK (decide ((w64 (b*1048576)) < (w64 (c*10000))))
 (k1 0)
 (k1 1)))))
def ee:AY:=sld Qq
def Ru (v:AY)(α:Type)(k:RT α):ae->ae->I15 (Op α):=fun q a b c d e g r s t w h i j l m o=>v α a b c d e g h i j l m o (fun p=>aQ k p)
def au2:ag:=(ag.put (.m [⟨C6,LV lw⟩]) [1,1,1] (emb ale))
theorem ata:ak Pg 101 50 ⟨xM,Ru ee⟩:=iZ aEJ (ah Tryz.func101 (by kernel_rfl)) au4 au2 ((an _ _).trans (aA _)) (aL (by kernel_rfl) (aD ale) ⟨al4,trivial⟩) fun _ _=>by kernel_rfl
def aDZ:SG:=[(26,[.sl]),(34,[.cpx .f64,.int .i64]),(39,[.cpx .f64,.int .i64]),(40,[.cpx .f64,.int .i64]),(47,[.cpx .f64,.int .i64]),(52,[.cpx .f64,.int .i64]),(53,[.cpx .f64,.int .i64]),(59,[.cpx .f64,.int .i64]),(60,[.cpx .f64,.int .i64]),(65,[.cpx .f64,.int .i64]),(66,[.cpx .f64,.int .i64]),(78,[.cpx .f64,.int .i64]),(79,[.cpx .f64,.int .i64]),(81,[.cpx .f64,.int .i64]),(83,[.cpx .f64,.int .i64]),(91,[.cpx .f64,.int .i64]),(92,[.cpx .f64,.int .i64]),(94,[.cpx .f64,.int .i64])]
def aH4:TG:=[tT 0 [0,1,4],tT 1 [0,1,4,5],tT 2 [0,1,4,5,6,7],tT 3 [0,1,4,5,6,7,8],tT 4 [0,1,4,5,6,7,8,9],tT 5 [0,1,4,5,7,9,10],tT 6 [0,1,4,5,7,10,11],tT 7 [0,1,4,5,7,10,11,12],tT 8 [0,4,5,7,10,11,12,68],tT 9 [0,4],tT 10 [0,4]]
def aC5:ap:=aw Pg Tryz.f128 aH4 aC
noncomputable abbrev awH:List bE:=⟨153,59,[⟨AR,Rs CF⟩]⟩::⟨101,50,[⟨xM,Ru ee⟩]⟩::azS
theorem aAs:bJ awH fun c=>bJ c.l (ak Pg c.f c.nt):=⟨⟨anp,trivial⟩,⟨ata,trivial⟩,aEh⟩
def azR:aE:=aE.ofIO awH bw io0
theorem aAV:azR.Ok Pg:=aE.ofIO_ok aO aAs
abbrev QG:Type 1:=(α:Type)->Int->Int->Int->Int->Int->Int->Int->ae->Int->Int->Bool->(Nat->Nat->Int->Int->Op α)->Op α
def Sv (α:Type)(G b c d e H I:Int)(a:ae)(g h:Int)(m:Bool)(k1:Nat->Nat->Int->Int->Op α):Op α:=
 js α G b c d e a g h 0
 (fun i j l J=>CF α J b c d e H I a g h m
 (fun L M N O P Q R T U V W X Y Z a0 a1=>js α a1 b c d e a g h (w64 (((List.length a:Nat):Int)+1))
 (fun o p q a2=>cR α a2 O P Q o p q
 (fun a3 a4 a5 a6=>fw α a6 L M N a3 a4 a5
 (fun a7 a8 a9 b0=>cR α b0 V W X o p q
 (fun b1 b2 b3 b4=>fw α b4 R T U b1 b2 b3
 (fun r s t b5=>cR α b5 i j l a7 a8 a9
 (fun w z A b6=>fw α b6 w z A r s t
 (fun B C D F=>cK m
 (fw α F i j l i j l
 (fun b7 b8 b9 c0=>cR α c0 b7 b8 b9 Y Z a0
 (fun c1 c2 c3 c4=>oq α c4 c1 c2 c3 B C D
 (fun c5 c6 c7 c8=>k1 c5 c6 c7 c8))))
 (ow α F w z A r s t
 (fun c9 d0 d1 d2=>oq α d2 c9 d0 d1 B C D
 (fun d3 d4 d5 d6=>k1 d3 d4 d5 d6))))))))))))
def xC:QG:=sld Sv
def Q9 (v:QG)(α:Type)(k:RT α):Int->Int->Int->Int->Int->Int->Int->ae->Int->Int->Bool->Op α:=fun l a b c d e g h i j m=>v α l a b c d e g h i j m (fun o p q r=>cG k o p q r a b c d e g h i j)
theorem aml:ak Pg 128 96 ⟨AR,Q9 xC⟩:=iP aAV aC5 (ah Tryz.func128 (by kernel_rfl)) aDZ fun _ _=>by kernel_rfl
def nj:SG:=[(20,[.bool]),(22,[.sl]),(24,iS 9),(25,iS 9),(26,[.sl,.sl,.int .i64,.int .i64]),(27,iS 9),(28,iS 4),(35,[.sl]),(42,iS 2),(45,iS 2),(48,[.sl,.sl,.int .i64,.int .i64]),(49,iS 9),(51,iT),(53,iT),(59,iS 3),(65,iS 4),(83,[.sl]),(90,iS 4),(96,[.sl,.sl,.int .i64,.int .i64]),(98,iS 4),(103,[.sl,.sl,.int .i64,.int .i64]),(105,iS 4)]
def aJO:TG:=[tT 0 [0,2,4,6,8],tT 1 [0,2,4,6,8,20],tT 2 [0,2,4,6,8,10],tT 3 [0,2,4,6,8,10,30],tT 4 [0],tT 5 [0,2,4,6,8,10,11],tT 6 [0,2,4,6,8,11,56],tT 7 [0],tT 8 [0,2,4,6,8,12,13],tT 9 [0,2,4,6,8,12,74],tT 10 [0],tT 11 [0,2,4,6,8,12,14],tT 12 [0,2,4,6,8,12,14,78],tT 13 [0,2,4,6,8,12,14],tT 14 [0,2,4,6,8,12],tT 15 [0,2,4,6,15,16],tT 16 [0,2,4,6,16],tT 17 [0]]
def iY:ap:=aw Pg Tryz.f74 aJO aC
def gQ:PT St:=pSv [(0,500000000,0)] [sl 0 (aV false [(cC 500000000 0)]),sI 2,sI 4,sP 6,sP 8,sl 12 (aV false [(cD dB)]),sl 13 (aV false [(cD dB)])] [au 500000000 [(dz 500000001),(cD dB),xI,xI,xI,(cD dB)],dA 500000001 1,au 6 [(cD dL),(cD dL),xI,xI],au 8 (xs 4)]
def aIk {β:Type}(g:St->β):Int->Int->Bool->Bool->Bool->Int->Int->Int->Bool->ae->ae->ae->I6 β:=gQ.unc g
def arX:PT St:=pSv [(0,500000000,0)] [sl 0 (aV false [(cC 500000000 0)]),sI 2,sI 4,sP 6,sP 8,sl 12 (aV false [(cD dB)]),sl 74 (aV false [(cD dB)])] [au 500000000 [(dz 500000001),(cD dB),xI,xI,xI,(cD dB)],dA 500000001 1,au 6 [(cD dL),(cD dL),xI,xI],au 8 (xs 4)]
def vb {β:Type}(g:St->β):Int->Int->Bool->Bool->Bool->Int->Int->Int->Bool->ae->ae->ae->I6 β:=arX.unc g
def gN:PT St:=pSv [(0,500000000,0)] [sl 0 (aV false [(cC 500000000 0)]),sI 2,sI 4,sP 6,sP 8,sl 12 (aV false [(cD dB)]),sI 14] [au 500000000 [(dz 500000001),(cD dB),xI,xI,xI,(cD dB)],dA 500000001 1,au 6 [(cD dL),(cD dL),xI,xI],au 8 (xs 4)]
def tC {β:Type}(g:St->β):Int->Int->Bool->Int->Bool->Int->Int->Int->Bool->ae->ae->ae->I6 β:=gN.unc g
def amu:PT St:=pSv [(0,500000000,0)] [sl 0 (aV false [(cC 500000000 0)]),sI 2,sI 4,sP 6,sP 8,sl 12 (aV false [(cD dB)]),sI 14,sl 78 (aV false [(cD dB)])] [au 500000000 [(dz 500000001),(cD dB),xI,xI,xI,(cD dB)],dA 500000001 1,au 6 [(cD dL),(cD dL),xI,xI],au 8 (xs 4)]
def wq {β:Type}(g:St->β):Int->Int->Bool->Int->Bool->Bool->Int->Int->Int->Bool->ae->ae->ae->I6 β:=amu.unc g
def ald:PT (List RV):=pRs [pR true [rO 1,rD dB,rD (dI .i64),rD (dI .i64),rD (dI .i64),rD dB]]
def lH {β:Type}(g:List RV->β):ae->Bool->Int->Int->Int->Bool->β:=ald.unc g
def af9:ag:=ag.sub [1,1,1,1,1,1,1,1,1,0] (emb iY)
def ab7 (α:Type)(a:Bool)(k1:Op α)(k2:Op α):Op α:=
 cK a
 (k1)
 (k2)
def Jo:bV:=sld ab7
def Xh (v:bV)(α:Type)(K:KT α):Int->Int->Bool->Int->Bool->Int->Int->Int->Bool->ae->ae->ae->I6 (Op α):=fun b c a w d e g h i j l m o p q r s t=>v α a (tC (K .normal) b c a 1 d e g h i j l m o p q r s t) (wq (K .normal) b c a w a d e g h i j l m o p q r s t)
theorem arU:∀ (α:Type) (K:KT α),Xh Jo α K=gN.unc fun σ=>az Pg azR nj af9 K σ:=aY (fun α K=>by kernel_rfl)
def afY:ag:=ag.sub [1,1,1,1,1,1,1,0,0] (emb iY)
abbrev eJ:Type 1:=(α:Type)->Int->Bool->(Bool->Op α)->Op α
def Mi (α:Type)(a:Int)(b:Bool)(k1:Bool->Op α):Op α:=
 cK (decide (5<=a))
 (k1 true)
 (k1 (!b))
def vu:eJ:=sld Mi
def Qi (v:eJ)(α:Type)(K:KT α):Int->Int->Bool->Bool->Bool->Int->Int->Int->Bool->ae->ae->ae->I6 (Op α):=fun b a c d e g h i j l m o p q r s t w=>v α a d (fun z=>vb (K .normal) b a c z e g h i j l m o p q r s t w)
theorem amM:∀ (α:Type) (K:KT α),Qi vu α K=gQ.unc fun σ=>az Pg azR nj afY K σ:=aY (fun α K=>by kernel_rfl)
abbrev kV:Type 1:=(α:Type)->ae->Bool->Int->Int->Int->Bool->ae->ae->Int->Int->Int->Int->Int->Int->Int->Int->(ae->Bool->Int->Int->Int->Bool->Op α)->Op α
def OR (α:Type)(a:ae)(g:Bool)(h i j:Int)(l:Bool)(D q:ae)(r s t b c d e F:Int)(k1:ae->Bool->Int->Int->Int->Bool->Op α):Op α:=
 cK g
 (k1 a g h i j l)
 (dE D t [.int .i64,.int .i64,.int .i64,.int .i64,.int .i64,.int .i64,.int .i64,.int .i64,.int .i64]
 (fun w z A L M N O B C=>ee α q r s w z A B C b c d e
 (fun G=>cK (G == 2)
 (gK (cj 1 8 a [[DC.v (.int .i64 0)]]) (k1 (a++[[DC.v (.int .i64 0)]]) g h i j l))
 (dG α b c
 (fun m=>dG α d e
 (fun o=>jQ α
 (ee α q r s w z A B C m m o o
 (fun H=>cK (H == 0)
 (k1 a true t m o l)
 (jC α b c d e
 (fun p I=>vu α F I
 (fun J=>cK J
 (k1 a g h i j true)
 (Jo α p
 (gK (cj 1 8 a [[DC.v (.int .i64 1)]]) (eg α b c d e p
 (fun P Q R T=>none)))
 (gK (cj 1 8 a [[DC.v (.int .i64 2)]]) (eg α b c d e p
 (fun U V W X=>none)))))))))))))))
def wQ:kV:=sld OR
def kR:PT (List DV):=pA [pV false [(dMr [(dOs 1),dB,(dI .i64),(dI .i64),(dI .i64),dB] 0)],pV true [dL,dL,(dI .i64),(dI .i64)],vI,pV true [(dI .i64),(dI .i64),(dI .i64),(dI .i64)],vI]
def ahO (v:kV)(α:Type)(k:RT α):ae->Bool->Int->Int->Int->Bool->ae->ae->I8 (Op α):=fun a b c d e g h i j l m o p q r s=>v α a b c d e g h i j l m o p q r s (fun t w z A B C=>lH k t w z A B C)
def awv:ag:=(ag.put (.m [⟨gQ,Qi vu⟩]) [1,1,1,1,1,1,1,0] (ag.put (.m [⟨gN,Xh Jo⟩]) [1,1,1,1,1,1,1,1,1] (emb iY)))
theorem aze:ak Pg 74 109 ⟨kR,ahO wQ⟩:=iZ aAV (ah Tryz.func74 (by kernel_rfl)) nj awv ((an _ _).trans ((an _ _).trans (aA _))) (aL (by kernel_rfl) (aL (by kernel_rfl) (aD iY) ⟨arU,trivial⟩) ⟨amM,trivial⟩) fun _ _=>by kernel_rfl
noncomputable abbrev Nb:List bE:=⟨74,109,[⟨kR,ahO wQ⟩]⟩::⟨128,96,[⟨AR,Q9 xC⟩]⟩::awH
theorem OP:bJ Nb fun c=>bJ c.l (ak Pg c.f c.nt):=⟨⟨aze,trivial⟩,⟨aml,trivial⟩,aAs⟩
def amZ:aE:=aE.ofIO Nb bw io0
theorem aG2:amZ.Ok Pg:=aE.ofIO_ok aO OP
def ach:ag:=ag.sub [1,1,1,1,1,1,1,1,1,0] (emb iY)
def Lt (α:Type)(a:Bool)(k1:Op α)(k2:Op α):Op α:=
 cK a
 (k1)
 (k2)
def tW:bV:=sld Lt
def WH (v:bV)(α:Type)(K:KT α):Int->Int->Bool->Int->Bool->Int->Int->Int->Bool->ae->ae->ae->I6 (Op α):=fun b c a w d e g h i j l m o p q r s t=>v α a (tC (K .normal) b c a 1 d e g h i j l m o p q r s t) (wq (K .normal) b c a w a d e g h i j l m o p q r s t)
theorem atD:∀ (α:Type) (K:KT α),WH tW α K=gN.unc fun σ=>az Pg amZ nj ach K σ:=aY (fun α K=>by kernel_rfl)
def adb:ag:=ag.sub [1,1,1,1,1,1,1,0,0] (emb iY)
def Np (α:Type)(a:Int)(b:Bool)(k1:Bool->Op α):Op α:=
 cK (decide (5<=a))
 (k1 true)
 (k1 (!b))
def uW:eJ:=sld Np
def YI (v:eJ)(α:Type)(K:KT α):Int->Int->Bool->Bool->Bool->Int->Int->Int->Bool->ae->ae->ae->I6 (Op α):=fun b a c d e g h i j l m o p q r s t w=>v α a d (fun z=>vb (K .normal) b a c z e g h i j l m o p q r s t w)
theorem apS:∀ (α:Type) (K:KT α),YI uW α K=gQ.unc fun σ=>az Pg amZ nj adb K σ:=aY (fun α K=>by kernel_rfl)
def axX (α:Type)(a:ae)(g:Bool)(m o p:Int)(q:Bool)(r h:ae)(i j l b c d e s:Int)(k1:ae->Bool->Int->Int->Int->Bool->Op α):Op α:=
 cK g
 (k1 a g m o p q)
 (dE r l [.int .i64,.int .i64,.int .i64,.int .i64,.int .i64,.int .i64,.int .i64,.int .i64,.int .i64]
 (fun A B C b8 b9 c0 c1 D F=>ee α h i j A B C D F b c d e
 (fun G=>cK (G == 2)
 (gK (cj 1 8 a [[DC.v (.int .i64 0)]]) (k1 (a++[[DC.v (.int .i64 0)]]) g m o p q))
 (dG α b c
 (fun t=>dG α d e
 (fun w=>jQ α
 (ee α h i j A B C D F t t w w
 (fun H=>cK (H == 0)
 (k1 a true l t w q)
 (jC α b c d e
 (fun z I=>uW α s I
 (fun J=>cK J
 (k1 a g m o p true)
 (tW α z
 (gK (cj 1 8 a [[DC.v (.int .i64 1)]]) (eg α b c d e z
 (fun L M N O=>wQ α (a++[[DC.v (.int .i64 1)]]) g m o p q r h i j l b L d M (w64 (s+1))
 (fun P Q R T U V=>wQ α P Q R T U V r h i j l N c O e (w64 (s+1))
 (fun W X Y Z a0 a1=>k1 W X Y Z a0 a1)))))
 (gK (cj 1 8 a [[DC.v (.int .i64 2)]]) (eg α b c d e z
 (fun a2 a3 a4 a5=>wQ α (a++[[DC.v (.int .i64 2)]]) g m o p q r h i j l b a2 d a3 (w64 (s+1))
 (fun a6 a7 a8 a9 b0 b1=>wQ α a6 a7 a8 a9 b0 b1 r h i j l a4 c a5 e (w64 (s+1))
 (fun b2 b3 b4 b5 b6 b7=>k1 b2 b3 b4 b5 b6 b7)))))))))))))))))
def sN:kV:=sld axX
def alF (v:kV)(α:Type)(k:RT α):ae->Bool->Int->Int->Int->Bool->ae->ae->I8 (Op α):=fun a b c d e g h i j l m o p q r s=>v α a b c d e g h i j l m o p q r s (fun t w z A B C=>lH k t w z A B C)
def axn:ag:=(ag.put (.m [⟨gQ,YI uW⟩]) [1,1,1,1,1,1,1,0] (ag.put (.m [⟨gN,WH tW⟩]) [1,1,1,1,1,1,1,1,1] (emb iY)))
theorem azP:ak Pg 74 109 ⟨kR,alF sN⟩:=iZ aG2 (ah Tryz.func74 (by kernel_rfl)) nj axn ((an _ _).trans ((an _ _).trans (aA _))) (aL (by kernel_rfl) (aL (by kernel_rfl) (aD iY) ⟨atD,trivial⟩) ⟨apS,trivial⟩) fun _ _=>by kernel_rfl
def aeT:aE:=aE.ofIO (⟨74,109,[⟨kR,alF sN⟩]⟩::Nb) bw io0
theorem ayM:aeT.Ok Pg:=aE.ofIO_ok aO ⟨⟨azP,trivial⟩,OP⟩
def akP:ag:=ag.sub [1,1,1,1,1,1,1,1,1,0] (emb iY)
def MU (α:Type)(a:Bool)(k1:Op α)(k2:Op α):Op α:=
 cK a
 (k1)
 (k2)
def vZ:bV:=sld MU
def PV (v:bV)(α:Type)(K:KT α):Int->Int->Bool->Int->Bool->Int->Int->Int->Bool->ae->ae->ae->I6 (Op α):=fun b c a w d e g h i j l m o p q r s t=>v α a (tC (K .normal) b c a 1 d e g h i j l m o p q r s t) (wq (K .normal) b c a w a d e g h i j l m o p q r s t)
theorem amy:∀ (α:Type) (K:KT α),PV vZ α K=gN.unc fun σ=>az Pg aeT nj akP K σ:=aY (fun α K=>by kernel_rfl)
def ajr:ag:=ag.sub [1,1,1,1,1,1,1,0,0] (emb iY)
def Ov (α:Type)(a:Int)(b:Bool)(k1:Bool->Op α):Op α:=
 cK (decide (5<=a))
 (k1 true)
 (k1 (!b))
def vn:eJ:=sld Ov
def Wz (v:eJ)(α:Type)(K:KT α):Int->Int->Bool->Bool->Bool->Int->Int->Int->Bool->ae->ae->ae->I6 (Op α):=fun b a c d e g h i j l m o p q r s t w=>v α a d (fun z=>vb (K .normal) b a c z e g h i j l m o p q r s t w)
theorem amm:∀ (α:Type) (K:KT α),Wz vn α K=gQ.unc fun σ=>az Pg aeT nj ajr K σ:=aY (fun α K=>by kernel_rfl)
def axa (α:Type)(a:ae)(g:Bool)(m o p:Int)(q:Bool)(r h:ae)(i j l b c d e s:Int)(k1:ae->Bool->Int->Int->Int->Bool->Op α):Op α:=
 cK g
 (k1 a g m o p q)
 (dE r l [.int .i64,.int .i64,.int .i64,.int .i64,.int .i64,.int .i64,.int .i64,.int .i64,.int .i64]
 (fun A B C b8 b9 c0 c1 D F=>ee α h i j A B C D F b c d e
 (fun G=>cK (G == 2)
 (gK (cj 1 8 a [[DC.v (.int .i64 0)]]) (k1 (a++[[DC.v (.int .i64 0)]]) g m o p q))
 (dG α b c
 (fun t=>dG α d e
 (fun w=>jQ α
 (ee α h i j A B C D F t t w w
 (fun H=>cK (H == 0)
 (k1 a true l t w q)
 (jC α b c d e
 (fun z I=>vn α s I
 (fun J=>cK J
 (k1 a g m o p true)
 (vZ α z
 (gK (cj 1 8 a [[DC.v (.int .i64 1)]]) (eg α b c d e z
 (fun L M N O=>sN α (a++[[DC.v (.int .i64 1)]]) g m o p q r h i j l b L d M (w64 (s+1))
 (fun P Q R T U V=>sN α P Q R T U V r h i j l N c O e (w64 (s+1))
 (fun W X Y Z a0 a1=>k1 W X Y Z a0 a1)))))
 (gK (cj 1 8 a [[DC.v (.int .i64 2)]]) (eg α b c d e z
 (fun a2 a3 a4 a5=>sN α (a++[[DC.v (.int .i64 2)]]) g m o p q r h i j l b a2 d a3 (w64 (s+1))
 (fun a6 a7 a8 a9 b0 b1=>sN α a6 a7 a8 a9 b0 b1 r h i j l a4 c a5 e (w64 (s+1))
 (fun b2 b3 b4 b5 b6 b7=>k1 b2 b3 b4 b5 b6 b7)))))))))))))))))
def vq:kV:=sld axa
def aiW (v:kV)(α:Type)(k:RT α):ae->Bool->Int->Int->Int->Bool->ae->ae->I8 (Op α):=fun a b c d e g h i j l m o p q r s=>v α a b c d e g h i j l m o p q r s (fun t w z A B C=>lH k t w z A B C)
def awk:ag:=(ag.put (.m [⟨gQ,Wz vn⟩]) [1,1,1,1,1,1,1,0] (ag.put (.m [⟨gN,PV vZ⟩]) [1,1,1,1,1,1,1,1,1] (emb iY)))
theorem awK:ak Pg 74 109 ⟨kR,aiW vq⟩:=iZ ayM (ah Tryz.func74 (by kernel_rfl)) nj awk ((an _ _).trans ((an _ _).trans (aA _))) (aL (by kernel_rfl) (aL (by kernel_rfl) (aD iY) ⟨amy,trivial⟩) ⟨amm,trivial⟩) fun _ _=>by kernel_rfl
def ai7:aE:=aE.ofIO (⟨74,109,[⟨kR,aiW vq⟩]⟩::Nb) bw io0
theorem axx:ai7.Ok Pg:=aE.ofIO_ok aO ⟨⟨awK,trivial⟩,OP⟩
def ahr:ag:=ag.sub [1,1,1,1,1,1,1,1,1,0] (emb iY)
def ND (α:Type)(a:Bool)(k1:Op α)(k2:Op α):Op α:=
 cK a
 (k1)
 (k2)
def uJ:bV:=sld ND
def Vo (v:bV)(α:Type)(K:KT α):Int->Int->Bool->Int->Bool->Int->Int->Int->Bool->ae->ae->ae->I6 (Op α):=fun b c a w d e g h i j l m o p q r s t=>v α a (tC (K .normal) b c a 1 d e g h i j l m o p q r s t) (wq (K .normal) b c a w a d e g h i j l m o p q r s t)
theorem aoJ:∀ (α:Type) (K:KT α),Vo uJ α K=gN.unc fun σ=>az Pg ai7 nj ahr K σ:=aY (fun α K=>by kernel_rfl)
def ail:ag:=ag.sub [1,1,1,1,1,1,1,0,0] (emb iY)
def MX (α:Type)(a:Int)(b:Bool)(k1:Bool->Op α):Op α:=
 cK (decide (5<=a))
 (k1 true)
 (k1 (!b))
def tA:eJ:=sld MX
def Ua (v:eJ)(α:Type)(K:KT α):Int->Int->Bool->Bool->Bool->Int->Int->Int->Bool->ae->ae->ae->I6 (Op α):=fun b a c d e g h i j l m o p q r s t w=>v α a d (fun z=>vb (K .normal) b a c z e g h i j l m o p q r s t w)
theorem aof:∀ (α:Type) (K:KT α),Ua tA α K=gQ.unc fun σ=>az Pg ai7 nj ail K σ:=aY (fun α K=>by kernel_rfl)
def ayY (α:Type)(a:ae)(g:Bool)(m o p:Int)(q:Bool)(r h:ae)(i j l b c d e s:Int)(k1:ae->Bool->Int->Int->Int->Bool->Op α):Op α:=
 cK g
 (k1 a g m o p q)
 (dE r l [.int .i64,.int .i64,.int .i64,.int .i64,.int .i64,.int .i64,.int .i64,.int .i64,.int .i64]
 (fun A B C b8 b9 c0 c1 D F=>ee α h i j A B C D F b c d e
 (fun G=>cK (G == 2)
 (gK (cj 1 8 a [[DC.v (.int .i64 0)]]) (k1 (a++[[DC.v (.int .i64 0)]]) g m o p q))
 (dG α b c
 (fun t=>dG α d e
 (fun w=>jQ α
 (ee α h i j A B C D F t t w w
 (fun H=>cK (H == 0)
 (k1 a true l t w q)
 (jC α b c d e
 (fun z I=>tA α s I
 (fun J=>cK J
 (k1 a g m o p true)
 (uJ α z
 (gK (cj 1 8 a [[DC.v (.int .i64 1)]]) (eg α b c d e z
 (fun L M N O=>vq α (a++[[DC.v (.int .i64 1)]]) g m o p q r h i j l b L d M (w64 (s+1))
 (fun P Q R T U V=>vq α P Q R T U V r h i j l N c O e (w64 (s+1))
 (fun W X Y Z a0 a1=>k1 W X Y Z a0 a1)))))
 (gK (cj 1 8 a [[DC.v (.int .i64 2)]]) (eg α b c d e z
 (fun a2 a3 a4 a5=>vq α (a++[[DC.v (.int .i64 2)]]) g m o p q r h i j l b a2 d a3 (w64 (s+1))
 (fun a6 a7 a8 a9 b0 b1=>vq α a6 a7 a8 a9 b0 b1 r h i j l a4 c a5 e (w64 (s+1))
 (fun b2 b3 b4 b5 b6 b7=>k1 b2 b3 b4 b5 b6 b7)))))))))))))))))
def uL:kV:=sld ayY
def afW (v:kV)(α:Type)(k:RT α):ae->Bool->Int->Int->Int->Bool->ae->ae->I8 (Op α):=fun a b c d e g h i j l m o p q r s=>v α a b c d e g h i j l m o p q r s (fun t w z A B C=>lH k t w z A B C)
def ax6:ag:=(ag.put (.m [⟨gQ,Ua tA⟩]) [1,1,1,1,1,1,1,0] (ag.put (.m [⟨gN,Vo uJ⟩]) [1,1,1,1,1,1,1,1,1] (emb iY)))
theorem aw2:ak Pg 74 109 ⟨kR,afW uL⟩:=iZ axx (ah Tryz.func74 (by kernel_rfl)) nj ax6 ((an _ _).trans ((an _ _).trans (aA _))) (aL (by kernel_rfl) (aL (by kernel_rfl) (aD iY) ⟨aoJ,trivial⟩) ⟨aof,trivial⟩) fun _ _=>by kernel_rfl
def amd:aE:=aE.ofIO (⟨74,109,[⟨kR,afW uL⟩]⟩::Nb) bw io0
theorem azt:amd.Ok Pg:=aE.ofIO_ok aO ⟨⟨aw2,trivial⟩,OP⟩
def aj4:ag:=ag.sub [1,1,1,1,1,1,1,1,1,0] (emb iY)
def Mw (α:Type)(a:Bool)(k1:Op α)(k2:Op α):Op α:=
 cK a
 (k1)
 (k2)
def uR:bV:=sld Mw
def Yi (v:bV)(α:Type)(K:KT α):Int->Int->Bool->Int->Bool->Int->Int->Int->Bool->ae->ae->ae->I6 (Op α):=fun b c a w d e g h i j l m o p q r s t=>v α a (tC (K .normal) b c a 1 d e g h i j l m o p q r s t) (wq (K .normal) b c a w a d e g h i j l m o p q r s t)
theorem asP:∀ (α:Type) (K:KT α),Yi uR α K=gN.unc fun σ=>az Pg amd nj aj4 K σ:=aY (fun α K=>by kernel_rfl)
def adm:ag:=ag.sub [1,1,1,1,1,1,1,0,0] (emb iY)
def Nv (α:Type)(a:Int)(b:Bool)(k1:Bool->Op α):Op α:=
 cK (decide (5<=a))
 (k1 true)
 (k1 (!b))
def xa:eJ:=sld Nv
def QF (v:eJ)(α:Type)(K:KT α):Int->Int->Bool->Bool->Bool->Int->Int->Int->Bool->ae->ae->ae->I6 (Op α):=fun b a c d e g h i j l m o p q r s t w=>v α a d (fun z=>vb (K .normal) b a c z e g h i j l m o p q r s t w)
theorem art:∀ (α:Type) (K:KT α),QF xa α K=gQ.unc fun σ=>az Pg amd nj adm K σ:=aY (fun α K=>by kernel_rfl)
def axF (α:Type)(a:ae)(g:Bool)(m o p:Int)(q:Bool)(r h:ae)(i j l b c d e s:Int)(k1:ae->Bool->Int->Int->Int->Bool->Op α):Op α:=
 cK g
 (k1 a g m o p q)
 (dE r l [.int .i64,.int .i64,.int .i64,.int .i64,.int .i64,.int .i64,.int .i64,.int .i64,.int .i64]
 (fun A B C b8 b9 c0 c1 D F=>ee α h i j A B C D F b c d e
 (fun G=>cK (G == 2)
 (gK (cj 1 8 a [[DC.v (.int .i64 0)]]) (k1 (a++[[DC.v (.int .i64 0)]]) g m o p q))
 (dG α b c
 (fun t=>dG α d e
 (fun w=>jQ α
 (ee α h i j A B C D F t t w w
 (fun H=>cK (H == 0)
 (k1 a true l t w q)
 (jC α b c d e
 (fun z I=>xa α s I
 (fun J=>cK J
 (k1 a g m o p true)
 (uR α z
 (gK (cj 1 8 a [[DC.v (.int .i64 1)]]) (eg α b c d e z
 (fun L M N O=>uL α (a++[[DC.v (.int .i64 1)]]) g m o p q r h i j l b L d M (w64 (s+1))
 (fun P Q R T U V=>uL α P Q R T U V r h i j l N c O e (w64 (s+1))
 (fun W X Y Z a0 a1=>k1 W X Y Z a0 a1)))))
 (gK (cj 1 8 a [[DC.v (.int .i64 2)]]) (eg α b c d e z
 (fun a2 a3 a4 a5=>uL α (a++[[DC.v (.int .i64 2)]]) g m o p q r h i j l b a2 d a3 (w64 (s+1))
 (fun a6 a7 a8 a9 b0 b1=>uL α a6 a7 a8 a9 b0 b1 r h i j l a4 c a5 e (w64 (s+1))
 (fun b2 b3 b4 b5 b6 b7=>k1 b2 b3 b4 b5 b6 b7)))))))))))))))))
def pT:kV:=sld axF
def ajp (v:kV)(α:Type)(k:RT α):ae->Bool->Int->Int->Int->Bool->ae->ae->I8 (Op α):=fun a b c d e g h i j l m o p q r s=>v α a b c d e g h i j l m o p q r s (fun t w z A B C=>lH k t w z A B C)
def awx:ag:=(ag.put (.m [⟨gQ,QF xa⟩]) [1,1,1,1,1,1,1,0] (ag.put (.m [⟨gN,Yi uR⟩]) [1,1,1,1,1,1,1,1,1] (emb iY)))
theorem azN:ak Pg 74 109 ⟨kR,ajp pT⟩:=iZ azt (ah Tryz.func74 (by kernel_rfl)) nj awx ((an _ _).trans ((an _ _).trans (aA _))) (aL (by kernel_rfl) (aL (by kernel_rfl) (aD iY) ⟨asP,trivial⟩) ⟨art,trivial⟩) fun _ _=>by kernel_rfl
def Ju:PT St:=pSv [(0,500000000,0)] [sl 0 (aV false [(cC 500000000 0)]),sI 2,sI 4,sP 6,sP 8,sl 12 (aV false [(cD dB)]),sl 13 (aV false [(cD dB)])] [au 500000000 [NY,(cD dB),xI,xI,xI,(cD dB)],au 6 [(cD dL),(cD dL),xI,xI],au 8 (xs 4)]
def aIh {β:Type}(g:St->β):Int->Int->Bool->Bool->Bool->Int->Int->Int->Bool->ae->ae->I6 β:=Ju.unc g
def atS:PT St:=pSv [(0,500000000,0)] [sl 0 (aV false [(cC 500000000 0)]),sI 2,sI 4,sP 6,sP 8,sl 12 (aV false [(cD dB)]),sl 74 (aV false [(cD dB)])] [au 500000000 [NY,(cD dB),xI,xI,xI,(cD dB)],au 6 [(cD dL),(cD dL),xI,xI],au 8 (xs 4)]
def anV {β:Type}(g:St->β):Int->Int->Bool->Bool->Bool->Int->Int->Int->Bool->ae->ae->I6 β:=atS.unc g
def IR:PT St:=pSv [(0,500000000,0)] [sl 0 (aV false [(cC 500000000 0)]),sI 2,sI 4,sP 6,sP 8,sl 12 (aV false [(cD dB)]),sI 14] [au 500000000 [NY,(cD dB),xI,xI,xI,(cD dB)],au 6 [(cD dL),(cD dL),xI,xI],au 8 (xs 4)]
def anc {β:Type}(g:St->β):Int->Int->Bool->Int->Bool->Int->Int->Int->Bool->ae->ae->I6 β:=IR.unc g
def atM:PT St:=pSv [(0,500000000,0)] [sl 0 (aV false [(cC 500000000 0)]),sI 2,sI 4,sP 6,sP 8,sl 12 (aV false [(cD dB)]),sI 14,sl 78 (aV false [(cD dB)])] [au 500000000 [NY,(cD dB),xI,xI,xI,(cD dB)],au 6 [(cD dL),(cD dL),xI,xI],au 8 (xs 4)]
def aqL {β:Type}(g:St->β):Int->Int->Bool->Int->Bool->Bool->Int->Int->Int->Bool->ae->ae->I6 β:=atM.unc g
def akQ:PT (List RV):=pRs [pR true [rD dL,rD dB,rD (dI .i64),rD (dI .i64),rD (dI .i64),rD dB]]
def ag5 {β:Type}(g:List RV->β):ae->Bool->Int->Int->Int->Bool->β:=akQ.unc g
def ajz:aE:=aE.ofIO (⟨74,109,[⟨kR,ajp pT⟩]⟩::Nb) bw io0
theorem awS:ajz.Ok Pg:=aE.ofIO_ok aO ⟨⟨azN,trivial⟩,OP⟩
def alq:ag:=ag.sub [1,1,1,1,1,1,1,1,1,0] (emb iY)
def Nm (α:Type)(a:Bool)(k1:Op α)(k2:Op α):Op α:=
 cK a
 (k1)
 (k2)
def AQ:bV:=sld Nm
def X4 (v:bV)(α:Type)(K:KT α):Int->Int->Bool->Int->Bool->Int->Int->Int->Bool->ae->ae->I6 (Op α):=fun b c a t d e g h i j l m o p q r s=>v α a (anc (K .normal) b c a 1 d e g h i j l m o p q r s) (aqL (K .normal) b c a t a d e g h i j l m o p q r s)
theorem apP:∀ (α:Type) (K:KT α),X4 AQ α K=IR.unc fun σ=>az Pg ajz nj alq K σ:=aY (fun α K=>by kernel_rfl)
def ahi:ag:=ag.sub [1,1,1,1,1,1,1,0,0] (emb iY)
def Om (α:Type)(a:Int)(b:Bool)(k1:Bool->Op α):Op α:=
 cK (decide (5<=a))
 (k1 true)
 (k1 (!b))
def wu:eJ:=sld Om
def Qz (v:eJ)(α:Type)(K:KT α):Int->Int->Bool->Bool->Bool->Int->Int->Int->Bool->ae->ae->I6 (Op α):=fun b a c d e g h i j l m o p q r s t=>v α a d (fun w=>anV (K .normal) b a c w e g h i j l m o p q r s t)
theorem arx:∀ (α:Type) (K:KT α),Qz wu α K=Ju.unc fun σ=>az Pg ajz nj ahi K σ:=aY (fun α K=>by kernel_rfl)
abbrev aj0:Type 1:=(α:Type)->Bool->Int->Int->Int->Bool->ae->ae->Int->Int->Int->Int->Int->Int->Int->Int->(Bool->Int->Int->Int->Bool->Op α)->(ae->Bool->Int->Int->Int->Bool->Op α)->Op α
def ah3 (α:Type)(e:Bool)(l m o:Int)(p:Bool)(q g:ae)(h i j a b c d r:Int)(k1:Bool->Int->Int->Int->Bool->Op α)(k2:ae->Bool->Int->Int->Int->Bool->Op α):Op α:=
 cK e
 (k1 e l m o p)
 (dE q j [.int .i64,.int .i64,.int .i64,.int .i64,.int .i64,.int .i64,.int .i64,.int .i64,.int .i64]
 (fun z A B b7 b8 b9 c0 C D=>ee α g h i z A B C D a b c d
 (fun F=>cK (F == 2)
 (k2 [[DC.v (.int .i64 0)]] e l m o p)
 (dG α a b
 (fun s=>dG α c d
 (fun t=>jQ α
 (ee α g h i z A B C D s s t t
 (fun G=>cK (G == 0)
 (k1 true j s t p)
 (jC α a b c d
 (fun w H=>wu α r H
 (fun I=>cK I
 (k1 e l m o true)
 (AQ α w
 (eg α a b c d w
 (fun J L M N=>pT α [[DC.v (.int .i64 1)]] e l m o p q g h i j a J c L (w64 (r+1))
 (fun O P Q R T U=>pT α O P Q R T U q g h i j M b N d (w64 (r+1))
 (fun V W X Y Z a0=>k2 V W X Y Z a0))))
 (eg α a b c d w
 (fun a1 a2 a3 a4=>pT α [[DC.v (.int .i64 2)]] e l m o p q g h i j a a1 c a2 (w64 (r+1))
 (fun a5 a6 a7 a8 a9 b0=>pT α a5 a6 a7 a8 a9 b0 q g h i j a3 b a4 d (w64 (r+1))
 (fun b1 b2 b3 b4 b5 b6=>k2 b1 b2 b3 b4 b5 b6))))))))))))))))
def KH:aj0:=sld ah3
def ags:PT (List DV):=pA [pV false [(dMr [dON,dB,(dI .i64),(dI .i64),(dI .i64),dB] 0)],pV true [dL,dL,(dI .i64),(dI .i64)],vI,pV true [(dI .i64),(dI .i64),(dI .i64),(dI .i64)],vI]
def adE (v:aj0)(α:Type)(k:RT α):Bool->Int->Int->Int->Bool->ae->ae->I8 (Op α):=fun g h i j l m o p q r s t w z A=>v α g h i j l m o p q r s t w z A (fun a b c d e=>ag5 k ([]:ae) a b c d e) (fun a b c d e B=>lH k a b c d e B)
def azQ:ag:=(ag.put (.m [⟨Ju,Qz wu⟩]) [1,1,1,1,1,1,1,0] (ag.put (.m [⟨IR,X4 AQ⟩]) [1,1,1,1,1,1,1,1,1] (emb iY)))
theorem ayZ:ak Pg 74 109 ⟨ags,adE KH⟩:=iZ awS (ah Tryz.func74 (by kernel_rfl)) nj azQ ((an _ _).trans ((an _ _).trans (aA _))) (aL (by kernel_rfl) (aL (by kernel_rfl) (aD iY) ⟨apP,trivial⟩) ⟨arx,trivial⟩) fun _ _=>by kernel_rfl
end
end Go.AM.K
