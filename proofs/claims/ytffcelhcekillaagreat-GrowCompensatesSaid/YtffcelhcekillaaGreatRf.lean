/- Printed by KGen. -/
import Derived.Test.YtffcelhcekillaaGreatRe
namespace Go.AM.K
open Go.Proofs
set_option maxRecDepth 100000
set_option linter.unusedVariables false
noncomputable section
def aE3:TG:=[tT 0 [2,3,4],tT 1 [4,5]]
def aGx:aq:=aw Pg Tryz.f187 aE3 aC
def axB:aF:=aF.ofIO (⟨216,24,[⟨V5,WS JO⟩]⟩::abm) bu io0
theorem aq1:axB.Ok Pg:=aF.ofIO_ok aN ⟨⟨ari,trivial⟩,afl⟩
def W6 (α:Type)(a b:Nat)(c:Int)(d e:Nat)(g:Int)(k1:Nat->Nat->Int->Int->Op α):Op α:=
 JO α a b c d e g
 (fun h i j l=>k1 h i j l)
def xh:ed:=sld W6
def S5 (v:ed)(α:Type)(k:RT α):Nat->Nat->Int->Nat->Nat->Int->Op α:=fun a b c d e g=>v α a b c d e g (fun h i j l=>bE k h i j l)
theorem apA:ak Pg 187 11 ⟨kg,S5 xh⟩:=iP aq1 aGx (ag Tryz.func187 (by kernel_rfl)) Xb fun _ _=>by kernel_rfl
def aG6:TG:=[tT 0 [2,3,4],tT 1 [4,5]]
def aFa:aq:=aw Pg Tryz.f186 aG6 aC
def awL:aF:=aF.ofIO (⟨216,24,[⟨TO,Vo Kt⟩]⟩::abm) bu io0
theorem atY:awL.Ok Pg:=aF.ofIO_ok aN ⟨⟨auO,trivial⟩,afl⟩
def Vi (α:Type)(a b:Nat)(c:Int)(d e:Nat)(g:Int)(k1:Nat->Nat->Int->Int->Op α):Op α:=
 Kt α a b c d e g
 (fun h i j l=>k1 h i j l)
def C7:ed:=sld Vi
def Qa (v:ed)(α:Type)(k:RT α):Nat->Nat->Int->Nat->Nat->Int->Op α:=fun a b c d e g=>v α a b c d e g (fun h i j l=>bE k h i j l)
theorem au4:ak Pg 186 11 ⟨kg,Qa C7⟩:=iP atY aFa (ag Tryz.func186 (by kernel_rfl)) Xb fun _ _=>by kernel_rfl
def Dp:SG:=[(16,[.int .i64,.int .i64,.int .i64,.int .i64,.int .i64,.int .i64,.sl,.int .i64,.int .i64]),(25,iT),(28,[.int .i64,.int .i64,.int .i64,.int .i64,.int .i64,.int .i64,.sl,.int .i64,.int .i64]),(31,iS 3),(34,iS 2),(37,iS 2),(41,iT),(49,iT),(65,iT),(69,iT),(73,iT),(78,iT),(82,iT),(86,iT),(90,iS 4)]
def aAB:TG:=[tT 0 [0,2,4,6],tT 1 [0,2,4,6,7,9],tT 2 [0,2,4,6,7,9,26],tT 3 [0,6],tT 4 [0,4,6,7,9,10],tT 5 [0,4,6,9,10,11],tT 6 [0,4,6,9,10,12],tT 7 [0,4,6,9,10,12,45],tT 8 [0,4,6,9,10,12],tT 9 [0,4,6,10,12,54],tT 10 [0,4,6,10,12],tT 11 [0,4,6,10,12,13],tT 12 [0,4,6,10,12,13,58],tT 14 [0,4,6,10,12,13],tT 13 [0,4,6,10,12,13],tT 15 [0,6]]
def aAL:TG:=[(12,⟨[0,4,6,10,12,13],true,[⟨true,4,6,30406,5⟩],[]⟩)]
def Cg:aq:=aw Pg Tryz.f277 aAB aAL
def aCE:OT:=tdC (ah.sub [1,1,1,1,1,1,1,1,0,1,0] (emb Cg))
def fi:PT St:=pSv [(0,500000000,0)] [sl 0 (aV false [(cE 500000000 0)]),sP 4,sP 6,sl 9 (aV false [(cD dB)]),sP 10,sP 12] [au 500000000 [xI],au 4 [xI,xI,xI,xI,xI,xI,(cD dL),xI,xI],au 6 (xs 4),au 10 (xs 5),au 12 (xs 4)]
def agD {β:Type}(g:St->β):Bool->Int->Int->Int->Int->Int->Int->Int->ae->I15 β:=fi.unc g
def mb:PT St:=pSv [(0,500000000,0)] [sl 0 (aV false [(cE 500000000 0)]),sP 4,sP 6,sl 9 (aV false [(cD dB)]),sP 10,sP 12,sl 45 (aV false [(cD dB)])] [au 500000000 [xI],au 4 [xI,xI,xI,xI,xI,xI,(cD dL),xI,xI],au 6 (xs 4),au 10 (xs 5),au 12 (xs 4)]
def Ln {β:Type}(g:St->β):Bool->Bool->Int->Int->Int->Int->Int->Int->Int->ae->I15 β:=mb.unc g
def ajL:PT St:=pSv [(0,500000000,0)] [sl 0 (aV false [(cE 500000000 0)]),sP 4,sP 6,sP 10,sP 12,sl 54 (aV false [(cD dB)])] [au 500000000 [xI],au 4 [xI,xI,xI,xI,xI,xI,(cD dL),xI,xI],au 6 (xs 4),au 10 (xs 5),au 12 (xs 4)]
def wW {β:Type}(g:St->β):Bool->Int->Int->Int->Int->Int->Int->Int->ae->I15 β:=ajL.unc g
def acv:PT St:=pSv [(0,500000000,0)] [sl 0 (aV false [(cE 500000000 0)]),sP 4,sP 6,sP 10,sP 12] [au 500000000 [xI],au 4 [xI,xI,xI,xI,xI,xI,(cD dL),xI,xI],au 6 (xs 4),au 10 (xs 5),au 12 (xs 4)]
def LR {β:Type}(g:St->β):Int->Int->Int->Int->Int->Int->Int->ae->I15 β:=acv.unc g
def aby:PT (List RV):=pRs [pR true [rD (dI .i64),rD (dI .i64),rD (dI .i64),rD (dI .i64)],pR true [rD (dI .i64)]]
def Z6 {β:Type}(g:List RV->β):I5 β:=aby.unc g
def G8:ah:=ah.sub [1,1,1,1,1,1,1,0,0] (emb Cg)
abbrev ln:Type 1:=(α:Type)->Bool->Int->(Bool->Op α)->Op α
def xW (α:Type)(a:Bool)(b:Int)(k1:Bool->Op α):Op α:=
 cK (b == 0)
 (k1 (!a))
 (k1 false)
def gN:ln:=sld xW
def B2 (v:ln)(α:Type)(K:KT α):Bool->Int->Int->Int->Int->Int->Int->Int->ae->I15 (Op α):=fun b c d e g h i j l m o p q r s t w z A a B C D F=>v α b a (fun G=>wW (K .normal) G c d e g h i j l m o p q r s t w z A a B C D F)
theorem aco:∀ (α:Type) (K:KT α),B2 gN α K=fi.unc fun σ=>az Pg P0 Dp G8 K σ:=aZ (fun α K=>by kernel_rfl)
def Da (v:ln)(α:Type)(K:KT α):Bool->Bool->Int->Int->Int->Int->Int->Int->Int->ae->I15 (Op α):=fun b H c d e g h i j l m o p q r s t w z A a B C D F=>v α b a (fun G=>wW (K .normal) G c d e g h i j l m o p q r s t w z A a B C D F)
theorem akt:∀ (α:Type) (K:KT α),Da gN α K=mb.unc fun σ=>az Pg P0 Dp G8 K σ:=aZ (fun α K=>by kernel_rfl)
def HQ:ah:=ah.sub [1,1,1,1,1,1,1,0] (ah.put (.m [⟨fi,B2 gN⟩,⟨mb,Da gN⟩]) [1,1,1,1,1,1,1,0] (emb Cg))
abbrev lj:Type 1:=(α:Type)->Bool->Int->(Op α)->(Bool->Op α)->Op α
def yK (α:Type)(b:Bool)(c:Int)(k1:Op α)(k2:Bool->Op α):Op α:=
 gN α b c
 (fun a=>cK a
 (k1)
 (k2 a))
def fK:lj:=sld yK
def Ml (v:lj)(α:Type)(K:KT α):Bool->Int->Int->Int->Int->Int->Int->Int->ae->I15 (Op α):=fun C b c d e g h i j l m o p q r s t w z a A B D F=>v α C a (LR (K .normal) b c d e g h i j l m o p q r s t w z a A B 0 0) (fun G=>wW (K .normal) G b c d e g h i j l m o p q r s t w z a A B D F)
theorem afM:∀ (α:Type) (K:KT α),Ml fK α K=fi.unc fun σ=>az Pg P0 Dp HQ K σ:=aZ (fun α K=>by kernel_rfl)
def L3 (v:lj)(α:Type)(K:KT α):Bool->Bool->Int->Int->Int->Int->Int->Int->Int->ae->I15 (Op α):=fun C H b c d e g h i j l m o p q r s t w z a A B D F=>v α C a (LR (K .normal) b c d e g h i j l m o p q r s t w z a A B 0 0) (fun G=>wW (K .normal) G b c d e g h i j l m o p q r s t w z a A B D F)
theorem aiF:∀ (α:Type) (K:KT α),L3 fK α K=mb.unc fun σ=>az Pg P0 Dp HQ K σ:=aZ (fun α K=>by kernel_rfl)
def abl:ah:=ah.sub [1,1,1,1,1,1,0,0] (emb Cg)
def Hs (α:Type)(a:Bool)(b:Int)(k1:Bool->Op α):Op α:=
 cK (b == 0)
 (k1 a)
 (k1 false)
def nL:ln:=sld Hs
def Cq (v:ln)(α:Type)(K:KT α):Bool->Int->Int->Int->Int->Int->Int->Int->ae->I15 (Op α):=fun a c d e g h i j l m o p q r s t w z A b B C D F=>v α a b (fun G=>Ln (K .normal) a G c d e g h i j l m o p q r s t w z A b B C D F)
theorem ahe:∀ (α:Type) (K:KT α),Cq nL α K=fi.unc fun σ=>az Pg P0 Dp abl K σ:=aZ (fun α K=>by kernel_rfl)
def ZP:ah:=ah.sub [1,1,1,1,1,1,0] (ah.put (.m [⟨fi,Cq nL⟩]) [1,1,1,1,1,1,0] (emb Cg))
def HH (α:Type)(b:Bool)(c:Int)(k1:Op α)(k2:Bool->Op α):Op α:=
 nL α b c
 (fun a=>cK a
 (k1)
 (k2 a))
def p6:lj:=sld HH
def N2 (v:lj)(α:Type)(K:KT α):Bool->Int->Int->Int->Int->Int->Int->Int->ae->I15 (Op α):=fun a c d e g h i j l m o p q r s t w z A b D F B C=>v α a b (agD (K .normal) a c d e g h i j l m o p q r s t w z A b 0 0 B C) (fun G=>Ln (K .normal) a G c d e g h i j l m o p q r s t w z A b D F B C)
theorem ako:∀ (α:Type) (K:KT α),N2 p6 α K=fi.unc fun σ=>az Pg P0 Dp ZP K σ:=aZ (fun α K=>by kernel_rfl)
abbrev zF:Type 1:=(α:Type)->Int->Int->Int->Int->Int->Int->ae->Int->Int->Int->(I5 (Op α))->Op α
def SI (α:Type)(t i w z a b:Int)(j:ae)(l m o:Int)(k1:I5 (Op α)):Op α:=
 o3 α t i w z j l m o
 (fun A B C a0 a1 a2 g e=>cK (e != 0)
 (k1 0 0 0 0 e)
 (sG α i j l m o
 (fun a3 a4 c d h=>pH α A B C
 (fun D F G H=>rT α D F
 (fun p q=>rT α G H
 (fun r s=>p6 α g h
 (fK α g h
 (dD α (w64 (0*c)) b
 (fun I=>cn α (w64 (0*d)) a
 (fun J=>dD α (w64 (0*c)) b
 (fun L=>cn α (w64 (0*d)) a
 (fun M=>k1 I J L M e)))))
 (fun a5=>dD α (w64 (0*c)) b
 (fun N=>cn α (w64 (0*d)) a
 (fun O=>dD α (w64 ((w64 (4*r))*c)) b
 (fun P=>cn α (w64 ((w64 (4*s))*d)) a
 (fun Q=>k1 N O P Q e))))))
 (fun a6=>fK α g h
 (dD α (w64 ((w64 (4*p))*c)) b
 (fun R=>cn α (w64 ((w64 (4*q))*d)) a
 (fun T=>dD α (w64 (0*c)) b
 (fun U=>cn α (w64 (0*d)) a
 (fun V=>k1 R T U V e)))))
 (fun a7=>dD α (w64 ((w64 (4*p))*c)) b
 (fun W=>cn α (w64 ((w64 (4*q))*d)) a
 (fun X=>dD α (w64 ((w64 (4*r))*c)) b
 (fun Y=>cn α (w64 ((w64 (4*s))*d)) a
 (fun Z=>k1 W X Y Z e))))))))))))
def B8:zF:=sld SI
def Ss (v:zF)(α:Type)(k:RT α):Int->Int->Int->Int->Int->Int->Int->ae->Int->Int->Int->Op α:=fun a b c d s e g h i j l=>v α a b c d e g h i j l (fun m o p q r=>Z6 k m o p q r)
def aod:ah:=(ah.put (.m [⟨fi,N2 p6⟩]) [1,1,1,1,1,1] (ah.put (.m [⟨fi,Cq nL⟩]) [1,1,1,1,1,1,0] (ah.put (.m [⟨fi,Ml fK⟩,⟨mb,L3 fK⟩]) [1,1,1,1,1,1,1] (ah.put (.m [⟨fi,B2 gN⟩,⟨mb,Da gN⟩]) [1,1,1,1,1,1,1,0] (ah.put (.u 3) [1,1,1,1,1,1,1,1,0,1,0] (emb Cg))))))
theorem arl:ak Pg 277 91 ⟨hP,Ss B8⟩:=iZ amQ (ag Tryz.func277 (by kernel_rfl)) Dp aod ((am _ _).trans ((am _ _).trans ((am _ _).trans ((am _ _).trans ((am _ _).trans (aA _)))))) (aM (by kernel_rfl) (aM (by kernel_rfl) (aM (by kernel_rfl) (aM (by kernel_rfl) (GB (by decide) (aD Cg)) ⟨aco,akt,trivial⟩) ⟨afM,aiF,trivial⟩) ⟨ahe,trivial⟩) ⟨ako,trivial⟩) fun _ _=>by kernel_rfl
def aDu:SG:=[(12,[.int .i64,.int .i64,.int .i64,.int .i64,.int .i64,.int .i64,.sl,.int .i64,.int .i64]),(19,iT),(21,iS 3),(23,iS 3),(24,iS 3)]
def aHf:TG:=[tT 0 [0,2,4,6],tT 1 [0,4,6,7,8],tT 2 [0,6,7,8,20],tT 3 [0,6],tT 4 [0,6]]
def aCc:aq:=aw Pg Tryz.f172 aHf aC
abbrev Rn:Type 1:=(α:Type)->Int->Int->Int->Int->Int->ae->Int->Int->Int->(I4 (Op α))->Op α
def XM (α:Type)(e g h i j:Int)(l:ae)(m o p:Int)(k1:I4 (Op α)):Op α:=
 o3 α e g h i l m o p
 (fun a b c q r s B d=>cK (j == 0)
 (k1 a b c d)
 (kO α d q r s a b c
 (fun t w z A=>k1 t w z A)))
def jN:Rn:=sld XM
def Zg (v:Rn)(α:Type)(k:RT α):Int->Int->Int->Int->Int->Int->Int->ae->Int->Int->Int->Op α:=fun a b c d e q r g h i j=>v α a b c d e g h i j (fun l m o p=>ei k l m o p)
theorem aqK:ak Pg 172 26 ⟨hP,Zg jN⟩:=iP amQ aCc (ag Tryz.func172 (by kernel_rfl)) aDu fun _ _=>by kernel_rfl
def aAz:TG:=[tT 0 [2,3,4],tT 1 [4,5]]
def aBA:aq:=aw Pg Tryz.f188 aAz aC
def ax9:aF:=aF.ofIO (⟨216,24,[⟨RA,Vg J3⟩]⟩::abm) bu io0
theorem atC:ax9.Ok Pg:=aF.ofIO_ok aN ⟨⟨auq,trivial⟩,afl⟩
def TL (α:Type)(a b:Nat)(c:Int)(d e:Nat)(g:Int)(k1:Nat->Nat->Int->Int->Op α):Op α:=
 J3 α a b c d e g
 (fun h i j l=>k1 h i j l)
def BI:ed:=sld TL
def R9 (v:ed)(α:Type)(k:RT α):Nat->Nat->Int->Nat->Nat->Int->Op α:=fun a b c d e g=>v α a b c d e g (fun h i j l=>bE k h i j l)
theorem auJ:ak Pg 188 11 ⟨kg,R9 BI⟩:=iP atC aBA (ag Tryz.func188 (by kernel_rfl)) Xb fun _ _=>by kernel_rfl
def av5:SG:=[(11,[.int .i64,.int .i64,.int .i64,.int .i64,.int .i64,.int .i64,.sl,.int .i64,.int .i64]),(15,iS 4),(18,iS 4)]
def aGL:TG:=[tT 0 [0,2,3,5,8],tT 1 [0,3,8,9],tT 2 [0,8,9,14],tT 3 [0,8,9],tT 4 [0,8]]
def acR:aq:=aw Pg Tryz.f262 aGL aC
def BX:PT St:=pSv [(0,500000000,0)] [sl 0 (aV false [(cE 500000000 0)]),sl 3 (aV false [(cD dB)]),sP 8,sP 9] [au 500000000 [xI],au 8 (xs 3),au 9 (xs 4)]
def aDc {β:Type}(g:St->β):Bool->I8 β:=BX.unc g
def ahD:PT St:=pSv [(0,500000000,0)] [sl 0 (aV false [(cE 500000000 0)]),sP 8,sP 9] [au 500000000 [xI],au 8 (xs 3),au 9 (xs 4)]
def aeh {β:Type}(g:St->β):I8 β:=ahD.unc g
def aer:PT St:=pSv [(0,500000000,0)] [sl 0 (aV false [(cE 500000000 0)]),sP 8,sP 9,sl 14 (aV false [(cD dB)])] [au 500000000 [xI],au 8 (xs 3),au 9 (xs 4)]
def agO {β:Type}(g:St->β):Bool->I8 β:=aer.unc g
noncomputable abbrev azM:List bC:=⟨277,91,[⟨hP,Ss B8⟩]⟩::⟨186,11,[⟨kg,Qa C7⟩]⟩::⟨187,11,[⟨kg,S5 xh⟩]⟩::⟨189,11,[⟨kg,Ul Ek⟩]⟩::⟨188,11,[⟨kg,R9 BI⟩]⟩::⟨172,26,[⟨hP,Zg jN⟩]⟩::abm
theorem aFr:bH azM fun c=>bH c.l (ak Pg c.f c.nt):=⟨⟨arl,trivial⟩,⟨au4,trivial⟩,⟨apA,trivial⟩,⟨atO,trivial⟩,⟨auJ,trivial⟩,⟨aqK,trivial⟩,afl⟩
def aG4:aF:=aF.ofIO azM bu io0
theorem af3:aG4.Ok Pg:=aF.ofIO_ok aN aFr
def aiL:ah:=ah.sub [1,1,0] (emb acR)
abbrev F9:Type 1:=(α:Type)->Bool->Int->Int->Int->Int->(I4 (Op α))->(Op α)->Op α
def yo (α:Type)(a:Bool)(b c d e:Int)(k1:I4 (Op α))(k2:Op α):Op α:=
 cK a
 (JX α b c d e
 (fun g h i j=>k1 g h i j))
 (k2)
def nU:F9:=sld yo
def MM (v:F9)(α:Type)(K:KT α):Bool->I8 (Op α):=fun a b c d e g h i j=>v α a g h i j (fun l m o p=>aeh (K .normal) b c d e l m o p) (agO (K .normal) a b c d e g h i j)
theorem adJ:∀ (α:Type) (K:KT α),MM nU α K=BX.unc fun σ=>az Pg aG4 av5 aiL K σ:=aZ (fun α K=>by kernel_rfl)
abbrev Wy:Type 1:=(α:Type)->Int->Int->Int->Int->Int->Int->ae->Int->Int->Int->Bool->(I4 (Op α))->Op α
def JJ (α:Type)(g h i j l m:Int)(o:ae)(p q r:Int)(s:Bool)(k1:I4 (Op α)):Op α:=
 B8 α g h i j l m o p q r
 (fun a b c d e=>nU α s a b c d
 (fun t w z A=>xl α e t w z A
 (fun B C D F=>k1 B C D F))
 (xl α e a b c d
 (fun G H I J=>k1 G H I J)))
def kL:Wy:=sld JJ
def YK:PT (List DV):=pA [pV false [(dMr [(dI .i64)] 0)],pV true [(dI .i64),(dI .i64),(dI .i64),(dI .i64),(dI .i64),(dI .i64),dL,(dI .i64),(dI .i64)],vI,pV false [dB]]
def Zv (v:Wy)(α:Type)(k:RT α):Int->Int->Int->Int->Int->Int->Int->ae->Int->Int->Int->Bool->Op α:=fun a b c d s e g h i j l m=>v α a b c d e g h i j l m (fun o p q r=>ei k o p q r)
def aoH:ah:=(ah.put (.m [⟨BX,MM nU⟩]) [1,1] (emb acR))
theorem amA:ak Pg 262 20 ⟨YK,Zv kL⟩:=iZ af3 (ag Tryz.func262 (by kernel_rfl)) av5 aoH ((am _ _).trans (aA _)) (aM (by kernel_rfl) (aD acR) ⟨adJ,trivial⟩) fun _ _=>by kernel_rfl
def Un:SG:=[(12,iT),(17,[.cpx .f64,.int .i64]),(18,[.cpx .f64,.int .i64])]
def aIb:TG:=[tT 0 [0,1,6,7,8],tT 1 [0,1,6,7,8,13],tT 2 [0,8],tT 3 [0,8]]
def Vw:aq:=aw Pg Tryz.f185 aIb aC
abbrev ea:Type 1:=(α:Type)->Int->Nat->Nat->Int->Nat->Nat->Int->(Nat->Nat->Int->Int->Op α)->Op α
def U4 (α:Type)(a:Int)(b c:Nat)(d:Int)(e g:Nat)(h:Int)(k1:Nat->Nat->Int->Int->Op α):Op α:=
 cK (a != 0)
 (k1 0 0 0 a)
 (C7 α b c d e g h
 (fun i j l m=>dV α
 (k1 i j l m)))
def IH:ea:=sld U4
def TW:PT (List DV):=pA [pV false [(dMr [(dI .i64),(dI .i64),(dI .i64),(dI .i64),(dI .i64),(dI .i64),(dI .i64),dL,(dI .i64),(dI .i64)] 0)],pV false [(dFn 186 [])],pV true [(dX .f64),(dI .i64)],pV true [(dX .f64),(dI .i64)]]
def YJ (v:ea)(α:Type)(k:RT α):Int->Int->Int->Int->Int->Int->Int->ae->Int->Int->Nat->Nat->Int->Nat->Nat->Int->Op α:=fun a b c d e g h i j l m o p q r s=>v α a m o p q r s (fun t w z A=>cO k t w z A b c d e g h i j l)
theorem aup:ak Pg 185 23 ⟨TW,YJ IH⟩:=iP af3 Vw (ag Tryz.func185 (by kernel_rfl)) Un fun _ _=>by kernel_rfl
def QF (α:Type)(a:Int)(b c:Nat)(d:Int)(e g:Nat)(h:Int)(k1:Nat->Nat->Int->Int->Op α):Op α:=
 cK (a != 0)
 (k1 0 0 0 a)
 (xh α b c d e g h
 (fun i j l m=>dV α
 (k1 i j l m)))
def Jb:ea:=sld QF
def Rp:PT (List DV):=pA [pV false [(dMr [(dI .i64),(dI .i64),(dI .i64),(dI .i64),(dI .i64),(dI .i64),(dI .i64),dL,(dI .i64),(dI .i64)] 0)],pV false [(dFn 187 [])],pV true [(dX .f64),(dI .i64)],pV true [(dX .f64),(dI .i64)]]
def TC (v:ea)(α:Type)(k:RT α):Int->Int->Int->Int->Int->Int->Int->ae->Int->Int->Nat->Nat->Int->Nat->Nat->Int->Op α:=fun a b c d e g h i j l m o p q r s=>v α a m o p q r s (fun t w z A=>cO k t w z A b c d e g h i j l)
theorem atd:ak Pg 185 23 ⟨Rp,TC Jb⟩:=iP af3 Vw (ag Tryz.func185 (by kernel_rfl)) Un fun _ _=>by kernel_rfl
def XI (α:Type)(a:Int)(b c:Nat)(d:Int)(e g:Nat)(h:Int)(k1:Nat->Nat->Int->Int->Op α):Op α:=
 cK (a != 0)
 (k1 0 0 0 a)
 (Ek α b c d e g h
 (fun i j l m=>dV α
 (k1 i j l m)))
def II:ea:=sld XI
def R4:PT (List DV):=pA [pV false [(dMr [(dI .i64),(dI .i64),(dI .i64),(dI .i64),(dI .i64),(dI .i64),(dI .i64),dL,(dI .i64),(dI .i64)] 0)],pV false [(dFn 189 [])],pV true [(dX .f64),(dI .i64)],pV true [(dX .f64),(dI .i64)]]
def YV (v:ea)(α:Type)(k:RT α):Int->Int->Int->Int->Int->Int->Int->ae->Int->Int->Nat->Nat->Int->Nat->Nat->Int->Op α:=fun a b c d e g h i j l m o p q r s=>v α a m o p q r s (fun t w z A=>cO k t w z A b c d e g h i j l)
theorem ar4:ak Pg 185 23 ⟨R4,YV II⟩:=iP af3 Vw (ag Tryz.func185 (by kernel_rfl)) Un fun _ _=>by kernel_rfl
def TU (α:Type)(a:Int)(b c:Nat)(d:Int)(e g:Nat)(h:Int)(k1:Nat->Nat->Int->Int->Op α):Op α:=
 cK (a != 0)
 (k1 0 0 0 a)
 (BI α b c d e g h
 (fun i j l m=>dV α
 (k1 i j l m)))
def Il:ea:=sld TU
def SV:PT (List DV):=pA [pV false [(dMr [(dI .i64),(dI .i64),(dI .i64),(dI .i64),(dI .i64),(dI .i64),(dI .i64),dL,(dI .i64),(dI .i64)] 0)],pV false [(dFn 188 [])],pV true [(dX .f64),(dI .i64)],pV true [(dX .f64),(dI .i64)]]
def Zj (v:ea)(α:Type)(k:RT α):Int->Int->Int->Int->Int->Int->Int->ae->Int->Int->Nat->Nat->Int->Nat->Nat->Int->Op α:=fun a b c d e g h i j l m o p q r s=>v α a m o p q r s (fun t w z A=>cO k t w z A b c d e g h i j l)
theorem amS:ak Pg 185 23 ⟨SV,Zj Il⟩:=iP af3 Vw (ag Tryz.func185 (by kernel_rfl)) Un fun _ _=>by kernel_rfl
def S2:SG:=[(8,[.cpx .f64,.int .i64]),(9,[.cpx .f64,.int .i64])]
def aDG:TG:=[tT 0 [0,4,5,6],tT 1 [0,6]]
def aDj:aq:=aw Pg Tryz.f157 aDG aC
noncomputable abbrev aie:List bC:=⟨185,23,[⟨R4,YV II⟩]⟩::⟨262,20,[⟨YK,Zv kL⟩]⟩::azM
theorem apF:bH aie fun c=>bH c.l (ak Pg c.f c.nt):=⟨⟨ar4,trivial⟩,⟨amA,trivial⟩,aFr⟩
def Z1:aF:=aF.ofIO aie bu io0
theorem aHA:Z1.Ok Pg:=aF.ofIO_ok aN apF
def Yr (α:Type)(a:Int)(b c:Nat)(d:Int)(e g:Nat)(h:Int)(k1:Nat->Nat->Int->Int->Op α):Op α:=
 II α a b c d e g h
 (fun i j l m=>k1 i j l m)
def nV:ea:=sld Yr
def ii:PT (List DV):=pA [pV false [(dMr [(dI .i64),(dI .i64),(dI .i64),(dI .i64),(dI .i64),(dI .i64),(dI .i64),dL,(dI .i64),(dI .i64)] 0)],pV true [(dX .f64),(dI .i64)],pV true [(dX .f64),(dI .i64)]]
def S6 (v:ea)(α:Type)(k:RT α):Int->Int->Int->Int->Int->Int->Int->ae->Int->Int->Nat->Nat->Int->Nat->Nat->Int->Op α:=fun a b c d e g h i j l m o p q r s=>v α a m o p q r s (fun t w z A=>cO k t w z A b c d e g h i j l)
theorem arb:ak Pg 157 11 ⟨ii,S6 nV⟩:=iP aHA aDj (ag Tryz.func157 (by kernel_rfl)) S2 fun _ _=>by kernel_rfl
def aBd:TG:=[tT 0 [0,4,5,6],tT 1 [0,6]]
def aBM:aq:=aw Pg Tryz.f155 aBd aC
def axp:aF:=aF.ofIO (⟨185,23,[⟨Rp,TC Jb⟩]⟩::aie) bu io0
theorem arZ:axp.Ok Pg:=aF.ofIO_ok aN ⟨⟨atd,trivial⟩,apF⟩
def Ri (α:Type)(a:Int)(b c:Nat)(d:Int)(e g:Nat)(h:Int)(k1:Nat->Nat->Int->Int->Op α):Op α:=
 Jb α a b c d e g h
 (fun i j l m=>k1 i j l m)
def cS:ea:=sld Ri
def V7 (v:ea)(α:Type)(k:RT α):Int->Int->Int->Int->Int->Int->Int->ae->Int->Int->Nat->Nat->Int->Nat->Nat->Int->Op α:=fun a b c d e g h i j l m o p q r s=>v α a m o p q r s (fun t w z A=>cO k t w z A b c d e g h i j l)
theorem art:ak Pg 155 11 ⟨ii,V7 cS⟩:=iP arZ aBM (ag Tryz.func155 (by kernel_rfl)) S2 fun _ _=>by kernel_rfl
def aFd:TG:=[tT 0 [0,4,5,6],tT 1 [0,6]]
def aAw:aq:=aw Pg Tryz.f154 aFd aC
def axk:aF:=aF.ofIO (⟨185,23,[⟨TW,YJ IH⟩]⟩::aie) bu io0
theorem auE:axk.Ok Pg:=aF.ofIO_ok aN ⟨⟨aup,trivial⟩,apF⟩
def WD (α:Type)(a:Int)(b c:Nat)(d:Int)(e g:Nat)(h:Int)(k1:Nat->Nat->Int->Int->Op α):Op α:=
 IH α a b c d e g h
 (fun i j l m=>k1 i j l m)
def fA:ea:=sld WD
def T7 (v:ea)(α:Type)(k:RT α):Int->Int->Int->Int->Int->Int->Int->ae->Int->Int->Nat->Nat->Int->Nat->Nat->Int->Op α:=fun a b c d e g h i j l m o p q r s=>v α a m o p q r s (fun t w z A=>cO k t w z A b c d e g h i j l)
theorem ao9:ak Pg 154 11 ⟨ii,T7 fA⟩:=iP auE aAw (ag Tryz.func154 (by kernel_rfl)) S2 fun _ _=>by kernel_rfl
def GY:SG:=[(21,[.sl]),(27,[.int .i64,.int .i64,.int .i64,.int .i64,.int .i64,.int .i64,.sl,.int .i64,.int .i64]),(31,[.int .i64,.int .i64,.int .i64,.int .i64,.int .i64,.int .i64,.sl,.int .i64,.int .i64]),(36,iS 3),(38,[.int .i64,.int .i64,.int .i64,.int .i64,.int .i64,.int .i64,.sl,.int .i64,.int .i64]),(43,iS 12),(45,iS 3),(46,iS 3),(52,iT),(56,iS 12),(57,iS 3)]
def aDq:TG:=[tT 0 [0,2,4,6,7],tT 1 [0,2,4,6,7,8,9],tT 2 [0,2,4,6,7,8,9,10],tT 3 [0,2,4,6,7,8,9,10,23],tT 5 [0,2,4,6,7,8,9,10,11],tT 6 [0,2,4,6,7,8,9,10,11,12],tT 7 [0,2,4,6,7,8,9,10,11,12,34],tT 8 [0,2,4,6,7,8,9,10,11,12],tT 9 [0,2,4,6,7,8,9,10],tT 10 [0,2,4,6,7,8,9,10,53],tT 11 [0,6,7],tT 4 [0,2,4,6,7,8,9,10],tT 12 [0,6,7]]
def aA1:TG:=[(3,⟨[0,2,4,6,7,8,9,10],true,[⟨true,4,6,30406,5⟩],[]⟩)]
def N3:aq:=aw Pg Tryz.f237 aDq aA1
def w5:OT:=tdC (ah.sub [1,1,0,1,0] (emb N3))
def tg:PT St:=pSv [(0,500000000,0)] [sl 0 (aV false [(cE 500000000 0)]),sl 2 (aV false [(cD dB)]),sP 4,sP 6,sP 7,sP 8,sP 9,sI 10,sP 11,sP 12] [au 500000000 [xI],au 4 [xI,xI,xI,xI,xI,xI,(cD dL),xI,xI],au 6 (xs 12),au 7 (xs 3),au 8 (xs 12),au 9 (xs 3),au 11 (xs 3),au 12 (xs 3)]
def aiN {β:Type}(g:St->β):Bool->Int->Int->Int->Int->Int->Int->Int->Int->ae->I38 β:=tg.unc g
def adR:PT St:=pSv [(0,500000000,0)] [sl 0 (aV false [(cE 500000000 0)]),sl 2 (aV false [(cD dB)]),sP 4,sP 6,sP 7,sP 8,sP 9,sI 10,sP 11,sP 12,sl 34 (aV false [(cD dB)])] [au 500000000 [xI],au 4 [xI,xI,xI,xI,xI,xI,(cD dL),xI,xI],au 6 (xs 12),au 7 (xs 3),au 8 (xs 12),au 9 (xs 3),au 11 (xs 3),au 12 (xs 3)]
def ai3 {β:Type}(g:St->β):Bool->Int->Bool->Int->Int->Int->Int->Int->Int->Int->ae->I38 β:=adR.unc g
def Dy:PT St:=pSv [(0,500000000,0)] [sl 0 (aV false [(cE 500000000 0)]),sl 2 (aV false [(cD dB)]),sP 4,sP 6,sP 7,sP 8,sP 9,sI 10] [au 500000000 [xI],au 4 [xI,xI,xI,xI,xI,xI,(cD dL),xI,xI],au 6 (xs 12),au 7 (xs 3),au 8 (xs 12),au 9 (xs 3)]
def BD {β:Type}(g:St->β):Bool->Int->Int->Int->Int->Int->Int->Int->Int->ae->I32 β:=Dy.unc g
def akF:PT St:=pSv [(0,500000000,0)] [sl 0 (aV false [(cE 500000000 0)]),sP 6,sP 7] [au 500000000 [xI],au 6 (xs 12),au 7 (xs 3)]
def vf {β:Type}(g:St->β):I16 β:=akF.unc g
def agB:PT St:=pSv [(0,500000000,0)] [sl 0 (aV false [(cE 500000000 0)]),sl 2 (aV false [(cD dB)]),sP 4,sP 6,sP 7,sP 8,sP 9,sI 10,sl 23 (aV false [(cD dB)])] [au 500000000 [xI],au 4 [xI,xI,xI,xI,xI,xI,(cD dL),xI,xI],au 6 (xs 12),au 7 (xs 3),au 8 (xs 12),au 9 (xs 3)]
def uF {β:Type}(g:St->β):Bool->Int->Bool->Int->Int->Int->Int->Int->Int->Int->ae->I32 β:=agB.unc g
def ZI:PT (List RV):=pRs [pR true [rD (dI .i64),rD (dI .i64),rD (dI .i64),rD (dI .i64),rD (dI .i64),rD (dI .i64),rD (dI .i64),rD (dI .i64),rD (dI .i64),rD (dI .i64),rD (dI .i64),rD (dI .i64)],pR true [rD (dI .i64),rD (dI .i64),rD (dI .i64)],pR true [rD (dI .i64)]]
def aak {β:Type}(g:List RV->β):I16 β:=ZI.unc g
def aaa:ah:=ah.sub [1,1,0,1,0,0,1,0,0,1,1,0] (emb N3)
abbrev HA:Type 1:=(α:Type)->Bool->Int->Int->Int->Int->Int->Int->Int->ae->Int->Int->Int->Int->Int->(I4 (Op α))->(Op α)->Op α
def G6 (α:Type)(a:Bool)(b c d e g h i:Int)(j:ae)(l m o p q:Int)(k1:I4 (Op α))(k2:Op α):Op α:=
 cK a
 (kL α c d e g h i j l m b false
 (fun r s t w=>cj α w o p q r s t
 (fun z A B C=>k1 C z A B)))
 (k2)
def pu:HA:=sld G6
def C8 (v:HA)(α:Type)(K:KT α):Bool->Int->Int->Int->Int->Int->Int->Int->Int->ae->I38 (Op α):=fun a b m c d e o g h i j l p q r s t w z A B C D F G H I J L M N O P Q R T U V W X Y Z a0 a1 a2 a3 a4 a5=>v α a b m c d e g h i j l X Y Z (fun a6 a7 a8 a9=>aiN (K .normal) a b a6 c d e o g h i j l p q r s t w z A B C D F G H I J L M N O P Q R T U V W a7 a8 a9 a0 a1 a2 a3 a4 a5) (ai3 (K .normal) a b a m c d e o g h i j l p q r s t w z A B C D F G H I J L M N O P Q R T U V W X Y Z a0 a1 a2 a3 a4 a5)
theorem ael:∀ (α:Type) (K:KT α),C8 pu α K=tg.unc fun σ=>az Pg Z1 GY aaa K σ:=aZ (fun α K=>by kernel_rfl)
def uV:ah:=ah.sub [1,1,0,1,0,0] (ah.put (.m [⟨tg,C8 pu⟩]) [1,1,0,1,0,0,1,0,0,1,1] (emb N3))
def oN (α:Type)(R:Bool)(c d e T G H:Int)(b:ae)(g h a I i j l m o p q r s t w z A B C:Int)(kn:I17 (Op α))(k1:Int->Op α)(k2:Int->Bool->I16 (Op α)):Op α:=
 cK (decide (a<=((List.length b:Nat):Int)))
 (jN α I c d e T b g h a
 (fun J L M U=>kL α U c d e G H b g h a true
 (fun N O P Q=>pu α R a Q c d e G H b g h A B C
 (fun V W X Y=>yl α V J L M N O P
 (fun Z a0 a1 a2 a3 a4 a5 a6 a7 a8 a9 b0 b1=>xg α b1 i j l m o p q r s t w z Z a0 a1 a2 a3 a4 a5 a6 a7 a8 a9 b0
 (fun b2 b3 b4 b5 b6 b7 b8 b9 c0 c1 c2 c3 D=>cK (D != 0)
 (k1 D)
 (kn (w64 (a+1)) D b2 b3 b4 b5 b6 b7 b8 b9 c0 c1 c2 c3 W X Y))))
 (yl α Q J L M N O P
 (fun c4 c5 c6 c7 c8 c9 d0 d1 d2 d3 d4 d5 d6=>xg α d6 i j l m o p q r s t w z c4 c5 c6 c7 c8 c9 d0 d1 d2 d3 d4 d5
 (fun d7 d8 d9 e0 e1 e2 e3 e4 e5 e6 e7 e8 F=>cK (F != 0)
 (k1 F)
 (kn (w64 (a+1)) F d7 d8 d9 e0 e1 e2 e3 e4 e5 e6 e7 e8 A B C)))))))
 (k2 a (decide (a<=((List.length b:Nat):Int))) I i j l m o p q r s t w z A B C)
def jC (α:Type)(a:Bool)(b c d e g h:Int)(i:ae)(j l:Int)(k1:Int->Op α)(k2:Int->Bool->I16 (Op α)):Nat->I17 (Op α)
 | 0=>fun _ _ _ _ _ _ _ _ _ _ _ _ _ _ _ _ _=>none
 | n+1=>fun m o p q r s t w z A B C D F G H I=>oN α a b c d e g h i j l m o p q r s t w z A B C D F G H I (jC α a b c d e g h i j l k1 k2 n) k1 k2
def Hq (α:Type)(a:Bool)(b c d e g h:Int)(i:ae)(j l:Int)(k1:Int->Op α)(k2:Int->Bool->I16 (Op α))(m o p q r s t w z A B C D F G H I:Int):Op α:=jC α a b c d e g h i j l k1 k2 aE m o p q r s t w z A B C D F G H I
abbrev F5:Type 1:=(α:Type)->Bool->Int->Int->Int->Int->Int->Int->ae->Int->Int->(Int->Op α)->(Int->Bool->I16 (Op α))->I17 (Op α)
def uc:F5:=sld Hq
def LS (v:F5)(α:Type)(K:KT α):Bool->Int->Int->Int->Int->Int->Int->Int->Int->ae->I32 (Op α):=fun b o p c d e g h i j l m q r s t w z A B C D F G H I J L M N O P Q R T U V W X Y Z a0=>v α b c d e g h i j l m (fun a=>vf (K .ret) a 0 0 0 0 0 0 0 0 0 0 0 0 0 0 0) (fun a a1 a2 a3 a4 a5 a6 a7 a8 a9 b0 b1 b2 b3 b4 b5 b6 b7=>uF (K (.exit 0)) b a a1 a2 c d e g h i j l m q r s t w z A B C D F G H I J a3 a4 a5 a6 a7 a8 a9 b0 b1 b2 b3 b4 b5 b6 b7) o p L M N O P Q R T U V W X Y Z a0
theorem afc (α:Type)(K:KT α)(Kn:SK α)(a:Bool)(b c d e g h i j:Int)(l:ae)(m o J L M N O P Q R T U V W X Y Z p q r s t w z A B C D F G H I:Int):BD (fun σ=>az Pg Z1 GY uV (bI (fun σ=>br w5 σ Kn) K) σ) a b c d e g h i j l m o J L M N O P Q R T U V W X Y Z p q r s t w z A B C D F G H I=oN α a d e g h i j l m o b c p q r s t w z A B C D F G H I (fun b c p q r s t w z A B C D F G H I=>BD Kn a b c d e g h i j l m o J L M N O P Q R T U V W X Y Z p q r s t w z A B C D F G H I) (fun a0=>vf (K .ret) a0 0 0 0 0 0 0 0 0 0 0 0 0 0 0 0) (fun a0 a1 a2 a3 a4 a5 a6 a7 a8 a9 b0 b1 b2 b3 b4 b5 b6 b7=>uF (K (.exit 0)) a a0 a1 a2 d e g h i j l m o J L M N O P Q R T U V W X Y Z a3 a4 a5 a6 a7 a8 a9 b0 b1 b2 b3 b4 b5 b6 b7):=by kernel_rfl
theorem ajc (α:Type)(K:KT α):∀ (n:Nat) (a:Bool) (m o b c d e g h:Int) (i:ae) (j l L M N O P Q R T U V W X Y Z a0 p q r s t w z A B C D F G H I:Int),jC α a b c d e g h i j l (fun J=>vf (K .ret) J 0 0 0 0 0 0 0 0 0 0 0 0 0 0 0) (fun J a1 a2 a3 a4 a5 a6 a7 a8 a9 b0 b1 b2 b3 b4 b5 b6 b7=>uF (K (.exit 0)) a J a1 a2 b c d e g h i j l L M N O P Q R T U V W X Y Z a0 a3 a4 a5 a6 a7 a8 a9 b0 b1 b2 b3 b4 b5 b6 b7) n m o p q r s t w z A B C D F G H I=BD (aJ (az Pg Z1 GY uV) w5 K n) a m o b c d e g h i j l L M N O P Q R T U V W X Y Z a0 p q r s t w z A B C D F G H I:=by
 intro n
 induction n with
 | zero=>intros;rfl
 | succ n ih=>intro a m o b c d e g h i j l L M N O P Q R T U V W X Y Z a0 p q r s t w z A B C D F G H I;exact (congrArg (fun kn=>oN α a b c d e g h i j l m o p q r s t w z A B C D F G H I kn (fun J=>vf (K .ret) J 0 0 0 0 0 0 0 0 0 0 0 0 0 0 0) (fun J a1 a2 a3 a4 a5 a6 a7 a8 a9 b0 b1 b2 b3 b4 b5 b6 b7=>uF (K (.exit 0)) a J a1 a2 b c d e g h i j l L M N O P Q R T U V W X Y Z a0 a3 a4 a5 a6 a7 a8 a9 b0 b1 b2 b3 b4 b5 b6 b7)) (funext fun m=>funext fun o=>funext fun p=>funext fun q=>funext fun r=>funext fun s=>funext fun t=>funext fun w=>funext fun z=>funext fun A=>funext fun B=>funext fun C=>funext fun D=>funext fun F=>funext fun G=>funext fun H=>funext fun I=>ih a m o b c d e g h i j l L M N O P Q R T U V W X Y Z a0 p q r s t w z A B C D F G H I)).trans (afc α K (aJ (az Pg Z1 GY uV) w5 K n) a m o b c d e g h i j l L M N O P Q R T U V W X Y Z a0 p q r s t w z A B C D F G H I).symm
theorem alK:∀ (α:Type) (K:KT α),LS uc α K=Dy.unc fun σ=>aJ (az Pg Z1 GY uV) w5 K aE σ:=aZ (fun α K=>funext fun a=>funext fun b=>funext fun c=>funext fun d=>funext fun e=>funext fun g=>funext fun h=>funext fun i=>funext fun j=>funext fun l=>funext fun m=>funext fun o=>funext fun p=>funext fun q=>funext fun r=>funext fun s=>funext fun t=>funext fun w=>funext fun z=>funext fun A=>funext fun B=>funext fun C=>funext fun D=>funext fun F=>funext fun G=>funext fun H=>funext fun I=>funext fun J=>funext fun L=>funext fun M=>funext fun N=>funext fun O=>funext fun P=>funext fun Q=>funext fun R=>funext fun T=>funext fun U=>funext fun V=>funext fun W=>funext fun X=>funext fun Y=>funext fun Z=>ajc α K aE a b c d e g h i j l m o p q r s t w z A B C D F G H I J L M N O P Q R T U V W X Y Z)
abbrev QI:Type 1:=(α:Type)->Int->Int->Int->Int->Int->Int->Int->ae->Int->Int->Bool->(I16 (Op α))->Op α
def SF (α:Type)(a b c d e g h:Int)(i:ae)(j l:Int)(m:Bool)(k1:I16 (Op α)):Op α:=
 mF α
 (mF α
 (mF α
 (uc α m b c d e g h i j l
 (fun o=>k1 0 0 0 0 0 0 0 0 0 0 0 0 0 0 0 o)
 (fun L M p q r s t w z A B C D F G H I J=>k1 q r s t w z A B C D F G H I J p) 1 a 1048576 0 0 0 0 0 0 0 0 1048576 0 0 1048576 0 0)))
def EI:QI:=sld SF
def Ac:PT (List DV):=pA [pV false [(dMr [(dI .i64)] 0)],pV true [(dI .i64),(dI .i64),(dI .i64),(dI .i64),(dI .i64),(dI .i64),dL,(dI .i64),(dI .i64)],pV false [dB]]
def Qm (v:QI)(α:Type)(k:RT α):Int->Int->Int->Int->Int->Int->Int->ae->Int->Int->Bool->Op α:=fun a b c d e g h i j l m=>v α a b c d e g h i j l m (fun o p q r s t w z A B C D F G H I=>aak k o p q r s t w z A B C D F G H I)
def anw:ah:=(ah.put (.m [⟨Dy,LS uc⟩]) [1,1,0,1,0] (ah.put (.m [⟨tg,C8 pu⟩]) [1,1,0,1,0,0,1,0,0,1,1] (emb N3)))
theorem atQ:ak Pg 237 58 ⟨Ac,Qm EI⟩:=iZ aHA (ag Tryz.func237 (by kernel_rfl)) GY anw ((am _ _).trans ((am _ _).trans (aA _))) (aW (td:=w5) (by kernel_rfl) (aM (by kernel_rfl) (aD N3) ⟨ael,trivial⟩) ⟨alK,trivial⟩) fun _ _=>by kernel_rfl
def aFx:SG:=[(25,[.cpx .f64,.int .i64]),(28,[.cpx .f64,.int .i64]),(34,[.cpx .f64,.int .i64]),(41,[.cpx .f64,.int .i64]),(45,[.cpx .f64,.int .i64]),(50,[.cpx .f64,.int .i64,.cpx .f64,.int .i64,.cpx .f64,.int .i64,.cpx .f64,.int .i64])]
def aAn:TG:=[tT 0 [0,4,5,6],tT 1 [0,4,5,6,7],tT 2 [0,4,5,6,7,12],tT 3 [0,4,5,6,7,12,13],tT 4 [0,4,5,6,7,8,12],tT 5 [0,4,5,6,7,8,9,10,12],tT 6 [0,4,5,6,7,8,9,10,11,12],tT 7 [0,4,5,6,7,12],tT 8 [0,4,5,6,7,12],tT 9 [0,6]]
def aBj:TG:=[tT 3 [0,4,5,6,7,12]]
def afI:aq:=aw Pg Tryz.f183 aAn aBj
def aIu:OT:=tdC (ah.sub [1,1,0,1,0] (emb afI))
def aaE:PT (List RV):=pRs [pR true [rD (dX .f64),rD (dI .i64),rD (dX .f64),rD (dI .i64),rD (dX .f64),rD (dI .i64),rD (dX .f64),rD (dI .i64)],pR true [rD (dI .i64),rD (dI .i64),rD (dI .i64),rD (dI .i64),rD (dI .i64),rD (dI .i64),rD (dI .i64),rD dL,rD (dI .i64),rD (dI .i64)]]
def Fd {β:Type}(g:List RV->β):Nat->Nat->Int->Nat->Nat->Int->Nat->Nat->Int->Nat->Nat->Int->Int->Int->Int->Int->Int->Int->Int->ae->Int->Int->β:=aaE.unc g
noncomputable abbrev aqS:List bC:=⟨155,11,[⟨ii,V7 cS⟩]⟩::⟨154,11,[⟨ii,T7 fA⟩]⟩::⟨237,58,[⟨Ac,Qm EI⟩]⟩::⟨157,11,[⟨ii,S6 nV⟩]⟩::aie
theorem ay9:bH aqS fun c=>bH c.l (ak Pg c.f c.nt):=⟨⟨art,trivial⟩,⟨ao9,trivial⟩,⟨atQ,trivial⟩,⟨arb,trivial⟩,apF⟩
def aIl:aF:=aF.ofIO aqS bu io0
theorem ay1:aIl.Ok Pg:=aF.ofIO_ok aN ay9
abbrev Ys:Type 1:=(α:Type)->Int->Nat->Nat->Int->Nat->Nat->Int->Nat->Nat->Int->Nat->Nat->Int->Nat->Nat->Int->Nat->Nat->Int->Nat->Nat->Int->Nat->Nat->Int->(Nat->Nat->Int->Nat->Nat->Int->Nat->Nat->Int->Nat->Nat->Int->Int->Op α)->Op α
def S3 (α:Type)(G:Int)(a b:Nat)(c:Int)(d e:Nat)(g:Int)(h i:Nat)(j:Int)(l m:Nat)(o:Int)(p q:Nat)(r:Int)(s t:Nat)(w:Int)(z A:Nat)(B:Int)(C D:Nat)(F:Int)(k1:Nat->Nat->Int->Nat->Nat->Int->Nat->Nat->Int->Nat->Nat->Int->Int->Op α):Op α:=
 cS α G a b c p q r
 (fun H I J L=>cS α L d e g z A B
 (fun M N O P=>fA α P H I J M N O
 (fun Q R T U=>cS α U a b c s t w
 (fun V W X Y=>cS α Y d e g C D F
 (fun Z a0 a1 a2=>fA α a2 V W X Z a0 a1
 (fun a3 a4 a5 a6=>cS α a6 h i j p q r
 (fun a7 a8 a9 b0=>cS α b0 l m o z A B
 (fun b1 b2 b3 b4=>fA α b4 a7 a8 a9 b1 b2 b3
 (fun b5 b6 b7 b8=>cS α b8 h i j s t w
 (fun b9 c0 c1 c2=>cS α c2 l m o C D F
 (fun c3 c4 c5 c6=>fA α c6 b9 c0 c1 c3 c4 c5
 (fun c7 c8 c9 d0=>k1 Q R T a3 a4 a5 b5 b6 b7 c7 c8 c9 d0))))))))))))
def xj:Ys:=sld S3
def X2:PT (List DV):=pA [pV false [(dMr [(dI .i64),(dI .i64),(dI .i64),(dI .i64),(dI .i64),(dI .i64),(dI .i64),dL,(dI .i64),(dI .i64)] 0)],pV true [(dX .f64),(dI .i64),(dX .f64),(dI .i64),(dX .f64),(dI .i64),(dX .f64),(dI .i64)],pV true [(dX .f64),(dI .i64),(dX .f64),(dI .i64),(dX .f64),(dI .i64),(dX .f64),(dI .i64)]]
def Y4 (v:Ys)(α:Type)(k:RT α):Int->Int->Int->Int->Int->Int->Int->ae->Int->Int->Nat->Nat->Int->Nat->Nat->Int->Nat->Nat->Int->Nat->Nat->Int->Nat->Nat->Int->Nat->Nat->Int->Nat->Nat->Int->Nat->Nat->Int->Op α:=fun a b c d e g h i j l m o p q r s t w z A B C D F G H I J L M N O P Q=>v α a m o p q r s t w z A B C D F G H I J L M N O P Q (fun R T U V W X Y Z a0 a1 a2 a3 a4=>Fd k R T U V W X Y Z a0 a1 a2 a3 a4 b c d e g h i j l)
def aps:ah:=(ah.put (.u 5) [1,1,0,1,0] (emb afI))
theorem atz:ak Pg 183 51 ⟨X2,Y4 xj⟩:=iZ ay1 (ag Tryz.func183 (by kernel_rfl)) aFx aps ((am _ _).trans (aA _)) (GB (by decide) (aD afI)) fun _ _=>by kernel_rfl
def aDZ:TG:=[tT 0 [0,4,5,6],tT 1 [0,6]]
def aIe:aq:=aw Pg Tryz.f156 aDZ aC
def axn:aF:=aF.ofIO (⟨185,23,[⟨SV,Zj Il⟩]⟩::aqS) bu io0
theorem aqk:axn.Ok Pg:=aF.ofIO_ok aN ⟨⟨amS,trivial⟩,ay9⟩
def Ww (α:Type)(a:Int)(b c:Nat)(d:Int)(e g:Nat)(h:Int)(k1:Nat->Nat->Int->Int->Op α):Op α:=
 Il α a b c d e g h
 (fun i j l m=>k1 i j l m)
def pP:ea:=sld Ww
def XJ (v:ea)(α:Type)(k:RT α):Int->Int->Int->Int->Int->Int->Int->ae->Int->Int->Nat->Nat->Int->Nat->Nat->Int->Op α:=fun a b c d e g h i j l m o p q r s=>v α a m o p q r s (fun t w z A=>cO k t w z A b c d e g h i j l)
theorem asn:ak Pg 156 11 ⟨ii,XJ pP⟩:=iP aqk aIe (ag Tryz.func156 (by kernel_rfl)) S2 fun _ _=>by kernel_rfl
def avw:SG:=[(19,iT),(23,iT),(29,[.cpx .f64,.int .i64]),(39,iT),(44,[.cpx .f64,.int .i64]),(52,[.cpx .f64,.int .i64]),(53,[.cpx .f64,.int .i64])]
def aEw:TG:=[tT 0 [0,1,4],tT 1 [0,4,5,6],tT 2 [0,4,6,7],tT 3 [0,4,6,7,28],tT 4 [0,4],tT 5 [0,4,7,8],tT 6 [0,4,7,8,40],tT 7 [0,4,7,8],tT 8 [0,4]]
def ac4:aq:=aw Pg Tryz.f159 aEw aC
def Bx:PT St:=pSv [(0,500000000,0)] [sl 0 (aV false [(cE 500000000 0)]),sP 4,sP 7,sP 8] [au 500000000 [xI,xI,xI,xI,xI,xI,xI,(cD dL),xI,xI],au 4 [(cD (dX .f64)),xI],au 7 [(cD (dX .f64)),xI],au 8 [(cD (dX .f64)),xI]]
def agl {β:Type}(g:St->β):Int->Int->Int->Int->Int->Int->Int->ae->Int->Int->Nat->Nat->Int->Nat->Nat->Int->Nat->Nat->Int->β:=Bx.unc g
def afj:PT St:=pSv [(0,500000000,0)] [sl 0 (aV false [(cE 500000000 0)]),sP 4,sP 7,sP 8,sl 40 (aV false [(cD dB)])] [au 500000000 [xI,xI,xI,xI,xI,xI,xI,(cD dL),xI,xI],au 4 [(cD (dX .f64)),xI],au 7 [(cD (dX .f64)),xI],au 8 [(cD (dX .f64)),xI]]
def ad7 {β:Type}(g:St->β):Bool->Int->Int->Int->Int->Int->Int->Int->ae->Int->Int->Nat->Nat->Int->Nat->Nat->Int->Nat->Nat->Int->β:=afj.unc g
def abt:ah:=ah.sub [1,1,1,1,1,0] (emb ac4)
abbrev Fq:Type 1:=(α:Type)->Int->Nat->Nat->Int->(Int->Nat->Nat->Int->Op α)->(Bool->Op α)->Op α
def Hf (α:Type)(a:Int)(b c:Nat)(d:Int)(k1:Int->Nat->Nat->Int->Op α)(k2:Bool->Op α):Op α:=
 cK (a == 0)
 (rI α b c d 1
 (fun e g h i=>dV α
 (k1 i e g h)))
 (k2 (a == 0))
def t9:Fq:=sld Hf
def LN (v:Fq)(α:Type)(K:KT α):Int->Int->Int->Int->Int->Int->Int->ae->Int->Int->Nat->Nat->Int->Nat->Nat->Int->Nat->Nat->Int->Op α:=fun b c d e g h i j l m o p q r s t w z A=>v α b w z A (fun a B C D=>agl (K .normal) a c d e g h i j l m o p q r s t B C D) (fun a=>ad7 (K .normal) a b c d e g h i j l m o p q r s t w z A)
theorem aj0:∀ (α:Type) (K:KT α),LN t9 α K=Bx.unc fun σ=>az Pg aIl avw abt K σ:=aZ (fun α K=>by kernel_rfl)
abbrev Sz:Type 1:=(α:Type)->Int->Int->ae->Int->Int->Int->(Nat->Nat->Int->Int->Op α)->Op α
def TA (α:Type)(l m:Int)(o:ae)(p q r:Int)(k1:Nat->Nat->Int->Int->Op α):Op α:=
 rY α m o p q r
 (fun s t d=>jP α (w64 (s*1048576)) 10000
 (fun w=>nx α (w64 (t*1048576)) 10000
 (fun z=>pd α l w z
 (fun a b c e=>cK (d == 0)
 (k1 a b c e)
 (yR α e d 10000
 (fun g h i j=>t9 α j g h i
 (fun A B C D=>fA α A a b c B C D
 (fun F G H I=>k1 F G H I))
 (fun O=>fA α j a b c g h i
 (fun J L M N=>k1 J L M N))))))))
def xn:Sz:=sld TA
def RQ (v:Sz)(α:Type)(k:RT α):Int->Int->Int->Int->Int->Int->Int->ae->Int->Int->Int->Op α:=fun e a g h i j l b c d m=>v α e a b c d m (fun o p q r=>cO k o p q r a g h i j l b c d)
def ap4:ah:=(ah.put (.m [⟨Bx,LN t9⟩]) [1,1,1,1,1] (emb ac4))
theorem ao7:ak Pg 159 55 ⟨ig,RQ xn⟩:=iZ ay1 (ag Tryz.func159 (by kernel_rfl)) avw ap4 ((am _ _).trans (aA _)) (aM (by kernel_rfl) (aD ac4) ⟨aj0,trivial⟩) fun _ _=>by kernel_rfl
def aBf:SG:=[(16,[.int .i64,.int .i64,.int .i64,.int .i64,.int .i64,.int .i64,.sl,.int .i64,.int .i64]),(20,[.int .i64,.int .i64,.int .i64,.int .i64,.int .i64,.int .i64,.sl,.int .i64,.int .i64]),(26,[.int .i64,.int .i64,.int .i64,.int .i64,.int .i64,.int .i64,.sl,.int .i64,.int .i64]),(28,[.sl]),(34,iS 3),(37,iS 3),(38,iS 3),(43,iS 3),(46,iS 3),(47,iS 3),(51,iS 3),(52,iS 3),(55,iS 3),(56,iS 3),(62,iS 3),(63,iS 3),(65,iS 3),(67,iS 3),(71,iS 3),(72,iS 3),(74,iS 3)]
def aF7:TG:=[tT 0 [0,2,4,6],tT 1 [0,2,4,6,7],tT 2 [0,2,4,6,7,8,9],tT 3 [0,2,6,7,8,9,10],tT 4 [0,2,6,7,8,9,10,11],tT 5 [0,2,6,7,9,11,12],tT 6 [0,2,6,7,9,12,13],tT 7 [0,2,6,7,9,12,13,14],tT 8 [0,6,7,9,12,13,14,58],tT 9 [0,6],tT 10 [0,6]]
def aHL:aq:=aw Pg Tryz.f205 aF7 aC
abbrev Vl:Type 1:=(α:Type)->Int->Int->Int->Int->Int->Int->Int->ae->Int->Int->Bool->(I4 (Op α))->Op α
def Th (α:Type)(G b c d e H I:Int)(a:ae)(g h:Int)(m:Bool)(k1:I4 (Op α)):Op α:=
 jN α G b c d e a g h 0
 (fun i j l J=>EI α J b c d e H I a g h m
 (fun L M N O P Q R T U V W X Y Z a0 a1=>jN α a1 b c d e a g h (w64 (((List.length a:Nat):Int)+1))
 (fun o p q a2=>cj α a2 O P Q o p q
 (fun a3 a4 a5 a6=>eH α a6 L M N a3 a4 a5
 (fun a7 a8 a9 b0=>cj α b0 V W X o p q
 (fun b1 b2 b3 b4=>eH α b4 R T U b1 b2 b3
 (fun r s t b5=>cj α b5 i j l a7 a8 a9
 (fun w z A b6=>eH α b6 w z A r s t
 (fun B C D F=>cK m
 (eH α F i j l i j l
 (fun b7 b8 b9 c0=>cj α c0 b7 b8 b9 Y Z a0
 (fun c1 c2 c3 c4=>kO α c4 c1 c2 c3 B C D
 (fun c5 c6 c7 c8=>k1 c5 c6 c7 c8))))
 (mV α F w z A r s t
 (fun c9 d0 d1 d2=>kO α d2 c9 d0 d1 B C D
 (fun d3 d4 d5 d6=>k1 d3 d4 d5 d6))))))))))))
def xG:Vl:=sld Th
def Sg (v:Vl)(α:Type)(k:RT α):Int->Int->Int->Int->Int->Int->Int->ae->Int->Int->Bool->Op α:=fun a b c d e g h i j l m=>v α a b c d e g h i j l m (fun o p q r=>ei k o p q r)
theorem aon:ak Pg 205 76 ⟨Ac,Sg xG⟩:=iP ay1 aHL (ag Tryz.func205 (by kernel_rfl)) aBf fun _ _=>by kernel_rfl
def aCq:SG:=[(23,[.cpx .f64,.int .i64]),(25,[.cpx .f64,.int .i64]),(34,[.cpx .f64,.int .i64]),(36,[.cpx .f64,.int .i64]),(41,[.cpx .f64,.int .i64]),(42,[.cpx .f64,.int .i64]),(47,[.cpx .f64,.int .i64]),(48,[.cpx .f64,.int .i64]),(50,[.cpx .f64,.int .i64]),(51,[.cpx .f64,.int .i64]),(52,[.cpx .f64,.int .i64]),(53,[.cpx .f64,.int .i64])]
def aBH:TG:=[tT 0 [0,4,5,6],tT 1 [0,4,5,6,7],tT 2 [0,4,5,6,7,8],tT 3 [0,4,6,8,9],tT 4 [0,4,6,8,9,10],tT 5 [0,6,8,10,11],tT 6 [0,6]]
def aF5:aq:=aw Pg Tryz.f184 aBH aC
noncomputable abbrev aox:List bC:=⟨156,11,[⟨ii,XJ pP⟩]⟩::⟨159,55,[⟨ig,RQ xn⟩]⟩::⟨205,76,[⟨Ac,Sg xG⟩]⟩::⟨183,51,[⟨X2,Y4 xj⟩]⟩::aqS
theorem ayI:bH aox fun c=>bH c.l (ak Pg c.f c.nt):=⟨⟨asn,trivial⟩,⟨ao7,trivial⟩,⟨aon,trivial⟩,⟨atz,trivial⟩,ay9⟩
def aJt:aF:=aF.ofIO aox bu io0
theorem azB:aJt.Ok Pg:=aF.ofIO_ok aN ayI
abbrev Zr:Type 1:=(α:Type)->Int->Nat->Nat->Int->Nat->Nat->Int->(Nat->Nat->Int->Nat->Nat->Int->Nat->Nat->Int->Nat->Nat->Int->Int->Op α)->Op α
def V8 (α:Type)(s:Int)(a b:Nat)(c:Int)(d e:Nat)(g:Int)(k1:Nat->Nat->Int->Nat->Nat->Int->Nat->Nat->Int->Nat->Nat->Int->Int->Op α):Op α:=
 yR α s 1 2
 (fun h i j t=>mJ α
 (fA α t 4697254411347427328 0 0 d e g
 (fun w z A B=>cS α B w z A h i j
 (fun l m o C=>mJ α
 (nV α C 4697254411347427328 0 0 d e g
 (fun D F G H=>cS α H D F G h i j
 (fun p q r I=>pP α I p q r a b c
 (fun J L M N=>cS α N p q r a b c
 (fun O P Q R=>k1 l m o J L M O P Q l m o R)))))))))
def yk:Zr:=sld V8
def P9 (v:Zr)(α:Type)(k:RT α):Int->Int->Int->Int->Int->Int->Int->ae->Int->Int->Nat->Nat->Int->Nat->Nat->Int->Op α:=fun a b c d e g h i j l m o p q r s=>v α a m o p q r s (fun t w z A B C D F G H I J L=>Fd k t w z A B C D F G H I J L b c d e g h i j l)
theorem anC:ak Pg 184 55 ⟨ii,P9 yk⟩:=iP azB aF5 (ag Tryz.func184 (by kernel_rfl)) aCq fun _ _=>by kernel_rfl
def aG7:SG:=[(22,iT),(28,iT),(36,iT),(42,iT),(50,[.cpx .f64,.int .i64]),(51,[.cpx .f64,.int .i64]),(56,[.cpx .f64,.int .i64]),(60,[.cpx .f64,.int .i64]),(61,[.cpx .f64,.int .i64]),(76,iT),(82,[.cpx .f64,.int .i64]),(90,[.cpx .f64,.int .i64]),(97,iT),(103,iS 2),(109,iT)]
def aE2:TG:=[tT 0 [0,1,4],tT 1 [0,1,4,6],tT 2 [0,1,4,6,7],tT 3 [0,1,4,7,8],tT 4 [0,1,4,8],tT 5 [0,4,8,10],tT 6 [0,4,8,71],tT 7 [0,4,8,77],tT 8 [0,4,5],tT 9 [0,4,5],tT 10 [0,4,11],tT 11 [0,4,11,98],tT 12 [0,4,5],tT 13 [0,4,5]]
def aGA:aq:=aw Pg Tryz.f131 aE2 aC
def aaF:PT (List RV):=pRs [pR true [rD (dX .f64),rD (dI .i64)],pR false [rD dB],pR true [rD (dI .i64),rD (dI .i64),rD (dI .i64),rD (dI .i64),rD (dI .i64),rD (dI .i64),rD (dI .i64),rD dL,rD (dI .i64),rD (dI .i64)]]
def abh {β:Type}(g:List RV->β):Nat->Nat->Int->Bool->Int->Int->Int->Int->Int->Int->Int->ae->Int->Int->β:=aaF.unc g
def azb:aF:=aF.ofIO (⟨164,57,[⟨ba,Tu xx⟩]⟩::aox) bu io0
theorem aud:azb.Ok Pg:=aF.ofIO_ok aN ⟨⟨aoU,trivial⟩,ayI⟩
abbrev XV:Type 1:=(α:Type)->Int->Int->Int->Int->ae->Int->Int->Int->(Nat->Nat->Int->Bool->Int->Op α)->Op α
def Wu (α:Type)(w a z A:Int)(c:ae)(d e g:Int)(k1:Nat->Nat->Int->Bool->Int->Op α):Op α:=
 xn α w a c d e g
 (fun h i j B=>jP α (w64 ((w64 (a*z))*1048576)) 100000000
 (fun C=>nx α (w64 ((w64 (a*A))*1048576)) 100000000
 (fun D=>pd α B C D
 (fun l m o F=>cS α F h i j h i j
 (fun G H I J=>cS α J l m o l m o
 (fun L M N O=>nV α O G H I L M N
 (fun p q r b=>rY α a c d e g
 (fun a0 a1 P=>cK (P != 0)
 (cK (b != 0)
 (k1 0 0 0 false b)
 (yz α p q r
 (fun Q R T U=>dV α
 (k1 Q R T false U))))
 (oW α b p q r
 (fun s V a2 a3 t=>cK (t != 0)
 (k1 0 0 0 false t)
 (xx α s V
 (fun W X Y Z=>dV α
 (k1 W X Y (decide (s < 0)) Z)))))))))))))
def r6:XV:=sld Wu
def Ts (v:XV)(α:Type)(k:RT α):Int->Int->Int->Int->Int->Int->Int->ae->Int->Int->Int->Op α:=fun h a b c i j l d e g m=>v α h a b c d e g m (fun o p q r s=>abh k o p q r s a b c i j l d e g)
theorem amj:ak Pg 131 111 ⟨ig,Ts r6⟩:=iP aud aGA (ag Tryz.func131 (by kernel_rfl)) aG7 fun _ _=>by kernel_rfl
def avJ:SG:=[(9,[.int .i64,.int .i64,.int .i64,.int .i64,.int .i64,.int .i64,.sl,.int .i64,.int .i64]),(11,iS 3),(15,iT)]
def aBS:TG:=[tT 0 [1,2],tT 1 [1,2,4],tT 2 [2,4,5],tT 3 [2,3]]
def aH4:aq:=aw Pg Tryz.f171 aBS aC
abbrev zM:Type 1:=(α:Type)->Int->Int->Int->Int->Int->Int->ae->Int->Int->(I4 (Op α))->Op α
def Jn (α:Type)(a b c d e g:Int)(h:ae)(i j:Int)(k1:I4 (Op α)):Op α:=
 xG α 0 a b c d e g h i j true
 (fun l m o p=>k1 l m o p)
def Be:zM:=sld Jn
def SR (v:zM)(α:Type)(k:RT α):Int->Int->Int->Int->Int->Int->ae->Int->Int->Op α:=fun a b c d e g h i j=>v α a b c d e g h i j (fun l m o p=>bG k l m o p)
theorem aul:ak Pg 171 16 ⟨eV,SR Be⟩:=iP azB aH4 (ag Tryz.func171 (by kernel_rfl)) avJ fun _ _=>by kernel_rfl
def aDM:TG:=[tT 0 [1,2],tT 1 [1,2,4],tT 2 [2,4,5],tT 3 [2,3]]
def aHK:aq:=aw Pg Tryz.f170 aDM aC
def Vd (α:Type)(a b c d e g:Int)(h:ae)(i j:Int)(k1:I4 (Op α)):Op α:=
 xG α 0 a b c d e g h i j false
 (fun l m o p=>k1 l m o p)
def ID:zM:=sld Vd
def UQ (v:zM)(α:Type)(k:RT α):Int->Int->Int->Int->Int->Int->ae->Int->Int->Op α:=fun a b c d e g h i j=>v α a b c d e g h i j (fun l m o p=>bG k l m o p)
theorem arm:ak Pg 170 16 ⟨eV,UQ ID⟩:=iP azB aHK (ag Tryz.func170 (by kernel_rfl)) avJ fun _ _=>by kernel_rfl
def avK:SG:=[(20,[.cpx .f64,.int .i64]),(26,[.sl]),(29,iS 5),(30,iS 5),(35,iT),(41,iS 4),(46,iS 2),(50,iT),(54,iT),(61,iT),(64,iT),(68,iT),(75,iT),(80,iS 4)]
def aDK:TG:=[tT 0 [0,1,4],tT 1 [0,1,4,5,6],tT 2 [0,1,4,6,7],tT 3 [0,4,6,7,8],tT 5 [0,4,6,7,8,33],tT 6 [0,4,7,8,37],tT 7 [0,4,7,8],tT 4 [0,4,7,8],tT 8 [0,4,7,8,41,42],tT 9 [0,4,7,8,41,42,43],tT 10 [0,4,7,8,9,10,41,42],tT 11 [0,4,7,8,9,10,41,42],tT 12 [0,4,7,8,41,42],tT 13 [0,4,7,8,41,42],tT 14 [0,4]]
def aD5:TG:=[tT 9 [0,4,7,8,41,42]]
def Rd:aq:=aw Pg Tryz.f213 aDK aD5
def aE7:OT:=tdC (ah.sub [1,1,1,1,1,0,1,0] (emb Rd))
def Ee:PT St:=pSv [(0,500000000,0)] [sl 0 (aV false [(cE 500000000 0)]),sP 4,sl 6 (aV false [(cD dB)]),sP 7,sP 8] [au 500000000 [xI,xI,xI,xI,xI,xI,xI,(cD dL),xI,xI],au 4 (xs 4),au 7 (xs 4),au 8 (xs 5)]
def aDn {β:Type}(g:St->β):Bool->Int->Int->Int->Int->Int->Int->Int->ae->I15 β:=Ee.unc g
def alx:PT St:=pSv [(0,500000000,0)] [sl 0 (aV false [(cE 500000000 0)]),sP 4,sl 6 (aV false [(cD dB)]),sP 7,sP 8,sl 33 (aV false [(cD dB)])] [au 500000000 [xI,xI,xI,xI,xI,xI,xI,(cD dL),xI,xI],au 4 (xs 4),au 7 (xs 4),au 8 (xs 5)]
def agF {β:Type}(g:St->β):Bool->Bool->Int->Int->Int->Int->Int->Int->Int->ae->I15 β:=alx.unc g
def ahn:PT St:=pSv [(0,500000000,0)] [sl 0 (aV false [(cE 500000000 0)]),sP 4,sP 7,sP 8] [au 500000000 [xI,xI,xI,xI,xI,xI,xI,(cD dL),xI,xI],au 4 (xs 4),au 7 (xs 4),au 8 (xs 5)]
def aiS {β:Type}(g:St->β):Int->Int->Int->Int->Int->Int->Int->ae->I15 β:=ahn.unc g
noncomputable abbrev awr:List bC:=⟨131,111,[⟨ig,Ts r6⟩]⟩::⟨170,16,[⟨eV,UQ ID⟩]⟩::⟨171,16,[⟨eV,SR Be⟩]⟩::⟨184,55,[⟨ii,P9 yk⟩]⟩::aox
theorem aCj:bH awr fun c=>bH c.l (ak Pg c.f c.nt):=⟨⟨amj,trivial⟩,⟨arm,trivial⟩,⟨aul,trivial⟩,⟨anC,trivial⟩,ayI⟩
def ayS:aF:=aF.ofIO awr bu io0
theorem awY:ayS.Ok Pg:=aF.ofIO_ok aN aCj
def aeP:ah:=ah.sub [1,1,1,1,0] (emb Rd)
abbrev Hp:Type 1:=(α:Type)->Bool->Int->Int->Int->Int->Int->(Bool->Op α)->(I4 (Op α))->Op α
def Hh (α:Type)(b:Bool)(c d e g a:Int)(k1:Bool->Op α)(k2:I4 (Op α)):Op α:=
 cK (a != 0)
 (k1 (a != 0))
 (cK b
 (k2 0 0 e g)
 (k2 c d 0 0))
def vQ:Hp:=sld Hh
def NU (v:Hp)(α:Type)(K:KT α):Bool->Int->Int->Int->Int->Int->Int->Int->ae->I15 (Op α):=fun c d e g h i j l m o p q r s t w z A B C D F G a=>v α c w z A B a (fun b=>agF (K .normal) c b d e g h i j l m o p q r s t w z A B C D F G a) (fun b H I J=>aiS (K .normal) d e g h i j l m o p q r s t b H I J C D F G a)
theorem ae4:∀ (α:Type) (K:KT α),NU vQ α K=Ee.unc fun σ=>az Pg ayS avK aeP K σ:=aZ (fun α K=>by kernel_rfl)
def VY (α:Type)(o p q r a b:Int)(e:ae)(s t g:Int)(k1:I5 (Op α)):Op α:=
 r6 α o p q r e s t g
 (fun w z A B C=>oW α C w z A
 (fun h i j l m=>dT e (w64 (g - 1)) [.int .i64,.int .i64,.int .i64,.int .i64,.int .i64]
 (fun a1 a2 c d D=>vQ α B h i j l D
 (fun a3=>nd α h i
 (fun F G=>jP α (w64 ((w64 (4*F))*c)) b
 (fun H=>nx α (w64 ((w64 (4*G))*d)) a
 (fun I=>nd α j l
 (fun J L=>jP α (w64 ((w64 (4*J))*c)) b
 (fun M=>nx α (w64 ((w64 (4*L))*d)) a
 (fun N=>k1 H I M N m)))))))
 (fun O P Q R=>nd α O P
 (fun T U=>jP α (w64 ((w64 (4*T))*c)) b
 (fun V=>nx α (w64 ((w64 (4*U))*d)) a
 (fun W=>nd α Q R
 (fun X Y=>jP α (w64 ((w64 (4*X))*c)) b
 (fun Z=>nx α (w64 ((w64 (4*Y))*d)) a
 (fun a0=>k1 V W Z a0 m))))))))))
def CS:zF:=sld VY
def V2 (v:zF)(α:Type)(k:RT α):Int->Int->Int->Int->Int->Int->Int->ae->Int->Int->Int->Op α:=fun j a b c l d e g h i m=>v α j a b c d e g h i m (fun o p q r s=>HM k o p q r s a b c l d e g h i)
def ap6:ah:=(ah.put (.m [⟨Ee,NU vQ⟩]) [1,1,1,1] (ah.put (.u 3) [1,1,1,1,1,0,1,0] (emb Rd)))
theorem aug:ak Pg 213 81 ⟨ig,V2 CS⟩:=iZ awY (ag Tryz.func213 (by kernel_rfl)) avK ap6 ((am _ _).trans ((am _ _).trans (aA _))) (aM (by kernel_rfl) (GB (by decide) (aD Rd)) ⟨ae4,trivial⟩) fun _ _=>by kernel_rfl
def aEI:SG:=[(18,iT),(20,[.cpx .f64,.int .i64]),(30,[.cpx .f64,.int .i64]),(31,[.cpx .f64,.int .i64]),(33,[.cpx .f64,.int .i64])]
def aCa:TG:=[tT 0 [0,1,4],tT 1 [0,1,4,5],tT 2 [0,1,4,5,19],tT 3 [0,4],tT 4 [0,4,5,7],tT 5 [0,4]]
def aEd:aq:=aw Pg Tryz.f130 aCa aC
abbrev U9:Type 1:=(α:Type)->Int->Int->Int->Int->Int->ae->Int->Int->Int->(Nat->Nat->Int->Int->Op α)->Op α
def Xh (α:Type)(p a q r s:Int)(b:ae)(c d e:Int)(k1:Nat->Nat->Int->Int->Op α):Op α:=
 r6 α p a q r b c d e
 (fun g h i H j=>cK (s == 0)
 (k1 g h i j)
 (xn α j a b c d e
 (fun l m o t=>cS α t l m o l m o
 (fun w z A B=>pP α B w z A g h i
 (fun C D F G=>k1 C D F G)))))
def jt:U9:=sld Xh
def XE (v:U9)(α:Type)(k:RT α):Int->Int->Int->Int->Int->Int->Int->ae->Int->Int->Int->Op α:=fun i a b c d j l e g h m=>v α i a b c d e g h m (fun o p q r=>cO k o p q r a b c d j l e g h)
theorem apR:ak Pg 130 35 ⟨ig,XE jt⟩:=iP awY aEd (ag Tryz.func130 (by kernel_rfl)) aEI fun _ _=>by kernel_rfl
def avc:SG:=[(20,[.int .i64,.int .i64,.int .i64,.int .i64,.int .i64,.int .i64,.sl,.int .i64,.int .i64]),(26,iS 6),(29,[.int .i64,.int .i64,.int .i64,.int .i64,.int .i64,.int .i64,.sl,.int .i64,.int .i64]),(35,iS 6),(40,[.int .i64,.int .i64,.int .i64,.int .i64,.int .i64,.int .i64,.sl,.int .i64,.int .i64]),(43,[.int .i64,.int .i64,.int .i64,.int .i64,.int .i64,.int .i64,.sl,.int .i64,.int .i64]),(45,[.sl]),(51,[.int .i64,.int .i64,.int .i64,.int .i64,.int .i64,.int .i64,.sl,.int .i64,.int .i64]),(53,[.sl]),(60,iS 3),(63,iS 3),(68,iT),(70,iS 6),(71,iS 3),(73,iS 3),(77,iT),(79,iT),(82,iT),(85,iT),(87,iT),(90,iT),(98,[.int .i64,.int .i64,.int .i64,.int .i64,.int .i64,.int .i64,.sl,.int .i64,.int .i64]),(101,iS 2),(103,iS 2),(106,iS 6)]
def aFb:TG:=[tT 0 [1,2],tT 1 [1,2,4],tT 2 [1,2,4,5,6],tT 3 [1,2,4,5,6,25],tT 4 [2,3],tT 5 [1,2,4,5,6,7],tT 6 [1,2,4,5,6,7,34],tT 7 [2,3],tT 8 [1,2,4,5,7,8],tT 9 [1,2,4,5,7,8,9,10],tT 10 [1,2,4,5,7,9,10,13],tT 11 [1,2,4,5,7,13,14,15],tT 12 [1,2,4,5,7,13,14,15,69],tT 13 [2,3],tT 14 [1,2,5,13,14,15,16],tT 15 [1,2,13,17],tT 16 [1,2,17,95],tT 17 [1,2,17],tT 18 [2,17,99],tT 19 [2,17],tT 20 [2,3]]
def al3:aq:=aw Pg Tryz.f152 aFb aC
def Bj:PT St:=pS [sP 1,sP 2,sl 13 (aV false [(cD dB)]),sP 17] [au 1 [xI,xI,xI,xI,xI,xI,(cD dL),xI,xI],au 2 (xs 6),au 17 (xs 6)]
def aDx {β:Type}(g:St->β):Bool->Int->Int->Int->Int->Int->Int->ae->I14 β:=Bj.unc g
def ad6:PT St:=pS [sP 1,sP 2,sP 17] [au 1 [xI,xI,xI,xI,xI,xI,(cD dL),xI,xI],au 2 (xs 6),au 17 (xs 6)]
def ado {β:Type}(g:St->β):Int->Int->Int->Int->Int->Int->ae->I14 β:=ad6.unc g
def aiR:PT St:=pS [sP 1,sP 2,sP 17,sl 95 (aV false [(cD dB)])] [au 1 [xI,xI,xI,xI,xI,xI,(cD dL),xI,xI],au 2 (xs 6),au 17 (xs 6)]
def alU {β:Type}(g:St->β):Bool->Int->Int->Int->Int->Int->Int->ae->I14 β:=aiR.unc g
def ZD:PT (List RV):=pRs [pR true [rD (dI .i64),rD (dI .i64),rD (dI .i64),rD (dI .i64),rD (dI .i64),rD (dI .i64)],wI]
def FV {β:Type}(g:List RV->β):I7 β:=ZD.unc g
def Z2:ah:=ah.sub [1,1,1,1,1,1,1,1,1,1,1,1,1,0] (emb al3)
abbrev jh:Type 1:=(α:Type)->Bool->(Op α)->(Op α)->Op α
def fu (α:Type)(a:Bool)(k1:Op α)(k2:Op α):Op α:=
 cK a
 (k1)
 (k2)
def be:jh:=sld fu
def OC (v:jh)(α:Type)(K:KT α):Bool->Int->Int->Int->Int->Int->Int->ae->I14 (Op α):=fun a b c d e g h i j l m o p q r s t w B C z A=>v α a (ado (K .normal) b c d e g h i j l m o p q r s t w 0 0 z A) (alU (K .normal) a b c d e g h i j l m o p q r s t w B C z A)
theorem ad5:∀ (α:Type) (K:KT α),OC be α K=Bj.unc fun σ=>az Pg ayS avc Z2 K σ:=aZ (fun α K=>by kernel_rfl)
abbrev AH:Type 1:=(α:Type)->Int->Int->Int->Int->Int->Int->ae->Int->Int->(I7 (Op α))->Op α
def Ry (α:Type)(e g h j o p:Int)(a:ae)(i b:Int)(k1:I7 (Op α)):Op α:=
 ID α e g h j o p a i b
 (fun t w z q=>cK (q != 0)
 (k1 0 0 0 0 0 0 q)
 (Be α e g h j o p a i b
 (fun A B C r=>cK (r != 0)
 (k1 0 0 0 0 0 0 r)
 (jN α 0 e g h j a i b 0
 (fun D F G H=>jN α H e g h j a i b (w64 (((List.length a:Nat):Int)+1))
 (fun I J L M=>o3 α M e g h a i b (w64 (((List.length a:Nat):Int)+1))
 (fun a6 a7 a8 a9 b0 b1 N b2=>pH α D F G
 (fun s O b3 b4=>pH α I J L
 (fun P Q b5 b6=>rT α P Q
 (fun R T=>cK (decide (s<=0))
 (k1 0 0 0 0 0 0 9)
 (xd α A B C
 (fun U V=>xd α t w z
 (fun W X=>xB α W X
 (fun c d=>dD α (w64 (R*U)) O
 (fun Y=>cn α (w64 (T*V)) s
 (fun Z=>xB α Y Z
 (fun l m=>be α N
 (pb α a b
 (fun a0=>cK a0
 (oq α c d 0 0
 (fun a1 a2=>k1 c d 0 0 a1 a2 0))
 (k1 c d 0 0 0 0 0)))
 (pb α a b
 (fun a3=>cK a3
 (oq α c d l m
 (fun a4 a5=>k1 c d l m a4 a5 0))
 (k1 c d l m 0 0 0))))))))))))))))))))
def EV:AH:=sld Ry
def Rw (v:AH)(α:Type)(k:RT α):Int->Int->Int->Int->Int->Int->ae->Int->Int->Op α:=fun a b c d e g h i j=>v α a b c d e g h i j (fun l m o p q r s=>FV k l m o p q r s)
def aus:ah:=(ah.put (.m [⟨Bj,OC be⟩]) [1,1,1,1,1,1,1,1,1,1,1,1,1] (emb al3))
theorem auM:ak Pg 152 107 ⟨eV,Rw EV⟩:=iZ awY (ag Tryz.func152 (by kernel_rfl)) avc aus ((am _ _).trans (aA _)) (aM (by kernel_rfl) (aD al3) ⟨ad5,trivial⟩) fun _ _=>by kernel_rfl
end
end Go.AM.K
