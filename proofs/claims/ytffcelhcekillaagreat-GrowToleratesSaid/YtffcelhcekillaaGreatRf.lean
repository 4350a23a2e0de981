/- Printed by KGen. -/
import Derived.Test.YtffcelhcekillaaGreatRe
namespace Go.AM.K
open Go.Proofs
set_option maxRecDepth 100000
set_option linter.unusedVariables false
noncomputable section
def Qe:SG:=[(11,[.cpx .f64,.int .i64]),(19,[.cpx .f64,.int .i64])]
def aFQ:TG:=[tT 0 [3,4,5,6],tT 1 [4,5,6,8,9],tT 2 [4,5,6,8,9,16],tT 3 [6,7],tT 4 [6,7]]
def Ui:aq:=aw Pg Tryz.f216 aFQ aC
def ayV:aE:=aE.ofIO (⟨194,31,[⟨T8,V1 Jv⟩]⟩::Lk9) bt io0
theorem am6:ayV.Ok Pg:=aE.ofIO_ok aN ⟨⟨an2,trivial⟩,ak9⟩
abbrev dT:Type 1:=(α:Type)->Nat->Nat->Int->Nat->Nat->Int->(Nat->Nat->Int->Int->Op α)->Op α
def Wg (α:Type)(c d:Nat)(a:Int)(e g:Nat)(h:Int)(k1:Nat->Nat->Int->Int->Op α):Op α:=
 fk α c d a
 (fun i j b=>cK (b != 0)
 (k1 0 0 0 b)
 (Jv α e g h i j a
 (fun l m o p=>k1 l m o p)))
def Ix:dT:=sld Wg
def SI:PT (List DV):=pA [pV true [(dX .f64),(dI .i64)],pV true [(dX .f64),(dI .i64)],pV false [(dFn 217 [])]]
def Ye (v:dT)(α:Type)(k:RT α):Nat->Nat->Int->Nat->Nat->Int->Op α:=fun a b c d e g=>v α a b c d e g (fun h i j l=>bF k h i j l)
theorem aun:ak Pg 216 24 ⟨SI,Ye Ix⟩:=iP am6 Ui (ah Tryz.func216 (by kernel_rfl)) Qe fun _ _=>by kernel_rfl
def awL:aE:=aE.ofIO (⟨194,31,[⟨Sc,XI Ir⟩]⟩::Lk9) bt io0
theorem arh:awL.Ok Pg:=aE.ofIO_ok aN ⟨⟨arl,trivial⟩,ak9⟩
def Si (α:Type)(c d:Nat)(a:Int)(e g:Nat)(h:Int)(k1:Nat->Nat->Int->Int->Op α):Op α:=
 fk α c d a
 (fun i j b=>cK (b != 0)
 (k1 0 0 0 b)
 (Ir α e g h i j a
 (fun l m o p=>k1 l m o p)))
def Kd:dT:=sld Si
def S2:PT (List DV):=pA [pV true [(dX .f64),(dI .i64)],pV true [(dX .f64),(dI .i64)],pV false [(dFn 219 [])]]
def RU (v:dT)(α:Type)(k:RT α):Nat->Nat->Int->Nat->Nat->Int->Op α:=fun a b c d e g=>v α a b c d e g (fun h i j l=>bF k h i j l)
theorem aog:ak Pg 216 24 ⟨S2,RU Kd⟩:=iP arh Ui (ah Tryz.func216 (by kernel_rfl)) Qe fun _ _=>by kernel_rfl
def ayX:aE:=aE.ofIO (⟨194,31,[⟨Zu,Yw KQ⟩]⟩::Lk9) bt io0
theorem atf:ayX.Ok Pg:=aE.ofIO_ok aN ⟨⟨aql,trivial⟩,ak9⟩
def Uy (α:Type)(c d:Nat)(a:Int)(e g:Nat)(h:Int)(k1:Nat->Nat->Int->Int->Op α):Op α:=
 fk α c d a
 (fun i j b=>cK (b != 0)
 (k1 0 0 0 b)
 (KQ α e g h i j a
 (fun l m o p=>k1 l m o p)))
def Jd:dT:=sld Uy
def Vf:PT (List DV):=pA [pV true [(dX .f64),(dI .i64)],pV true [(dX .f64),(dI .i64)],pV false [(dFn 227 [])]]
def Sx (v:dT)(α:Type)(k:RT α):Nat->Nat->Int->Nat->Nat->Int->Op α:=fun a b c d e g=>v α a b c d e g (fun h i j l=>bF k h i j l)
theorem asb:ak Pg 216 24 ⟨Vf,Sx Jd⟩:=iP atf Ui (ah Tryz.func216 (by kernel_rfl)) Qe fun _ _=>by kernel_rfl
def ayo:aE:=aE.ofIO (⟨194,31,[⟨YR,Vc H7⟩]⟩::Lk9) bt io0
theorem att:ayo.Ok Pg:=aE.ofIO_ok aN ⟨⟨aqY,trivial⟩,ak9⟩
def P7 (α:Type)(c d:Nat)(a:Int)(e g:Nat)(h:Int)(k1:Nat->Nat->Int->Int->Op α):Op α:=
 fk α c d a
 (fun i j b=>cK (b != 0)
 (k1 0 0 0 b)
 (H7 α e g h i j a
 (fun l m o p=>k1 l m o p)))
def KI:dT:=sld P7
def Uf:PT (List DV):=pA [pV true [(dX .f64),(dI .i64)],pV true [(dX .f64),(dI .i64)],pV false [(dFn 223 [])]]
def ZH (v:dT)(α:Type)(k:RT α):Nat->Nat->Int->Nat->Nat->Int->Op α:=fun a b c d e g=>v α a b c d e g (fun h i j l=>bF k h i j l)
theorem asI:ak Pg 216 24 ⟨Uf,ZH KI⟩:=iP att Ui (ah Tryz.func216 (by kernel_rfl)) Qe fun _ _=>by kernel_rfl
def avK:SG:=[(9,iS 2),(19,iT),(22,iT),(26,iT),(35,iT),(39,iT),(42,iT),(52,[.cpx .f64,.int .i64])]
def aFY:TG:=[tT 0 [1,2],tT 1 [1,2,5],tT 2 [1,2,5,14],tT 3 [2,3],tT 4 [1,2,17],tT 5 [2,3],tT 6 [1,2,33],tT 7 [2,6,7],tT 8 [2,6,7,49],tT 9 [2,3],tT 10 [2,3],tT 11 [2,3]]
def avj:aq:=aw Pg Tryz.f164 aFY aC
def QS (α:Type)(a b:Int)(k1:Nat->Nat->Int->Int->Op α):Op α:=
 mF α a b
 (fun l m o c=>cK (c != 0)
 (k1 0 0 0 c)
 (cK (decide (0<=a))
 (eF α (w64 (a*1048576))
 (fun d=>nP α (w64 (b*1048576))
 (fun e=>mF α d e
 (fun g h i j=>k1 g h i j))))
 (cK (decide (b<=0))
 (none)
 (k1 0 0 0 14))))
def Cx:fL:=sld QS
def QG (v:fL)(α:Type)(k:RT α):Int->Int->Op α:=fun a b=>v α a b (fun c d e g=>bF k c d e g)
theorem at0:ak Pg 164 57 ⟨ba,QG Cx⟩:=iP ek9 avj (ah Tryz.func164 (by kernel_rfl)) avK fun _ _=>by kernel_rfl
noncomputable abbrev aaf:List bA:=⟨164,57,[⟨ba,QG Cx⟩]⟩::⟨192,11,[⟨TM,U8 so⟩]⟩::⟨216,24,[⟨Vf,Sx Jd⟩]⟩::⟨173,51,[⟨g9,Wh ou⟩]⟩::⟨163,8,[⟨kh,Tx yd⟩]⟩::Lk9
theorem aei:bG aaf fun c=>bG c.l (ak Pg c.f c.nt):=⟨⟨at0,trivial⟩,⟨atA,trivial⟩,⟨asb,trivial⟩,⟨amY,trivial⟩,⟨asB,trivial⟩,ak9⟩
def Po:aE:=aE.ofIO aaf bt io0
theorem aoo:Po.Ok Pg:=aE.ofIO_ok aN aei
def Wv (α:Type)(a b:Int)(k1:Nat->Nat->Int->Int->Op α):Op α:=
 mF α a b
 (fun w z A c=>cK (c != 0)
 (k1 0 0 0 c)
 (cK (decide (0<=a))
 (eF α (w64 (a*1048576))
 (fun e=>nP α (w64 (b*1048576))
 (fun g=>mF α e g
 (fun h i j l=>k1 h i j l))))
 (cK (decide (b<=0))
 (Cx α (w64 (0 - b)) (w64 (0 - a))
 (fun m o p d=>cK (d != 0)
 (k1 0 0 0 d)
 (so α m o p 1
 (fun q r s t=>k1 q r s t))))
 (k1 0 0 0 14))))
def xR:fL:=sld Wv
def QD (v:fL)(α:Type)(k:RT α):Int->Int->Op α:=fun a b=>v α a b (fun c d e g=>bF k c d e g)
theorem aoj:ak Pg 164 57 ⟨ba,QD xR⟩:=iP aoo avj (ah Tryz.func164 (by kernel_rfl)) avK fun _ _=>by kernel_rfl
def Rx:SG:=[(6,[.cpx .f64,.int .i64]),(7,[.cpx .f64,.int .i64])]
def aAb:TG:=[tT 0 [2,3,4],tT 1 [4,5]]
def aF1:aq:=aw Pg Tryz.f189 aAb aC
def Vy (α:Type)(a b:Nat)(c:Int)(d e:Nat)(g:Int)(k1:Nat->Nat->Int->Int->Op α):Op α:=
 Jd α a b c d e g
 (fun h i j l=>k1 h i j l)
def EI:dT:=sld Vy
def kc:PT (List DV):=pA [pV true [(dX .f64),(dI .i64)],pV true [(dX .f64),(dI .i64)]]
def Qd (v:dT)(α:Type)(k:RT α):Nat->Nat->Int->Nat->Nat->Int->Op α:=fun a b c d e g=>v α a b c d e g (fun h i j l=>bF k h i j l)
theorem atr:ak Pg 189 11 ⟨kc,Qd EI⟩:=iP aoo aF1 (ah Tryz.func189 (by kernel_rfl)) Rx fun _ _=>by kernel_rfl
def aGv:TG:=[tT 0 [2,3,4],tT 1 [4,5]]
def aAP:aq:=aw Pg Tryz.f187 aGv aC
def axG:aE:=aE.ofIO (⟨216,24,[⟨S2,RU Kd⟩]⟩::aaf) bt io0
theorem aof:axG.Ok Pg:=aE.ofIO_ok aN ⟨⟨aog,trivial⟩,aei⟩
def WE (α:Type)(a b:Nat)(c:Int)(d e:Nat)(g:Int)(k1:Nat->Nat->Int->Int->Op α):Op α:=
 Kd α a b c d e g
 (fun h i j l=>k1 h i j l)
def xq:dT:=sld WE
def YM (v:dT)(α:Type)(k:RT α):Nat->Nat->Int->Nat->Nat->Int->Op α:=fun a b c d e g=>v α a b c d e g (fun h i j l=>bF k h i j l)
theorem anM:ak Pg 187 11 ⟨kc,YM xq⟩:=iP aof aAP (ah Tryz.func187 (by kernel_rfl)) Rx fun _ _=>by kernel_rfl
def aFg:TG:=[tT 0 [2,3,4],tT 1 [4,5]]
def aFk:aq:=aw Pg Tryz.f186 aFg aC
def axA:aE:=aE.ofIO (⟨216,24,[⟨SI,Ye Ix⟩]⟩::aaf) bt io0
theorem an7:axA.Ok Pg:=aE.ofIO_ok aN ⟨⟨aun,trivial⟩,aei⟩
def Q8 (α:Type)(a b:Nat)(c:Int)(d e:Nat)(g:Int)(k1:Nat->Nat->Int->Int->Op α):Op α:=
 Ix α a b c d e g
 (fun h i j l=>k1 h i j l)
def Db:dT:=sld Q8
def ZK (v:dT)(α:Type)(k:RT α):Nat->Nat->Int->Nat->Nat->Int->Op α:=fun a b c d e g=>v α a b c d e g (fun h i j l=>bF k h i j l)
theorem an6:ak Pg 186 11 ⟨kc,ZK Db⟩:=iP an7 aFk (ah Tryz.func186 (by kernel_rfl)) Rx fun _ _=>by kernel_rfl
def Du:SG:=[(16,[.int .i64,.int .i64,.int .i64,.int .i64,.int .i64,.int .i64,.sl,.int .i64,.int .i64]),(25,iT),(28,[.int .i64,.int .i64,.int .i64,.int .i64,.int .i64,.int .i64,.sl,.int .i64,.int .i64]),(31,iS 3),(34,iS 2),(37,iS 2),(41,iT),(49,iT),(65,iT),(69,iT),(73,iT),(78,iT),(82,iT),(86,iT),(90,iS 4)]
def aHF:TG:=[tT 0 [0,2,4,6],tT 1 [0,2,4,6,7,9],tT 2 [0,2,4,6,7,9,26],tT 3 [0,6],tT 4 [0,4,6,7,9,10],tT 5 [0,4,6,9,10,11],tT 6 [0,4,6,9,10,12],tT 7 [0,4,6,9,10,12,45],tT 8 [0,4,6,9,10,12],tT 9 [0,4,6,10,12,54],tT 10 [0,4,6,10,12],tT 11 [0,4,6,10,12,13],tT 12 [0,4,6,10,12,13,58],tT 14 [0,4,6,10,12,13],tT 13 [0,4,6,10,12,13],tT 15 [0,6]]
def aDn:TG:=[(12,⟨[0,4,6,10,12,13],true,[⟨true,4,6,30406,5⟩],[]⟩)]
def Ew:aq:=aw Pg Tryz.f277 aHF aDn
def aGV:OT:=tdC (ag.sub [1,1,1,1,1,1,1,1,0,1,0] (emb Ew))
def eX:PT St:=pSv [(0,500000000,0)] [sl 0 (aV false [(cB 500000000 0)]),sP 4,sP 6,sl 9 (aV false [(cD dB)]),sP 10,sP 12] [au 500000000 [xI],au 4 [xI,xI,xI,xI,xI,xI,(cD dL),xI,xI],au 6 (xs 4),au 10 (xs 5),au 12 (xs 4)]
def akB {β:Type}(g:St->β):Bool->Int->Int->Int->Int->Int->Int->Int->ae->I15 β:=eX.unc g
def me:PT St:=pSv [(0,500000000,0)] [sl 0 (aV false [(cB 500000000 0)]),sP 4,sP 6,sl 9 (aV false [(cD dB)]),sP 10,sP 12,sl 45 (aV false [(cD dB)])] [au 500000000 [xI],au 4 [xI,xI,xI,xI,xI,xI,(cD dL),xI,xI],au 6 (xs 4),au 10 (xs 5),au 12 (xs 4)]
def NU {β:Type}(g:St->β):Bool->Bool->Int->Int->Int->Int->Int->Int->Int->ae->I15 β:=me.unc g
def al0:PT St:=pSv [(0,500000000,0)] [sl 0 (aV false [(cB 500000000 0)]),sP 4,sP 6,sP 10,sP 12,sl 54 (aV false [(cD dB)])] [au 500000000 [xI],au 4 [xI,xI,xI,xI,xI,xI,(cD dL),xI,xI],au 6 (xs 4),au 10 (xs 5),au 12 (xs 4)]
def uy {β:Type}(g:St->β):Bool->Int->Int->Int->Int->Int->Int->Int->ae->I15 β:=al0.unc g
def ag4:PT St:=pSv [(0,500000000,0)] [sl 0 (aV false [(cB 500000000 0)]),sP 4,sP 6,sP 10,sP 12] [au 500000000 [xI],au 4 [xI,xI,xI,xI,xI,xI,(cD dL),xI,xI],au 6 (xs 4),au 10 (xs 5),au 12 (xs 4)]
def On {β:Type}(g:St->β):Int->Int->Int->Int->Int->Int->Int->ae->I15 β:=ag4.unc g
def aa1:PT (List RV):=pRs [pR true [rD (dI .i64),rD (dI .i64),rD (dI .i64),rD (dI .i64)],pR true [rD (dI .i64)]]
def abi {β:Type}(g:List RV->β):I5 β:=aa1.unc g
def Gj:ag:=ag.sub [1,1,1,1,1,1,1,0,0] (emb Ew)
abbrev i8:Type 1:=(α:Type)->Bool->Int->(Bool->Op α)->Op α
def HL (α:Type)(a:Bool)(b:Int)(k1:Bool->Op α):Op α:=
 cK (b == 0)
 (k1 (!a))
 (k1 false)
def oh:i8:=sld HL
def Dp (v:i8)(α:Type)(K:KT α):Bool->Int->Int->Int->Int->Int->Int->Int->ae->I15 (Op α):=fun b c d e g h i j l m o p q r s t w z A a B C D F=>v α b a (fun G=>uy (K .normal) G c d e g h i j l m o p q r s t w z A a B C D F)
theorem ad3:∀ (α:Type) (K:KT α),Dp oh α K=eX.unc fun σ=>az Pg Po Du Gj K σ:=aZ (fun α K=>by kernel_rfl)
def E5 (α:Type)(a:Bool)(b:Int)(k1:Bool->Op α):Op α:=
 cK (b == 0)
 (k1 (!a))
 (k1 false)
def pn:i8:=sld E5
def Bs (v:i8)(α:Type)(K:KT α):Bool->Bool->Int->Int->Int->Int->Int->Int->Int->ae->I15 (Op α):=fun b H c d e g h i j l m o p q r s t w z A a B C D F=>v α b a (fun G=>uy (K .normal) G c d e g h i j l m o p q r s t w z A a B C D F)
theorem adr:∀ (α:Type) (K:KT α),Bs pn α K=me.unc fun σ=>az Pg Po Du Gj K σ:=aZ (fun α K=>by kernel_rfl)
def Gf:ag:=ag.sub [1,1,1,1,1,1,1,0] (ag.put (.m [⟨eX,Dp oh⟩,⟨me,Bs pn⟩]) [1,1,1,1,1,1,1,0] (emb Ew))
abbrev i6:Type 1:=(α:Type)->Bool->Int->(Op α)->(Bool->Op α)->Op α
def F7 (α:Type)(b:Bool)(c:Int)(k1:Op α)(k2:Bool->Op α):Op α:=
 oh α b c
 (fun a=>cK a
 (k1)
 (k2 a))
def pl:i6:=sld F7
def M8 (v:i6)(α:Type)(K:KT α):Bool->Int->Int->Int->Int->Int->Int->Int->ae->I15 (Op α):=fun C b c d e g h i j l m o p q r s t w z a A B D F=>v α C a (On (K .normal) b c d e g h i j l m o p q r s t w z a A B 0 0) (fun G=>uy (K .normal) G b c d e g h i j l m o p q r s t w z a A B D F)
theorem acS:∀ (α:Type) (K:KT α),M8 pl α K=eX.unc fun σ=>az Pg Po Du Gf K σ:=aZ (fun α K=>by kernel_rfl)
def Hl (α:Type)(b:Bool)(c:Int)(k1:Op α)(k2:Bool->Op α):Op α:=
 pn α b c
 (fun a=>cK a
 (k1)
 (k2 a))
def oE:i6:=sld Hl
def Ns (v:i6)(α:Type)(K:KT α):Bool->Bool->Int->Int->Int->Int->Int->Int->Int->ae->I15 (Op α):=fun C H b c d e g h i j l m o p q r s t w z a A B D F=>v α C a (On (K .normal) b c d e g h i j l m o p q r s t w z a A B 0 0) (fun G=>uy (K .normal) G b c d e g h i j l m o p q r s t w z a A B D F)
theorem ago:∀ (α:Type) (K:KT α),Ns oE α K=me.unc fun σ=>az Pg Po Du Gf K σ:=aZ (fun α K=>by kernel_rfl)
def aaC:ag:=ag.sub [1,1,1,1,1,1,0,0] (emb Ew)
def Gk (α:Type)(a:Bool)(b:Int)(k1:Bool->Op α):Op α:=
 cK (b == 0)
 (k1 a)
 (k1 false)
def pF:i8:=sld Gk
def B0 (v:i8)(α:Type)(K:KT α):Bool->Int->Int->Int->Int->Int->Int->Int->ae->I15 (Op α):=fun a c d e g h i j l m o p q r s t w z A b B C D F=>v α a b (fun G=>NU (K .normal) a G c d e g h i j l m o p q r s t w z A b B C D F)
theorem ajb:∀ (α:Type) (K:KT α),B0 pF α K=eX.unc fun σ=>az Pg Po Du aaC K σ:=aZ (fun α K=>by kernel_rfl)
def aaE:ag:=ag.sub [1,1,1,1,1,1,0] (ag.put (.m [⟨eX,B0 pF⟩]) [1,1,1,1,1,1,0] (emb Ew))
def F2 (α:Type)(b:Bool)(c:Int)(k1:Op α)(k2:Bool->Op α):Op α:=
 pF α b c
 (fun a=>cK a
 (k1)
 (k2 a))
def ov:i6:=sld F2
def Lx (v:i6)(α:Type)(K:KT α):Bool->Int->Int->Int->Int->Int->Int->Int->ae->I15 (Op α):=fun a c d e g h i j l m o p q r s t w z A b D F B C=>v α a b (akB (K .normal) a c d e g h i j l m o p q r s t w z A b 0 0 B C) (fun G=>NU (K .normal) a G c d e g h i j l m o p q r s t w z A b D F B C)
theorem adQ:∀ (α:Type) (K:KT α),Lx ov α K=eX.unc fun σ=>az Pg Po Du aaE K σ:=aZ (fun α K=>by kernel_rfl)
abbrev Am:Type 1:=(α:Type)->Int->Int->Int->Int->Int->Int->ae->Int->Int->Int->(I5 (Op α))->Op α
def Zf (α:Type)(t i w z a b:Int)(j:ae)(l m o:Int)(k1:I5 (Op α)):Op α:=
 ou α t i w z j l m o
 (fun A B C a0 a1 a2 g e=>cK (e != 0)
 (k1 0 0 0 0 e)
 (rZ α i j l m o
 (fun a3 a4 c d h=>o4 α A B C
 (fun D F G H=>su α D F
 (fun p q=>su α G H
 (fun r s=>ov α g h
 (pl α g h
 (dz α (w64 (0*c)) b
 (fun I=>cq α (w64 (0*d)) a
 (fun J=>dz α (w64 (0*c)) b
 (fun L=>cq α (w64 (0*d)) a
 (fun M=>k1 I J L M e)))))
 (fun a5=>dz α (w64 (0*c)) b
 (fun N=>cq α (w64 (0*d)) a
 (fun O=>dz α (w64 ((w64 (4*r))*c)) b
 (fun P=>cq α (w64 ((w64 (4*s))*d)) a
 (fun Q=>k1 N O P Q e))))))
 (fun a6=>oE α g h
 (dz α (w64 ((w64 (4*p))*c)) b
 (fun R=>cq α (w64 ((w64 (4*q))*d)) a
 (fun T=>dz α (w64 (0*c)) b
 (fun U=>cq α (w64 (0*d)) a
 (fun V=>k1 R T U V e)))))
 (fun a7=>dz α (w64 ((w64 (4*p))*c)) b
 (fun W=>cq α (w64 ((w64 (4*q))*d)) a
 (fun X=>dz α (w64 ((w64 (4*r))*c)) b
 (fun Y=>cq α (w64 ((w64 (4*s))*d)) a
 (fun Z=>k1 W X Y Z e))))))))))))
def Ea:Am:=sld Zf
def VZ (v:Am)(α:Type)(k:RT α):Int->Int->Int->Int->Int->Int->Int->ae->Int->Int->Int->Op α:=fun a b c d s e g h i j l=>v α a b c d e g h i j l (fun m o p q r=>abi k m o p q r)
def arY:ag:=(ag.put (.m [⟨eX,Lx ov⟩]) [1,1,1,1,1,1] (ag.put (.m [⟨eX,B0 pF⟩]) [1,1,1,1,1,1,0] (ag.put (.m [⟨eX,M8 pl⟩,⟨me,Ns oE⟩]) [1,1,1,1,1,1,1] (ag.put (.m [⟨eX,Dp oh⟩,⟨me,Bs pn⟩]) [1,1,1,1,1,1,1,0] (ag.put (.u 3) [1,1,1,1,1,1,1,1,0,1,0] (emb Ew))))))
theorem at1:ak Pg 277 91 ⟨g9,VZ Ea⟩:=iZ aoo (ah Tryz.func277 (by kernel_rfl)) Du arY ((an _ _).trans ((an _ _).trans ((an _ _).trans ((an _ _).trans ((an _ _).trans (aA _)))))) (aM (by kernel_rfl) (aM (by kernel_rfl) (aM (by kernel_rfl) (aM (by kernel_rfl) (GV (by decide) (aD Ew)) ⟨ad3,adr,trivial⟩) ⟨acS,ago,trivial⟩) ⟨ajb,trivial⟩) ⟨adQ,trivial⟩) fun _ _=>by kernel_rfl
def aHA:SG:=[(12,[.int .i64,.int .i64,.int .i64,.int .i64,.int .i64,.int .i64,.sl,.int .i64,.int .i64]),(19,iT),(21,iS 3),(23,iS 3),(24,iS 3)]
def aCU:TG:=[tT 0 [0,2,4,6],tT 1 [0,4,6,7,8],tT 2 [0,6,7,8,20],tT 3 [0,6],tT 4 [0,6]]
def aA2:aq:=aw Pg Tryz.f172 aCU aC
abbrev VY:Type 1:=(α:Type)->Int->Int->Int->Int->Int->ae->Int->Int->Int->(I4 (Op α))->Op α
def Td (α:Type)(e g h i j:Int)(l:ae)(m o p:Int)(k1:I4 (Op α)):Op α:=
 ou α e g h i l m o p
 (fun a b c q r s B d=>cK (j == 0)
 (k1 a b c d)
 (kQ α d q r s a b c
 (fun t w z A=>k1 t w z A)))
def jr:VY:=sld Td
def S6 (v:VY)(α:Type)(k:RT α):Int->Int->Int->Int->Int->Int->Int->ae->Int->Int->Int->Op α:=fun a b c d e q r g h i j=>v α a b c d e g h i j (fun l m o p=>ee k l m o p)
theorem asT:ak Pg 172 26 ⟨g9,S6 jr⟩:=iP aoo aA2 (ah Tryz.func172 (by kernel_rfl)) aHA fun _ _=>by kernel_rfl
def aC3:TG:=[tT 0 [2,3,4],tT 1 [4,5]]
def aHE:aq:=aw Pg Tryz.f188 aC3 aC
def ay5:aE:=aE.ofIO (⟨216,24,[⟨Uf,ZH KI⟩]⟩::aaf) bt io0
theorem ane:ay5.Ok Pg:=aE.ofIO_ok aN ⟨⟨asI,trivial⟩,aei⟩
def XF (α:Type)(a b:Nat)(c:Int)(d e:Nat)(g:Int)(k1:Nat->Nat->Int->Int->Op α):Op α:=
 KI α a b c d e g
 (fun h i j l=>k1 h i j l)
def Cb:dT:=sld XF
def SE (v:dT)(α:Type)(k:RT α):Nat->Nat->Int->Nat->Nat->Int->Op α:=fun a b c d e g=>v α a b c d e g (fun h i j l=>bF k h i j l)
theorem aoy:ak Pg 188 11 ⟨kc,SE Cb⟩:=iP ane aHE (ah Tryz.func188 (by kernel_rfl)) Rx fun _ _=>by kernel_rfl
def avJ:SG:=[(11,[.int .i64,.int .i64,.int .i64,.int .i64,.int .i64,.int .i64,.sl,.int .i64,.int .i64]),(15,iS 4),(18,iS 4)]
def aHd:TG:=[tT 0 [0,2,3,5,8],tT 1 [0,3,8,9],tT 2 [0,8,9,14],tT 3 [0,8,9],tT 4 [0,8]]
def ah5:aq:=aw Pg Tryz.f262 aHd aC
def Dj:PT St:=pSv [(0,500000000,0)] [sl 0 (aV false [(cB 500000000 0)]),sl 3 (aV false [(cD dB)]),sP 8,sP 9] [au 500000000 [xI],au 8 (xs 3),au 9 (xs 4)]
def aHN {β:Type}(g:St->β):Bool->I8 β:=Dj.unc g
def aiM:PT St:=pSv [(0,500000000,0)] [sl 0 (aV false [(cB 500000000 0)]),sP 8,sP 9] [au 500000000 [xI],au 8 (xs 3),au 9 (xs 4)]
def afy {β:Type}(g:St->β):I8 β:=aiM.unc g
def afu:PT St:=pSv [(0,500000000,0)] [sl 0 (aV false [(cB 500000000 0)]),sP 8,sP 9,sl 14 (aV false [(cD dB)])] [au 500000000 [xI],au 8 (xs 3),au 9 (xs 4)]
def alH {β:Type}(g:St->β):Bool->I8 β:=afu.unc g
noncomputable abbrev axX:List bA:=⟨277,91,[⟨g9,VZ Ea⟩]⟩::⟨186,11,[⟨kc,ZK Db⟩]⟩::⟨187,11,[⟨kc,YM xq⟩]⟩::⟨189,11,[⟨kc,Qd EI⟩]⟩::⟨188,11,[⟨kc,SE Cb⟩]⟩::⟨172,26,[⟨g9,S6 jr⟩]⟩::aaf
theorem aIm:bG axX fun c=>bG c.l (ak Pg c.f c.nt):=⟨⟨at1,trivial⟩,⟨an6,trivial⟩,⟨anM,trivial⟩,⟨atr,trivial⟩,⟨aoy,trivial⟩,⟨asT,trivial⟩,aei⟩
def aD0:aE:=aE.ofIO axX bt io0
theorem ahE:aD0.Ok Pg:=aE.ofIO_ok aN aIm
def ae4:ag:=ag.sub [1,1,0] (emb ah5)
abbrev Ha:Type 1:=(α:Type)->Bool->Int->Int->Int->Int->(I4 (Op α))->(Op α)->Op α
def xF (α:Type)(a:Bool)(b c d e:Int)(k1:I4 (Op α))(k2:Op α):Op α:=
 cK a
 (Ja α b c d e
 (fun g h i j=>k1 g h i j))
 (k2)
def po:Ha:=sld xF
def OM (v:Ha)(α:Type)(K:KT α):Bool->I8 (Op α):=fun a b c d e g h i j=>v α a g h i j (fun l m o p=>afy (K .normal) b c d e l m o p) (alH (K .normal) a b c d e g h i j)
theorem akD:∀ (α:Type) (K:KT α),OM po α K=Dj.unc fun σ=>az Pg aD0 avJ ae4 K σ:=aZ (fun α K=>by kernel_rfl)
abbrev QF:Type 1:=(α:Type)->Int->Int->Int->Int->Int->Int->ae->Int->Int->Int->Bool->(I4 (Op α))->Op α
def JV (α:Type)(g h i j l m:Int)(o:ae)(p q r:Int)(s:Bool)(k1:I4 (Op α)):Op α:=
 Ea α g h i j l m o p q r
 (fun a b c d e=>po α s a b c d
 (fun t w z A=>xS α e t w z A
 (fun B C D F=>k1 B C D F))
 (xS α e a b c d
 (fun G H I J=>k1 G H I J)))
def kP:QF:=sld JV
def QA:PT (List DV):=pA [pV false [(dMr [(dI .i64)] 0)],pV true [(dI .i64),(dI .i64),(dI .i64),(dI .i64),(dI .i64),(dI .i64),dL,(dI .i64),(dI .i64)],vI,pV false [dB]]
def Qh (v:QF)(α:Type)(k:RT α):Int->Int->Int->Int->Int->Int->Int->ae->Int->Int->Int->Bool->Op α:=fun a b c d s e g h i j l m=>v α a b c d e g h i j l m (fun o p q r=>ee k o p q r)
def arW:ag:=(ag.put (.m [⟨Dj,OM po⟩]) [1,1] (emb ah5))
theorem apY:ak Pg 262 20 ⟨QA,Qh kP⟩:=iZ ahE (ah Tryz.func262 (by kernel_rfl)) avJ arW ((an _ _).trans (aA _)) (aM (by kernel_rfl) (aD ah5) ⟨akD,trivial⟩) fun _ _=>by kernel_rfl
def Tc:SG:=[(12,iT),(17,[.cpx .f64,.int .i64]),(18,[.cpx .f64,.int .i64])]
def aDK:TG:=[tT 0 [0,1,6,7,8],tT 1 [0,1,6,7,8,13],tT 2 [0,8],tT 3 [0,8]]
def W7:aq:=aw Pg Tryz.f185 aDK aC
abbrev dU:Type 1:=(α:Type)->Int->Nat->Nat->Int->Nat->Nat->Int->(Nat->Nat->Int->Int->Op α)->Op α
def Qy (α:Type)(a:Int)(b c:Nat)(d:Int)(e g:Nat)(h:Int)(k1:Nat->Nat->Int->Int->Op α):Op α:=
 cK (a != 0)
 (k1 0 0 0 a)
 (Db α b c d e g h
 (fun i j l m=>dM α
 (k1 i j l m)))
def Js:dU:=sld Qy
def Te:PT (List DV):=pA [pV false [(dMr [(dI .i64),(dI .i64),(dI .i64),(dI .i64),(dI .i64),(dI .i64),(dI .i64),dL,(dI .i64),(dI .i64)] 0)],pV false [(dFn 186 [])],pV true [(dX .f64),(dI .i64)],pV true [(dX .f64),(dI .i64)]]
def X7 (v:dU)(α:Type)(k:RT α):Int->Int->Int->Int->Int->Int->Int->ae->Int->Int->Nat->Nat->Int->Nat->Nat->Int->Op α:=fun a b c d e g h i j l m o p q r s=>v α a m o p q r s (fun t w z A=>cH k t w z A b c d e g h i j l)
theorem apH:ak Pg 185 23 ⟨Te,X7 Js⟩:=iP ahE W7 (ah Tryz.func185 (by kernel_rfl)) Tc fun _ _=>by kernel_rfl
def XR (α:Type)(a:Int)(b c:Nat)(d:Int)(e g:Nat)(h:Int)(k1:Nat->Nat->Int->Int->Op α):Op α:=
 cK (a != 0)
 (k1 0 0 0 a)
 (xq α b c d e g h
 (fun i j l m=>dM α
 (k1 i j l m)))
def Kx:dU:=sld XR
def UZ:PT (List DV):=pA [pV false [(dMr [(dI .i64),(dI .i64),(dI .i64),(dI .i64),(dI .i64),(dI .i64),(dI .i64),dL,(dI .i64),(dI .i64)] 0)],pV false [(dFn 187 [])],pV true [(dX .f64),(dI .i64)],pV true [(dX .f64),(dI .i64)]]
def YS (v:dU)(α:Type)(k:RT α):Int->Int->Int->Int->Int->Int->Int->ae->Int->Int->Nat->Nat->Int->Nat->Nat->Int->Op α:=fun a b c d e g h i j l m o p q r s=>v α a m o p q r s (fun t w z A=>cH k t w z A b c d e g h i j l)
theorem aqE:ak Pg 185 23 ⟨UZ,YS Kx⟩:=iP ahE W7 (ah Tryz.func185 (by kernel_rfl)) Tc fun _ _=>by kernel_rfl
def SX (α:Type)(a:Int)(b c:Nat)(d:Int)(e g:Nat)(h:Int)(k1:Nat->Nat->Int->Int->Op α):Op α:=
 cK (a != 0)
 (k1 0 0 0 a)
 (EI α b c d e g h
 (fun i j l m=>dM α
 (k1 i j l m)))
def IB:dU:=sld SX
def QX:PT (List DV):=pA [pV false [(dMr [(dI .i64),(dI .i64),(dI .i64),(dI .i64),(dI .i64),(dI .i64),(dI .i64),dL,(dI .i64),(dI .i64)] 0)],pV false [(dFn 189 [])],pV true [(dX .f64),(dI .i64)],pV true [(dX .f64),(dI .i64)]]
def WZ (v:dU)(α:Type)(k:RT α):Int->Int->Int->Int->Int->Int->Int->ae->Int->Int->Nat->Nat->Int->Nat->Nat->Int->Op α:=fun a b c d e g h i j l m o p q r s=>v α a m o p q r s (fun t w z A=>cH k t w z A b c d e g h i j l)
theorem arE:ak Pg 185 23 ⟨QX,WZ IB⟩:=iP ahE W7 (ah Tryz.func185 (by kernel_rfl)) Tc fun _ _=>by kernel_rfl
def YL (α:Type)(a:Int)(b c:Nat)(d:Int)(e g:Nat)(h:Int)(k1:Nat->Nat->Int->Int->Op α):Op α:=
 cK (a != 0)
 (k1 0 0 0 a)
 (Cb α b c d e g h
 (fun i j l m=>dM α
 (k1 i j l m)))
def Jq:dU:=sld YL
def VS:PT (List DV):=pA [pV false [(dMr [(dI .i64),(dI .i64),(dI .i64),(dI .i64),(dI .i64),(dI .i64),(dI .i64),dL,(dI .i64),(dI .i64)] 0)],pV false [(dFn 188 [])],pV true [(dX .f64),(dI .i64)],pV true [(dX .f64),(dI .i64)]]
def RJ (v:dU)(α:Type)(k:RT α):Int->Int->Int->Int->Int->Int->Int->ae->Int->Int->Nat->Nat->Int->Nat->Nat->Int->Op α:=fun a b c d e g h i j l m o p q r s=>v α a m o p q r s (fun t w z A=>cH k t w z A b c d e g h i j l)
theorem ap1:ak Pg 185 23 ⟨VS,RJ Jq⟩:=iP ahE W7 (ah Tryz.func185 (by kernel_rfl)) Tc fun _ _=>by kernel_rfl
def Tz:SG:=[(8,[.cpx .f64,.int .i64]),(9,[.cpx .f64,.int .i64])]
def aFd:TG:=[tT 0 [0,4,5,6],tT 1 [0,6]]
def aCK:aq:=aw Pg Tryz.f157 aFd aC
noncomputable abbrev afY:List bA:=⟨185,23,[⟨QX,WZ IB⟩]⟩::⟨262,20,[⟨QA,Qh kP⟩]⟩::axX
theorem arS:bG afY fun c=>bG c.l (ak Pg c.f c.nt):=⟨⟨arE,trivial⟩,⟨apY,trivial⟩,aIm⟩
def aaD:aE:=aE.ofIO afY bt io0
theorem aGF:aaD.Ok Pg:=aE.ofIO_ok aN arS
def U2 (α:Type)(a:Int)(b c:Nat)(d:Int)(e g:Nat)(h:Int)(k1:Nat->Nat->Int->Int->Op α):Op α:=
 IB α a b c d e g h
 (fun i j l m=>k1 i j l m)
def pD:dU:=sld U2
def ib:PT (List DV):=pA [pV false [(dMr [(dI .i64),(dI .i64),(dI .i64),(dI .i64),(dI .i64),(dI .i64),(dI .i64),dL,(dI .i64),(dI .i64)] 0)],pV true [(dX .f64),(dI .i64)],pV true [(dX .f64),(dI .i64)]]
def UY (v:dU)(α:Type)(k:RT α):Int->Int->Int->Int->Int->Int->Int->ae->Int->Int->Nat->Nat->Int->Nat->Nat->Int->Op α:=fun a b c d e g h i j l m o p q r s=>v α a m o p q r s (fun t w z A=>cH k t w z A b c d e g h i j l)
theorem aqz:ak Pg 157 11 ⟨ib,UY pD⟩:=iP aGF aCK (ah Tryz.func157 (by kernel_rfl)) Tz fun _ _=>by kernel_rfl
def aHQ:TG:=[tT 0 [0,4,5,6],tT 1 [0,6]]
def aH7:aq:=aw Pg Tryz.f155 aHQ aC
def ay9:aE:=aE.ofIO (⟨185,23,[⟨UZ,YS Kx⟩]⟩::afY) bt io0
theorem arp:ay9.Ok Pg:=aE.ofIO_ok aN ⟨⟨aqE,trivial⟩,arS⟩
def Yr (α:Type)(a:Int)(b c:Nat)(d:Int)(e g:Nat)(h:Int)(k1:Nat->Nat->Int->Int->Op α):Op α:=
 Kx α a b c d e g h
 (fun i j l m=>k1 i j l m)
def cO:dU:=sld Yr
def YA (v:dU)(α:Type)(k:RT α):Int->Int->Int->Int->Int->Int->Int->ae->Int->Int->Nat->Nat->Int->Nat->Nat->Int->Op α:=fun a b c d e g h i j l m o p q r s=>v α a m o p q r s (fun t w z A=>cH k t w z A b c d e g h i j l)
theorem asK:ak Pg 155 11 ⟨ib,YA cO⟩:=iP arp aH7 (ah Tryz.func155 (by kernel_rfl)) Tz fun _ _=>by kernel_rfl
def aHq:TG:=[tT 0 [0,4,5,6],tT 1 [0,6]]
def aFG:aq:=aw Pg Tryz.f154 aHq aC
def axx:aE:=aE.ofIO (⟨185,23,[⟨Te,X7 Js⟩]⟩::afY) bt io0
theorem at6:axx.Ok Pg:=aE.ofIO_ok aN ⟨⟨apH,trivial⟩,arS⟩
def SN (α:Type)(a:Int)(b c:Nat)(d:Int)(e g:Nat)(h:Int)(k1:Nat->Nat->Int->Int->Op α):Op α:=
 Js α a b c d e g h
 (fun i j l m=>k1 i j l m)
def fw:dU:=sld SN
def Wr (v:dU)(α:Type)(k:RT α):Int->Int->Int->Int->Int->Int->Int->ae->Int->Int->Nat->Nat->Int->Nat->Nat->Int->Op α:=fun a b c d e g h i j l m o p q r s=>v α a m o p q r s (fun t w z A=>cH k t w z A b c d e g h i j l)
theorem ar9:ak Pg 154 11 ⟨ib,Wr fw⟩:=iP at6 aFG (ah Tryz.func154 (by kernel_rfl)) Tz fun _ _=>by kernel_rfl
def GB:SG:=[(21,[.sl]),(27,[.int .i64,.int .i64,.int .i64,.int .i64,.int .i64,.int .i64,.sl,.int .i64,.int .i64]),(31,[.int .i64,.int .i64,.int .i64,.int .i64,.int .i64,.int .i64,.sl,.int .i64,.int .i64]),(36,iS 3),(38,[.int .i64,.int .i64,.int .i64,.int .i64,.int .i64,.int .i64,.sl,.int .i64,.int .i64]),(43,iS 12),(45,iS 3),(46,iS 3),(52,iT),(56,iS 12),(57,iS 3)]
def aGh:TG:=[tT 0 [0,2,4,6,7],tT 1 [0,2,4,6,7,8,9],tT 2 [0,2,4,6,7,8,9,10],tT 3 [0,2,4,6,7,8,9,10,23],tT 5 [0,2,4,6,7,8,9,10,11],tT 6 [0,2,4,6,7,8,9,10,11,12],tT 7 [0,2,4,6,7,8,9,10,11,12,34],tT 8 [0,2,4,6,7,8,9,10,11,12],tT 9 [0,2,4,6,7,8,9,10],tT 10 [0,2,4,6,7,8,9,10,53],tT 11 [0,6,7],tT 4 [0,2,4,6,7,8,9,10],tT 12 [0,6,7]]
def aA7:TG:=[(3,⟨[0,2,4,6,7,8,9,10],true,[⟨true,4,6,30406,5⟩],[]⟩)]
def KV:aq:=aw Pg Tryz.f237 aGh aA7
def v4:OT:=tdC (ag.sub [1,1,0,1,0] (emb KV))
def vy:PT St:=pSv [(0,500000000,0)] [sl 0 (aV false [(cB 500000000 0)]),sl 2 (aV false [(cD dB)]),sP 4,sP 6,sP 7,sP 8,sP 9,sI 10,sP 11,sP 12] [au 500000000 [xI],au 4 [xI,xI,xI,xI,xI,xI,(cD dL),xI,xI],au 6 (xs 12),au 7 (xs 3),au 8 (xs 12),au 9 (xs 3),au 11 (xs 3),au 12 (xs 3)]
def amk {β:Type}(g:St->β):Bool->Int->Int->Int->Int->Int->Int->Int->Int->ae->I38 β:=vy.unc g
def akK:PT St:=pSv [(0,500000000,0)] [sl 0 (aV false [(cB 500000000 0)]),sl 2 (aV false [(cD dB)]),sP 4,sP 6,sP 7,sP 8,sP 9,sI 10,sP 11,sP 12,sl 34 (aV false [(cD dB)])] [au 500000000 [xI],au 4 [xI,xI,xI,xI,xI,xI,(cD dL),xI,xI],au 6 (xs 12),au 7 (xs 3),au 8 (xs 12),au 9 (xs 3),au 11 (xs 3),au 12 (xs 3)]
def afz {β:Type}(g:St->β):Bool->Int->Bool->Int->Int->Int->Int->Int->Int->Int->ae->I38 β:=akK.unc g
def DB:PT St:=pSv [(0,500000000,0)] [sl 0 (aV false [(cB 500000000 0)]),sl 2 (aV false [(cD dB)]),sP 4,sP 6,sP 7,sP 8,sP 9,sI 10] [au 500000000 [xI],au 4 [xI,xI,xI,xI,xI,xI,(cD dL),xI,xI],au 6 (xs 12),au 7 (xs 3),au 8 (xs 12),au 9 (xs 3)]
def Dn {β:Type}(g:St->β):Bool->Int->Int->Int->Int->Int->Int->Int->Int->ae->I32 β:=DB.unc g
def akf:PT St:=pSv [(0,500000000,0)] [sl 0 (aV false [(cB 500000000 0)]),sP 6,sP 7] [au 500000000 [xI],au 6 (xs 12),au 7 (xs 3)]
def to {β:Type}(g:St->β):I16 β:=akf.unc g
def aeG:PT St:=pSv [(0,500000000,0)] [sl 0 (aV false [(cB 500000000 0)]),sl 2 (aV false [(cD dB)]),sP 4,sP 6,sP 7,sP 8,sP 9,sI 10,sl 23 (aV false [(cD dB)])] [au 500000000 [xI],au 4 [xI,xI,xI,xI,xI,xI,(cD dL),xI,xI],au 6 (xs 12),au 7 (xs 3),au 8 (xs 12),au 9 (xs 3)]
def vK {β:Type}(g:St->β):Bool->Int->Bool->Int->Int->Int->Int->Int->Int->Int->ae->I32 β:=aeG.unc g
def aav:PT (List RV):=pRs [pR true [rD (dI .i64),rD (dI .i64),rD (dI .i64),rD (dI .i64),rD (dI .i64),rD (dI .i64),rD (dI .i64),rD (dI .i64),rD (dI .i64),rD (dI .i64),rD (dI .i64),rD (dI .i64)],pR true [rD (dI .i64),rD (dI .i64),rD (dI .i64)],pR true [rD (dI .i64)]]
def abn {β:Type}(g:List RV->β):I16 β:=aav.unc g
def Z7:ag:=ag.sub [1,1,0,1,0,0,1,0,0,1,1,0] (emb KV)
abbrev Fa:Type 1:=(α:Type)->Bool->Int->Int->Int->Int->Int->Int->Int->ae->Int->Int->Int->Int->Int->(I4 (Op α))->(Op α)->Op α
def GJ (α:Type)(a:Bool)(b c d e g h i:Int)(j:ae)(l m o p q:Int)(k1:I4 (Op α))(k2:Op α):Op α:=
 cK a
 (kP α c d e g h i j l m b false
 (fun r s t w=>ci α w o p q r s t
 (fun z A B C=>k1 C z A B)))
 (k2)
def oK:Fa:=sld GJ
def Df (v:Fa)(α:Type)(K:KT α):Bool->Int->Int->Int->Int->Int->Int->Int->Int->ae->I38 (Op α):=fun a b m c d e o g h i j l p q r s t w z A B C D F G H I J L M N O P Q R T U V W X Y Z a0 a1 a2 a3 a4 a5=>v α a b m c d e g h i j l X Y Z (fun a6 a7 a8 a9=>amk (K .normal) a b a6 c d e o g h i j l p q r s t w z A B C D F G H I J L M N O P Q R T U V W a7 a8 a9 a0 a1 a2 a3 a4 a5) (afz (K .normal) a b a m c d e o g h i j l p q r s t w z A B C D F G H I J L M N O P Q R T U V W X Y Z a0 a1 a2 a3 a4 a5)
theorem alW:∀ (α:Type) (K:KT α),Df oK α K=vy.unc fun σ=>az Pg aaD GB Z7 K σ:=aZ (fun α K=>by kernel_rfl)
def w5:ag:=ag.sub [1,1,0,1,0,0] (ag.put (.m [⟨vy,Df oK⟩]) [1,1,0,1,0,0,1,0,0,1,1] (emb KV))
def pm (α:Type)(R:Bool)(c d e T G H:Int)(b:ae)(g h a I i j l m o p q r s t w z A B C:Int)(kn:I17 (Op α))(k1:Int->Op α)(k2:Int->Bool->I16 (Op α)):Op α:=
 cK (decide (a<=((List.length b:Nat):Int)))
 (jr α I c d e T b g h a
 (fun J L M U=>kP α U c d e G H b g h a true
 (fun N O P Q=>oK α R a Q c d e G H b g h A B C
 (fun V W X Y=>xy α V J L M N O P
 (fun Z a0 a1 a2 a3 a4 a5 a6 a7 a8 a9 b0 b1=>yh α b1 i j l m o p q r s t w z Z a0 a1 a2 a3 a4 a5 a6 a7 a8 a9 b0
 (fun b2 b3 b4 b5 b6 b7 b8 b9 c0 c1 c2 c3 D=>cK (D != 0)
 (k1 D)
 (kn (w64 (a+1)) D b2 b3 b4 b5 b6 b7 b8 b9 c0 c1 c2 c3 W X Y))))
 (xy α Q J L M N O P
 (fun c4 c5 c6 c7 c8 c9 d0 d1 d2 d3 d4 d5 d6=>yh α d6 i j l m o p q r s t w z c4 c5 c6 c7 c8 c9 d0 d1 d2 d3 d4 d5
 (fun d7 d8 d9 e0 e1 e2 e3 e4 e5 e6 e7 e8 F=>cK (F != 0)
 (k1 F)
 (kn (w64 (a+1)) F d7 d8 d9 e0 e1 e2 e3 e4 e5 e6 e7 e8 A B C)))))))
 (k2 a (decide (a<=((List.length b:Nat):Int))) I i j l m o p q r s t w z A B C)
def jv (α:Type)(a:Bool)(b c d e g h:Int)(i:ae)(j l:Int)(k1:Int->Op α)(k2:Int->Bool->I16 (Op α)):Nat->I17 (Op α)
 | 0=>fun _ _ _ _ _ _ _ _ _ _ _ _ _ _ _ _ _=>none
 | n+1=>fun m o p q r s t w z A B C D F G H I=>pm α a b c d e g h i j l m o p q r s t w z A B C D F G H I (jv α a b c d e g h i j l k1 k2 n) k1 k2
def Hc (α:Type)(a:Bool)(b c d e g h:Int)(i:ae)(j l:Int)(k1:Int->Op α)(k2:Int->Bool->I16 (Op α))(m o p q r s t w z A B C D F G H I:Int):Op α:=jv α a b c d e g h i j l k1 k2 aF m o p q r s t w z A B C D F G H I
abbrev Gs:Type 1:=(α:Type)->Bool->Int->Int->Int->Int->Int->Int->ae->Int->Int->(Int->Op α)->(Int->Bool->I16 (Op α))->I17 (Op α)
def uG:Gs:=sld Hc
def NS (v:Gs)(α:Type)(K:KT α):Bool->Int->Int->Int->Int->Int->Int->Int->Int->ae->I32 (Op α):=fun b o p c d e g h i j l m q r s t w z A B C D F G H I J L M N O P Q R T U V W X Y Z a0=>v α b c d e g h i j l m (fun a=>to (K .ret) a 0 0 0 0 0 0 0 0 0 0 0 0 0 0 0) (fun a a1 a2 a3 a4 a5 a6 a7 a8 a9 b0 b1 b2 b3 b4 b5 b6 b7=>vK (K (.exit 0)) b a a1 a2 c d e g h i j l m q r s t w z A B C D F G H I J a3 a4 a5 a6 a7 a8 a9 b0 b1 b2 b3 b4 b5 b6 b7) o p L M N O P Q R T U V W X Y Z a0
theorem afw (α:Type)(K:KT α)(Kn:SK α)(a:Bool)(b c d e g h i j:Int)(l:ae)(m o J L M N O P Q R T U V W X Y Z p q r s t w z A B C D F G H I:Int):Dn (fun σ=>az Pg aaD GB w5 (bK (fun σ=>bq v4 σ Kn) K) σ) a b c d e g h i j l m o J L M N O P Q R T U V W X Y Z p q r s t w z A B C D F G H I=pm α a d e g h i j l m o b c p q r s t w z A B C D F G H I (fun b c p q r s t w z A B C D F G H I=>Dn Kn a b c d e g h i j l m o J L M N O P Q R T U V W X Y Z p q r s t w z A B C D F G H I) (fun a0=>to (K .ret) a0 0 0 0 0 0 0 0 0 0 0 0 0 0 0 0) (fun a0 a1 a2 a3 a4 a5 a6 a7 a8 a9 b0 b1 b2 b3 b4 b5 b6 b7=>vK (K (.exit 0)) a a0 a1 a2 d e g h i j l m o J L M N O P Q R T U V W X Y Z a3 a4 a5 a6 a7 a8 a9 b0 b1 b2 b3 b4 b5 b6 b7):=by kernel_rfl
theorem aiD (α:Type)(K:KT α):∀ (n:Nat) (a:Bool) (m o b c d e g h:Int) (i:ae) (j l L M N O P Q R T U V W X Y Z a0 p q r s t w z A B C D F G H I:Int),jv α a b c d e g h i j l (fun J=>to (K .ret) J 0 0 0 0 0 0 0 0 0 0 0 0 0 0 0) (fun J a1 a2 a3 a4 a5 a6 a7 a8 a9 b0 b1 b2 b3 b4 b5 b6 b7=>vK (K (.exit 0)) a J a1 a2 b c d e g h i j l L M N O P Q R T U V W X Y Z a0 a3 a4 a5 a6 a7 a8 a9 b0 b1 b2 b3 b4 b5 b6 b7) n m o p q r s t w z A B C D F G H I=Dn (aJ (az Pg aaD GB w5) v4 K n) a m o b c d e g h i j l L M N O P Q R T U V W X Y Z a0 p q r s t w z A B C D F G H I:=by
 intro n
 induction n with
 | zero=>intros;rfl
 | succ n ih=>intro a m o b c d e g h i j l L M N O P Q R T U V W X Y Z a0 p q r s t w z A B C D F G H I;exact (congrArg (fun kn=>pm α a b c d e g h i j l m o p q r s t w z A B C D F G H I kn (fun J=>to (K .ret) J 0 0 0 0 0 0 0 0 0 0 0 0 0 0 0) (fun J a1 a2 a3 a4 a5 a6 a7 a8 a9 b0 b1 b2 b3 b4 b5 b6 b7=>vK (K (.exit 0)) a J a1 a2 b c d e g h i j l L M N O P Q R T U V W X Y Z a0 a3 a4 a5 a6 a7 a8 a9 b0 b1 b2 b3 b4 b5 b6 b7)) (funext fun m=>funext fun o=>funext fun p=>funext fun q=>funext fun r=>funext fun s=>funext fun t=>funext fun w=>funext fun z=>funext fun A=>funext fun B=>funext fun C=>funext fun D=>funext fun F=>funext fun G=>funext fun H=>funext fun I=>ih a m o b c d e g h i j l L M N O P Q R T U V W X Y Z a0 p q r s t w z A B C D F G H I)).trans (afw α K (aJ (az Pg aaD GB w5) v4 K n) a m o b c d e g h i j l L M N O P Q R T U V W X Y Z a0 p q r s t w z A B C D F G H I).symm
theorem aeT:∀ (α:Type) (K:KT α),NS uG α K=DB.unc fun σ=>aJ (az Pg aaD GB w5) v4 K aF σ:=aZ (fun α K=>funext fun a=>funext fun b=>funext fun c=>funext fun d=>funext fun e=>funext fun g=>funext fun h=>funext fun i=>funext fun j=>funext fun l=>funext fun m=>funext fun o=>funext fun p=>funext fun q=>funext fun r=>funext fun s=>funext fun t=>funext fun w=>funext fun z=>funext fun A=>funext fun B=>funext fun C=>funext fun D=>funext fun F=>funext fun G=>funext fun H=>funext fun I=>funext fun J=>funext fun L=>funext fun M=>funext fun N=>funext fun O=>funext fun P=>funext fun Q=>funext fun R=>funext fun T=>funext fun U=>funext fun V=>funext fun W=>funext fun X=>funext fun Y=>funext fun Z=>aiD α K aF a b c d e g h i j l m o p q r s t w z A B C D F G H I J L M N O P Q R T U V W X Y Z)
abbrev UJ:Type 1:=(α:Type)->Int->Int->Int->Int->Int->Int->Int->ae->Int->Int->Bool->(I16 (Op α))->Op α
def Yz (α:Type)(a b c d e g h:Int)(i:ae)(j l:Int)(m:Bool)(k1:I16 (Op α)):Op α:=
 mm α
 (mm α
 (mm α
 (uG α m b c d e g h i j l
 (fun o=>k1 0 0 0 0 0 0 0 0 0 0 0 0 0 0 0 o)
 (fun L M p q r s t w z A B C D F G H I J=>k1 q r s t w z A B C D F G H I J p) 1 a 1048576 0 0 0 0 0 0 0 0 1048576 0 0 1048576 0 0)))
def CR:UJ:=sld Yz
def A4:PT (List DV):=pA [pV false [(dMr [(dI .i64)] 0)],pV true [(dI .i64),(dI .i64),(dI .i64),(dI .i64),(dI .i64),(dI .i64),dL,(dI .i64),(dI .i64)],pV false [dB]]
def Xy (v:UJ)(α:Type)(k:RT α):Int->Int->Int->Int->Int->Int->Int->ae->Int->Int->Bool->Op α:=fun a b c d e g h i j l m=>v α a b c d e g h i j l m (fun o p q r s t w z A B C D F G H I=>abn k o p q r s t w z A B C D F G H I)
def arC:ag:=(ag.put (.m [⟨DB,NS uG⟩]) [1,1,0,1,0] (ag.put (.m [⟨vy,Df oK⟩]) [1,1,0,1,0,0,1,0,0,1,1] (emb KV)))
theorem aoZ:ak Pg 237 58 ⟨A4,Xy CR⟩:=iZ aGF (ah Tryz.func237 (by kernel_rfl)) GB arC ((an _ _).trans ((an _ _).trans (aA _))) (aY (td:=v4) (by kernel_rfl) (aM (by kernel_rfl) (aD KV) ⟨alW,trivial⟩) ⟨aeT,trivial⟩) fun _ _=>by kernel_rfl
def aFu:SG:=[(25,[.cpx .f64,.int .i64]),(28,[.cpx .f64,.int .i64]),(34,[.cpx .f64,.int .i64]),(41,[.cpx .f64,.int .i64]),(45,[.cpx .f64,.int .i64]),(50,[.cpx .f64,.int .i64,.cpx .f64,.int .i64,.cpx .f64,.int .i64,.cpx .f64,.int .i64])]
def aAC:TG:=[tT 0 [0,4,5,6],tT 1 [0,4,5,6,7],tT 2 [0,4,5,6,7,12],tT 3 [0,4,5,6,7,12,13],tT 4 [0,4,5,6,7,8,12],tT 5 [0,4,5,6,7,8,9,10,12],tT 6 [0,4,5,6,7,8,9,10,11,12],tT 7 [0,4,5,6,7,12],tT 8 [0,4,5,6,7,12],tT 9 [0,6]]
def aCy:TG:=[tT 3 [0,4,5,6,7,12]]
def ajZ:aq:=aw Pg Tryz.f183 aAC aCy
def aIv:OT:=tdC (ag.sub [1,1,0,1,0] (emb ajZ))
def abU:PT (List RV):=pRs [pR true [rD (dX .f64),rD (dI .i64),rD (dX .f64),rD (dI .i64),rD (dX .f64),rD (dI .i64),rD (dX .f64),rD (dI .i64)],pR true [rD (dI .i64),rD (dI .i64),rD (dI .i64),rD (dI .i64),rD (dI .i64),rD (dI .i64),rD (dI .i64),rD dL,rD (dI .i64),rD (dI .i64)]]
def FN {β:Type}(g:List RV->β):Nat->Nat->Int->Nat->Nat->Int->Nat->Nat->Int->Nat->Nat->Int->Int->Int->Int->Int->Int->Int->Int->ae->Int->Int->β:=abU.unc g
noncomputable abbrev aqH:List bA:=⟨155,11,[⟨ib,YA cO⟩]⟩::⟨154,11,[⟨ib,Wr fw⟩]⟩::⟨237,58,[⟨A4,Xy CR⟩]⟩::⟨157,11,[⟨ib,UY pD⟩]⟩::afY
theorem ayD:bG aqH fun c=>bG c.l (ak Pg c.f c.nt):=⟨⟨asK,trivial⟩,⟨ar9,trivial⟩,⟨aoZ,trivial⟩,⟨aqz,trivial⟩,arS⟩
def aEi:aE:=aE.ofIO aqH bt io0
theorem ayY:aEi.Ok Pg:=aE.ofIO_ok aN ayD
abbrev T2:Type 1:=(α:Type)->Int->Nat->Nat->Int->Nat->Nat->Int->Nat->Nat->Int->Nat->Nat->Int->Nat->Nat->Int->Nat->Nat->Int->Nat->Nat->Int->Nat->Nat->Int->(Nat->Nat->Int->Nat->Nat->Int->Nat->Nat->Int->Nat->Nat->Int->Int->Op α)->Op α
def YO (α:Type)(G:Int)(a b:Nat)(c:Int)(d e:Nat)(g:Int)(h i:Nat)(j:Int)(l m:Nat)(o:Int)(p q:Nat)(r:Int)(s t:Nat)(w:Int)(z A:Nat)(B:Int)(C D:Nat)(F:Int)(k1:Nat->Nat->Int->Nat->Nat->Int->Nat->Nat->Int->Nat->Nat->Int->Int->Op α):Op α:=
 cO α G a b c p q r
 (fun H I J L=>cO α L d e g z A B
 (fun M N O P=>fw α P H I J M N O
 (fun Q R T U=>cO α U a b c s t w
 (fun V W X Y=>cO α Y d e g C D F
 (fun Z a0 a1 a2=>fw α a2 V W X Z a0 a1
 (fun a3 a4 a5 a6=>cO α a6 h i j p q r
 (fun a7 a8 a9 b0=>cO α b0 l m o z A B
 (fun b1 b2 b3 b4=>fw α b4 a7 a8 a9 b1 b2 b3
 (fun b5 b6 b7 b8=>cO α b8 h i j s t w
 (fun b9 c0 c1 c2=>cO α c2 l m o C D F
 (fun c3 c4 c5 c6=>fw α c6 b9 c0 c1 c3 c4 c5
 (fun c7 c8 c9 d0=>k1 Q R T a3 a4 a5 b5 b6 b7 c7 c8 c9 d0))))))))))))
def yp:T2:=sld YO
def Qm:PT (List DV):=pA [pV false [(dMr [(dI .i64),(dI .i64),(dI .i64),(dI .i64),(dI .i64),(dI .i64),(dI .i64),dL,(dI .i64),(dI .i64)] 0)],pV true [(dX .f64),(dI .i64),(dX .f64),(dI .i64),(dX .f64),(dI .i64),(dX .f64),(dI .i64)],pV true [(dX .f64),(dI .i64),(dX .f64),(dI .i64),(dX .f64),(dI .i64),(dX .f64),(dI .i64)]]
def Xr (v:T2)(α:Type)(k:RT α):Int->Int->Int->Int->Int->Int->Int->ae->Int->Int->Nat->Nat->Int->Nat->Nat->Int->Nat->Nat->Int->Nat->Nat->Int->Nat->Nat->Int->Nat->Nat->Int->Nat->Nat->Int->Nat->Nat->Int->Op α:=fun a b c d e g h i j l m o p q r s t w z A B C D F G H I J L M N O P Q=>v α a m o p q r s t w z A B C D F G H I J L M N O P Q (fun R T U V W X Y Z a0 a1 a2 a3 a4=>FN k R T U V W X Y Z a0 a1 a2 a3 a4 b c d e g h i j l)
def ask:ag:=(ag.put (.u 5) [1,1,0,1,0] (emb ajZ))
theorem aus:ak Pg 183 51 ⟨Qm,Xr yp⟩:=iZ ayY (ah Tryz.func183 (by kernel_rfl)) aFu ask ((an _ _).trans (aA _)) (GV (by decide) (aD ajZ)) fun _ _=>by kernel_rfl
def aCg:TG:=[tT 0 [0,4,5,6],tT 1 [0,6]]
def aAN:aq:=aw Pg Tryz.f156 aCg aC
def ayz:aE:=aE.ofIO (⟨185,23,[⟨VS,RJ Jq⟩]⟩::aqH) bt io0
theorem arV:ayz.Ok Pg:=aE.ofIO_ok aN ⟨⟨ap1,trivial⟩,ayD⟩
def QN (α:Type)(a:Int)(b c:Nat)(d:Int)(e g:Nat)(h:Int)(k1:Nat->Nat->Int->Int->Op α):Op α:=
 Jq α a b c d e g h
 (fun i j l m=>k1 i j l m)
def pu:dU:=sld QN
def V3 (v:dU)(α:Type)(k:RT α):Int->Int->Int->Int->Int->Int->Int->ae->Int->Int->Nat->Nat->Int->Nat->Nat->Int->Op α:=fun a b c d e g h i j l m o p q r s=>v α a m o p q r s (fun t w z A=>cH k t w z A b c d e g h i j l)
theorem as9:ak Pg 156 11 ⟨ib,V3 pu⟩:=iP arV aAN (ah Tryz.func156 (by kernel_rfl)) Tz fun _ _=>by kernel_rfl
def au6:SG:=[(19,iT),(23,iT),(29,[.cpx .f64,.int .i64]),(39,iT),(44,[.cpx .f64,.int .i64]),(52,[.cpx .f64,.int .i64]),(53,[.cpx .f64,.int .i64])]
def aBi:TG:=[tT 0 [0,1,4],tT 1 [0,4,5,6],tT 2 [0,4,6,7],tT 3 [0,4,6,7,28],tT 4 [0,4],tT 5 [0,4,7,8],tT 6 [0,4,7,8,40],tT 7 [0,4,7,8],tT 8 [0,4]]
def ako:aq:=aw Pg Tryz.f159 aBi aC
def C3:PT St:=pSv [(0,500000000,0)] [sl 0 (aV false [(cB 500000000 0)]),sP 4,sP 7,sP 8] [au 500000000 [xI,xI,xI,xI,xI,xI,xI,(cD dL),xI,xI],au 4 [(cD (dX .f64)),xI],au 7 [(cD (dX .f64)),xI],au 8 [(cD (dX .f64)),xI]]
def afm {β:Type}(g:St->β):Int->Int->Int->Int->Int->Int->Int->ae->Int->Int->Nat->Nat->Int->Nat->Nat->Int->Nat->Nat->Int->β:=C3.unc g
def ajI:PT St:=pSv [(0,500000000,0)] [sl 0 (aV false [(cB 500000000 0)]),sP 4,sP 7,sP 8,sl 40 (aV false [(cD dB)])] [au 500000000 [xI,xI,xI,xI,xI,xI,xI,(cD dL),xI,xI],au 4 [(cD (dX .f64)),xI],au 7 [(cD (dX .f64)),xI],au 8 [(cD (dX .f64)),xI]]
def adE {β:Type}(g:St->β):Bool->Int->Int->Int->Int->Int->Int->Int->ae->Int->Int->Nat->Nat->Int->Nat->Nat->Int->Nat->Nat->Int->β:=ajI.unc g
def aay:ag:=ag.sub [1,1,1,1,1,0] (emb ako)
abbrev Gi:Type 1:=(α:Type)->Int->Nat->Nat->Int->(Int->Nat->Nat->Int->Op α)->(Bool->Op α)->Op α
def E6 (α:Type)(a:Int)(b c:Nat)(d:Int)(k1:Int->Nat->Nat->Int->Op α)(k2:Bool->Op α):Op α:=
 cK (a == 0)
 (so α b c d 1
 (fun e g h i=>dM α
 (k1 i e g h)))
 (k2 (a == 0))
def v7:Gi:=sld E6
def L3 (v:Gi)(α:Type)(K:KT α):Int->Int->Int->Int->Int->Int->Int->ae->Int->Int->Nat->Nat->Int->Nat->Nat->Int->Nat->Nat->Int->Op α:=fun b c d e g h i j l m o p q r s t w z A=>v α b w z A (fun a B C D=>afm (K .normal) a c d e g h i j l m o p q r s t B C D) (fun a=>adE (K .normal) a b c d e g h i j l m o p q r s t w z A)
theorem ajU:∀ (α:Type) (K:KT α),L3 v7 α K=C3.unc fun σ=>az Pg aEi au6 aay K σ:=aZ (fun α K=>by kernel_rfl)
abbrev P3:Type 1:=(α:Type)->Int->Int->ae->Int->Int->Int->(Nat->Nat->Int->Int->Op α)->Op α
def Ve (α:Type)(l m:Int)(o:ae)(p q r:Int)(k1:Nat->Nat->Int->Int->Op α):Op α:=
 sA α m o p q r
 (fun s t d=>jJ α (w64 (s*1048576)) 10000
 (fun w=>nd α (w64 (t*1048576)) 10000
 (fun z=>pJ α l w z
 (fun a b c e=>cK (d == 0)
 (k1 a b c e)
 (yv α e d 10000
 (fun g h i j=>v7 α j g h i
 (fun A B C D=>fw α A a b c B C D
 (fun F G H I=>k1 F G H I))
 (fun O=>fw α j a b c g h i
 (fun J L M N=>k1 J L M N))))))))
def xH:P3:=sld Ve
def WS (v:P3)(α:Type)(k:RT α):Int->Int->Int->Int->Int->Int->Int->ae->Int->Int->Int->Op α:=fun e a g h i j l b c d m=>v α e a b c d m (fun o p q r=>cH k o p q r a g h i j l b c d)
def apw:ag:=(ag.put (.m [⟨C3,L3 v7⟩]) [1,1,1,1,1] (emb ako))
theorem ao6:ak Pg 159 55 ⟨hP,WS xH⟩:=iZ ayY (ah Tryz.func159 (by kernel_rfl)) au6 apw ((an _ _).trans (aA _)) (aM (by kernel_rfl) (aD ako) ⟨ajU,trivial⟩) fun _ _=>by kernel_rfl
def aGu:SG:=[(16,[.int .i64,.int .i64,.int .i64,.int .i64,.int .i64,.int .i64,.sl,.int .i64,.int .i64]),(20,[.int .i64,.int .i64,.int .i64,.int .i64,.int .i64,.int .i64,.sl,.int .i64,.int .i64]),(26,[.int .i64,.int .i64,.int .i64,.int .i64,.int .i64,.int .i64,.sl,.int .i64,.int .i64]),(28,[.sl]),(34,iS 3),(37,iS 3),(38,iS 3),(43,iS 3),(46,iS 3),(47,iS 3),(51,iS 3),(52,iS 3),(55,iS 3),(56,iS 3),(62,iS 3),(63,iS 3),(65,iS 3),(67,iS 3),(71,iS 3),(72,iS 3),(74,iS 3)]
def aCr:TG:=[tT 0 [0,2,4,6],tT 1 [0,2,4,6,7],tT 2 [0,2,4,6,7,8,9],tT 3 [0,2,6,7,8,9,10],tT 4 [0,2,6,7,8,9,10,11],tT 5 [0,2,6,7,9,11,12],tT 6 [0,2,6,7,9,12,13],tT 7 [0,2,6,7,9,12,13,14],tT 8 [0,6,7,9,12,13,14,58],tT 9 [0,6],tT 10 [0,6]]
def az7:aq:=aw Pg Tryz.f205 aCr aC
abbrev Sl:Type 1:=(α:Type)->Int->Int->Int->Int->Int->Int->Int->ae->Int->Int->Bool->(I4 (Op α))->Op α
def YW (α:Type)(G b c d e H I:Int)(a:ae)(g h:Int)(m:Bool)(k1:I4 (Op α)):Op α:=
 jr α G b c d e a g h 0
 (fun i j l J=>CR α J b c d e H I a g h m
 (fun L M N O P Q R T U V W X Y Z a0 a1=>jr α a1 b c d e a g h (w64 (((List.length a:Nat):Int)+1))
 (fun o p q a2=>ci α a2 O P Q o p q
 (fun a3 a4 a5 a6=>eE α a6 L M N a3 a4 a5
 (fun a7 a8 a9 b0=>ci α b0 V W X o p q
 (fun b1 b2 b3 b4=>eE α b4 R T U b1 b2 b3
 (fun r s t b5=>ci α b5 i j l a7 a8 a9
 (fun w z A b6=>eE α b6 w z A r s t
 (fun B C D F=>cK m
 (eE α F i j l i j l
 (fun b7 b8 b9 c0=>ci α c0 b7 b8 b9 Y Z a0
 (fun c1 c2 c3 c4=>kQ α c4 c1 c2 c3 B C D
 (fun c5 c6 c7 c8=>k1 c5 c6 c7 c8))))
 (mw α F w z A r s t
 (fun c9 d0 d1 d2=>kQ α d2 c9 d0 d1 B C D
 (fun d3 d4 d5 d6=>k1 d3 d4 d5 d6))))))))))))
def xj:Sl:=sld YW
def Xg (v:Sl)(α:Type)(k:RT α):Int->Int->Int->Int->Int->Int->Int->ae->Int->Int->Bool->Op α:=fun a b c d e g h i j l m=>v α a b c d e g h i j l m (fun o p q r=>ee k o p q r)
theorem ap0:ak Pg 205 76 ⟨A4,Xg xj⟩:=iP ayY az7 (ah Tryz.func205 (by kernel_rfl)) aGu fun _ _=>by kernel_rfl
def aEn:SG:=[(23,[.cpx .f64,.int .i64]),(25,[.cpx .f64,.int .i64]),(34,[.cpx .f64,.int .i64]),(36,[.cpx .f64,.int .i64]),(41,[.cpx .f64,.int .i64]),(42,[.cpx .f64,.int .i64]),(47,[.cpx .f64,.int .i64]),(48,[.cpx .f64,.int .i64]),(50,[.cpx .f64,.int .i64]),(51,[.cpx .f64,.int .i64]),(52,[.cpx .f64,.int .i64]),(53,[.cpx .f64,.int .i64])]
def aAT:TG:=[tT 0 [0,4,5,6],tT 1 [0,4,5,6,7],tT 2 [0,4,5,6,7,8],tT 3 [0,4,6,8,9],tT 4 [0,4,6,8,9,10],tT 5 [0,6,8,10,11],tT 6 [0,6]]
def aF8:aq:=aw Pg Tryz.f184 aAT aC
noncomputable abbrev amU:List bA:=⟨156,11,[⟨ib,V3 pu⟩]⟩::⟨159,55,[⟨hP,WS xH⟩]⟩::⟨205,76,[⟨A4,Xg xj⟩]⟩::⟨183,51,[⟨Qm,Xr yp⟩]⟩::aqH
theorem azG:bG amU fun c=>bG c.l (ak Pg c.f c.nt):=⟨⟨as9,trivial⟩,⟨ao6,trivial⟩,⟨ap0,trivial⟩,⟨aus,trivial⟩,ayD⟩
def aIL:aE:=aE.ofIO amU bt io0
theorem ayv:aIL.Ok Pg:=aE.ofIO_ok aN azG
abbrev UG:Type 1:=(α:Type)->Int->Nat->Nat->Int->Nat->Nat->Int->(Nat->Nat->Int->Nat->Nat->Int->Nat->Nat->Int->Nat->Nat->Int->Int->Op α)->Op α
def UL (α:Type)(s:Int)(a b:Nat)(c:Int)(d e:Nat)(g:Int)(k1:Nat->Nat->Int->Nat->Nat->Int->Nat->Nat->Int->Nat->Nat->Int->Int->Op α):Op α:=
 yv α s 1 2
 (fun h i j t=>mX α
 (fw α t 4697254411347427328 0 0 d e g
 (fun w z A B=>cO α B w z A h i j
 (fun l m o C=>mX α
 (pD α C 4697254411347427328 0 0 d e g
 (fun D F G H=>cO α H D F G h i j
 (fun p q r I=>pu α I p q r a b c
 (fun J L M N=>cO α N p q r a b c
 (fun O P Q R=>k1 l m o J L M O P Q l m o R)))))))))
def yu:UG:=sld UL
def Wf (v:UG)(α:Type)(k:RT α):Int->Int->Int->Int->Int->Int->Int->ae->Int->Int->Nat->Nat->Int->Nat->Nat->Int->Op α:=fun a b c d e g h i j l m o p q r s=>v α a m o p q r s (fun t w z A B C D F G H I J L=>FN k t w z A B C D F G H I J L b c d e g h i j l)
theorem am3:ak Pg 184 55 ⟨ib,Wf yu⟩:=iP ayv aF8 (ah Tryz.func184 (by kernel_rfl)) aEn fun _ _=>by kernel_rfl
def aAz:SG:=[(22,iT),(28,iT),(36,iT),(42,iT),(50,[.cpx .f64,.int .i64]),(51,[.cpx .f64,.int .i64]),(56,[.cpx .f64,.int .i64]),(60,[.cpx .f64,.int .i64]),(61,[.cpx .f64,.int .i64]),(76,iT),(82,[.cpx .f64,.int .i64]),(90,[.cpx .f64,.int .i64]),(97,iT),(103,iS 2),(109,iT)]
def aFb:TG:=[tT 0 [0,1,4],tT 1 [0,1,4,6],tT 2 [0,1,4,6,7],tT 3 [0,1,4,7,8],tT 4 [0,1,4,8],tT 5 [0,4,8,10],tT 6 [0,4,8,71],tT 7 [0,4,8,77],tT 8 [0,4,5],tT 9 [0,4,5],tT 10 [0,4,11],tT 11 [0,4,11,98],tT 12 [0,4,5],tT 13 [0,4,5]]
def aBL:aq:=aw Pg Tryz.f131 aFb aC
def aa0:PT (List RV):=pRs [pR true [rD (dX .f64),rD (dI .i64)],pR false [rD dB],pR true [rD (dI .i64),rD (dI .i64),rD (dI .i64),rD (dI .i64),rD (dI .i64),rD (dI .i64),rD (dI .i64),rD dL,rD (dI .i64),rD (dI .i64)]]
def aab {β:Type}(g:List RV->β):Nat->Nat->Int->Bool->Int->Int->Int->Int->Int->Int->Int->ae->Int->Int->β:=aa0.unc g
def azX:aE:=aE.ofIO (⟨164,57,[⟨ba,QD xR⟩]⟩::amU) bt io0
theorem auN:azX.Ok Pg:=aE.ofIO_ok aN ⟨⟨aoj,trivial⟩,azG⟩
abbrev Q3:Type 1:=(α:Type)->Int->Int->Int->Int->ae->Int->Int->Int->(Nat->Nat->Int->Bool->Int->Op α)->Op α
def RP (α:Type)(w a z A:Int)(c:ae)(d e g:Int)(k1:Nat->Nat->Int->Bool->Int->Op α):Op α:=
 xH α w a c d e g
 (fun h i j B=>jJ α (w64 ((w64 (a*z))*1048576)) 100000000
 (fun C=>nd α (w64 ((w64 (a*A))*1048576)) 100000000
 (fun D=>pJ α B C D
 (fun l m o F=>cO α F h i j h i j
 (fun G H I J=>cO α J l m o l m o
 (fun L M N O=>pD α O G H I L M N
 (fun p q r b=>sA α a c d e g
 (fun a0 a1 P=>cK (P != 0)
 (cK (b != 0)
 (k1 0 0 0 false b)
 (yd α p q r
 (fun Q R T U=>dM α
 (k1 Q R T false U))))
 (nH α b p q r
 (fun s V a2 a3 t=>cK (t != 0)
 (k1 0 0 0 false t)
 (xR α s V
 (fun W X Y Z=>dM α
 (k1 W X Y (decide (s < 0)) Z)))))))))))))
def ss:Q3:=sld RP
def ZF (v:Q3)(α:Type)(k:RT α):Int->Int->Int->Int->Int->Int->Int->ae->Int->Int->Int->Op α:=fun h a b c i j l d e g m=>v α h a b c d e g m (fun o p q r s=>aab k o p q r s a b c i j l d e g)
theorem anI:ak Pg 131 111 ⟨hP,ZF ss⟩:=iP auN aBL (ah Tryz.func131 (by kernel_rfl)) aAz fun _ _=>by kernel_rfl
def av8:SG:=[(9,[.int .i64,.int .i64,.int .i64,.int .i64,.int .i64,.int .i64,.sl,.int .i64,.int .i64]),(11,iS 3),(15,iT)]
def aIp:TG:=[tT 0 [1,2],tT 1 [1,2,4],tT 2 [2,4,5],tT 3 [2,3]]
def aEy:aq:=aw Pg Tryz.f171 aIp aC
abbrev Aj:Type 1:=(α:Type)->Int->Int->Int->Int->Int->Int->ae->Int->Int->(I4 (Op α))->Op α
def IE (α:Type)(a b c d e g:Int)(h:ae)(i j:Int)(k1:I4 (Op α)):Op α:=
 xj α 0 a b c d e g h i j true
 (fun l m o p=>k1 l m o p)
def Da:Aj:=sld IE
def Ty (v:Aj)(α:Type)(k:RT α):Int->Int->Int->Int->Int->Int->ae->Int->Int->Op α:=fun a b c d e g h i j=>v α a b c d e g h i j (fun l m o p=>bD k l m o p)
theorem asc:ak Pg 171 16 ⟨eV,Ty Da⟩:=iP ayv aEy (ah Tryz.func171 (by kernel_rfl)) av8 fun _ _=>by kernel_rfl
def aDq:TG:=[tT 0 [1,2],tT 1 [1,2,4],tT 2 [2,4,5],tT 3 [2,3]]
def aAL:aq:=aw Pg Tryz.f170 aDq aC
def Zb (α:Type)(a b c d e g:Int)(h:ae)(i j:Int)(k1:I4 (Op α)):Op α:=
 xj α 0 a b c d e g h i j false
 (fun l m o p=>k1 l m o p)
def JP:Aj:=sld Zb
def Sz (v:Aj)(α:Type)(k:RT α):Int->Int->Int->Int->Int->Int->ae->Int->Int->Op α:=fun a b c d e g h i j=>v α a b c d e g h i j (fun l m o p=>bD k l m o p)
theorem aqQ:ak Pg 170 16 ⟨eV,Sz JP⟩:=iP ayv aAL (ah Tryz.func170 (by kernel_rfl)) av8 fun _ _=>by kernel_rfl
end
end Go.AM.K
