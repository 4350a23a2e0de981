/- Printed by KGen. -/
import Derived.Test.YtffcelhcekillaaGreatRe
namespace Go.AM.K
open Go.Proofs
set_option maxRecDepth 100000
set_option linter.unusedVariables false
noncomputable section
def aGj:SG:=[(6,[.cpx .f64,.int .i64])]
def aF9:TG:=[tT 0 [2,3,4],tT 1 [4,5]]
def aAk:ap:=aw Pg Tryz.f192 aF9 aC
def ayN:aE:=aE.ofIO (⟨194,31,[⟨VZ,R9 IV⟩]⟩::Lk9) bw io0
theorem asj:ayN.Ok Pg:=aE.ofIO_ok aO ⟨⟨arE,trivial⟩,ak9⟩
def Xf (α:Type)(a b:Nat)(c d:Int)(k1:Nat->Nat->Int->Int->Op α):Op α:=
 IV α a b c d
 (fun e g h i=>k1 e g h i)
def r8:AI:=sld Xf
def YT:PT (List DV):=pA [pV true [(dX .f64),(dI .i64)],vI]
def Rv (v:AI)(α:Type)(k:RT α):Nat->Nat->Int->Int->Op α:=fun a b c d=>v α a b c d (fun e g h i=>bB k e g h i)
theorem anU:ak Pg 192 11 ⟨YT,Rv r8⟩:=iP asj aAk (ah Tryz.func192 (by kernel_rfl)) aGj fun _ _=>by kernel_rfl
def aC3:SG:=[(14,[.int .i64,.int .i64,.int .i64,.int .i64,.int .i64,.int .i64,.sl,.int .i64,.int .i64]),(22,iT),(26,[.int .i64,.int .i64,.int .i64,.int .i64,.int .i64,.int .i64,.sl,.int .i64,.int .i64]),(32,iS 3),(37,iS 3),(38,iS 3),(42,iS 2),(47,iS 3),(49,iT)]
def aFd:TG:=[tT 0 [0,2,4,6,7],tT 1 [0,2,4,6,7,9,10],tT 2 [0,2,4,6,7,9,10,23],tT 3 [0,6,7,8],tT 4 [0,6,7,9,10,30],tT 5 [0,6,7,8],tT 6 [0,6,7,9,11],tT 7 [0,6,7,8]]
def aCH:ap:=aw Pg Tryz.f173 aFd aC
def abm:PT (List RV):=pRs [pR true [rD (dI .i64),rD (dI .i64),rD (dI .i64)],pR true [rD (dI .i64),rD (dI .i64),rD (dI .i64)],pR false [rD dB],pR true [rD (dI .i64)]]
def abX {β:Type}(g:List RV->β):Int->Int->Int->Int->Int->Int->Bool->Int->β:=abm.unc g
abbrev TI:Type 1:=(α:Type)->Int->Int->Int->Int->ae->Int->Int->Int->(Int->Int->Int->Int->Int->Int->Bool->Int->Op α)->Op α
def TJ (α:Type)(q b r s:Int)(c:ae)(d e g:Int)(k1:Int->Int->Int->Int->Int->Int->Bool->Int->Op α):Op α:=
 C5 α q b r s c d e g
 (fun h i j l m o a=>cK (a != 0)
 (k1 0 0 0 0 0 0 false a)
 (rY α b c d e g
 (fun R T U V t=>cK (t != 0)
 (xr α l m o
 (fun w z A B=>du α a w z A B
 (fun C D F G=>k1 C D F h i j false G)))
 (nT α l m o
 (fun p H W X=>xy α p H
 (fun I J L M=>du α a I J L M
 (fun N O P Q=>k1 N O P h i j (decide (p < 0)) Q)))))))
def nZ:TI:=sld TJ
def Rb (v:TI)(α:Type)(k:RT α):Int->Int->Int->Int->Int->Int->Int->ae->Int->Int->Int->Op α:=fun a b c d t w z e g h i=>v α a b c d e g h i (fun j l m o p q r s=>abX k j l m o p q r s)
theorem aqs:ak Pg 173 51 ⟨hF,Rb nZ⟩:=iP ek9 aCH (ah Tryz.func173 (by kernel_rfl)) aC3 fun _ _=>by kernel_rfl
def ST:SG:=[(11,[.cpx .f64,.int .i64]),(19,[.cpx .f64,.int .i64])]
def aD9:TG:=[tT 0 [3,4,5,6],tT 1 [4,5,6,8,9],tT 2 [4,5,6,8,9,16],tT 3 [6,7],tT 4 [6,7]]
def Rw:ap:=aw Pg Tryz.f216 aD9 aC
def axz:aE:=aE.ofIO (⟨194,31,[⟨QZ,Xz I0⟩]⟩::Lk9) bw io0
theorem apX:axz.Ok Pg:=aE.ofIO_ok aO ⟨⟨ati,trivial⟩,ak9⟩
abbrev dZ:Type 1:=(α:Type)->Nat->Nat->Int->Nat->Nat->Int->(Nat->Nat->Int->Int->Op α)->Op α
def Wv (α:Type)(c d:Nat)(a:Int)(e g:Nat)(h:Int)(k1:Nat->Nat->Int->Int->Op α):Op α:=
 eZ α c d a
 (fun i j b=>cK (b != 0)
 (k1 0 0 0 b)
 (I0 α e g h i j a
 (fun l m o p=>k1 l m o p)))
def JO:dZ:=sld Wv
def Rx:PT (List DV):=pA [pV true [(dX .f64),(dI .i64)],pV true [(dX .f64),(dI .i64)],pV false [(dFn 217 [])]]
def YV (v:dZ)(α:Type)(k:RT α):Nat->Nat->Int->Nat->Nat->Int->Op α:=fun a b c d e g=>v α a b c d e g (fun h i j l=>bB k h i j l)
theorem atx:ak Pg 216 24 ⟨Rx,YV JO⟩:=iP apX Rw (ah Tryz.func216 (by kernel_rfl)) ST fun _ _=>by kernel_rfl
def azj:aE:=aE.ofIO (⟨194,31,[⟨PY,Ym J8⟩]⟩::Lk9) bw io0
theorem anx:azj.Ok Pg:=aE.ofIO_ok aO ⟨⟨aqA,trivial⟩,ak9⟩
def Wc (α:Type)(c d:Nat)(a:Int)(e g:Nat)(h:Int)(k1:Nat->Nat->Int->Int->Op α):Op α:=
 eZ α c d a
 (fun i j b=>cK (b != 0)
 (k1 0 0 0 b)
 (J8 α e g h i j a
 (fun l m o p=>k1 l m o p)))
def H5:dZ:=sld Wc
def Qe:PT (List DV):=pA [pV true [(dX .f64),(dI .i64)],pV true [(dX .f64),(dI .i64)],pV false [(dFn 219 [])]]
def WO (v:dZ)(α:Type)(k:RT α):Nat->Nat->Int->Nat->Nat->Int->Op α:=fun a b c d e g=>v α a b c d e g (fun h i j l=>bB k h i j l)
theorem ans:ak Pg 216 24 ⟨Qe,WO H5⟩:=iP anx Rw (ah Tryz.func216 (by kernel_rfl)) ST fun _ _=>by kernel_rfl
def azo:aE:=aE.ofIO (⟨194,31,[⟨Sl,Y5 JE⟩]⟩::Lk9) bw io0
theorem apU:azo.Ok Pg:=aE.ofIO_ok aO ⟨⟨aoW,trivial⟩,ak9⟩
def Yx (α:Type)(c d:Nat)(a:Int)(e g:Nat)(h:Int)(k1:Nat->Nat->Int->Int->Op α):Op α:=
 eZ α c d a
 (fun i j b=>cK (b != 0)
 (k1 0 0 0 b)
 (JE α e g h i j a
 (fun l m o p=>k1 l m o p)))
def Ih:dZ:=sld Yx
def WS:PT (List DV):=pA [pV true [(dX .f64),(dI .i64)],pV true [(dX .f64),(dI .i64)],pV false [(dFn 227 [])]]
def Yf (v:dZ)(α:Type)(k:RT α):Nat->Nat->Int->Nat->Nat->Int->Op α:=fun a b c d e g=>v α a b c d e g (fun h i j l=>bB k h i j l)
theorem arz:ak Pg 216 24 ⟨WS,Yf Ih⟩:=iP apU Rw (ah Tryz.func216 (by kernel_rfl)) ST fun _ _=>by kernel_rfl
def ax5:aE:=aE.ofIO (⟨194,31,[⟨US,UQ Kc⟩]⟩::Lk9) bw io0
theorem at8:ax5.Ok Pg:=aE.ofIO_ok aO ⟨⟨atc,trivial⟩,ak9⟩
def Yk (α:Type)(c d:Nat)(a:Int)(e g:Nat)(h:Int)(k1:Nat->Nat->Int->Int->Op α):Op α:=
 eZ α c d a
 (fun i j b=>cK (b != 0)
 (k1 0 0 0 b)
 (Kc α e g h i j a
 (fun l m o p=>k1 l m o p)))
def IF:dZ:=sld Yk
def Tv:PT (List DV):=pA [pV true [(dX .f64),(dI .i64)],pV true [(dX .f64),(dI .i64)],pV false [(dFn 223 [])]]
def Y9 (v:dZ)(α:Type)(k:RT α):Nat->Nat->Int->Nat->Nat->Int->Op α:=fun a b c d e g=>v α a b c d e g (fun h i j l=>bB k h i j l)
theorem ast:ak Pg 216 24 ⟨Tv,Y9 IF⟩:=iP at8 Rw (ah Tryz.func216 (by kernel_rfl)) ST fun _ _=>by kernel_rfl
def avM:SG:=[(9,iS 2),(19,iT),(22,iT),(26,iT),(35,iT),(39,iT),(42,iT),(52,[.cpx .f64,.int .i64])]
def aEL:TG:=[tT 0 [1,2],tT 1 [1,2,5],tT 2 [1,2,5,14],tT 3 [2,3],tT 4 [1,2,17],tT 5 [2,3],tT 6 [1,2,33],tT 7 [2,6,7],tT 8 [2,6,7,49],tT 9 [2,3],tT 10 [2,3],tT 11 [2,3]]
def avE:ap:=aw Pg Tryz.f164 aEL aC
def Yn (α:Type)(a b:Int)(k1:Nat->Nat->Int->Int->Op α):Op α:=
 mV α a b
 (fun l m o c=>cK (c != 0)
 (k1 0 0 0 c)
 (cK (decide (0<=a))
 (eD α (w64 (a*1048576))
 (fun d=>pl α (w64 (b*1048576))
 (fun e=>mV α d e
 (fun g h i j=>k1 g h i j))))
 (cK (decide (b<=0))
 (none)
 (k1 0 0 0 14))))
def Bh:fN:=sld Yn
def Wo (v:fN)(α:Type)(k:RT α):Int->Int->Op α:=fun a b=>v α a b (fun c d e g=>bB k c d e g)
theorem asm:ak Pg 164 57 ⟨ba,Wo Bh⟩:=iP ek9 avE (ah Tryz.func164 (by kernel_rfl)) avM fun _ _=>by kernel_rfl
noncomputable abbrev aaf:List bE:=⟨164,57,[⟨ba,Wo Bh⟩]⟩::⟨192,11,[⟨YT,Rv r8⟩]⟩::⟨216,24,[⟨WS,Yf Ih⟩]⟩::⟨173,51,[⟨hF,Rb nZ⟩]⟩::⟨163,8,[⟨kz,Yr xO⟩]⟩::Lk9
theorem aei:bJ aaf fun c=>bJ c.l (ak Pg c.f c.nt):=⟨⟨asm,trivial⟩,⟨anU,trivial⟩,⟨arz,trivial⟩,⟨aqs,trivial⟩,⟨ash,trivial⟩,ak9⟩
def Pj:aE:=aE.ofIO aaf bw io0
theorem amJ:Pj.Ok Pg:=aE.ofIO_ok aO aei
def W7 (α:Type)(a b:Int)(k1:Nat->Nat->Int->Int->Op α):Op α:=
 mV α a b
 (fun w z A c=>cK (c != 0)
 (k1 0 0 0 c)
 (cK (decide (0<=a))
 (eD α (w64 (a*1048576))
 (fun e=>pl α (w64 (b*1048576))
 (fun g=>mV α e g
 (fun h i j l=>k1 h i j l))))
 (cK (decide (b<=0))
 (Bh α (w64 (0 - b)) (w64 (0 - a))
 (fun m o p d=>cK (d != 0)
 (k1 0 0 0 d)
 (r8 α m o p 1
 (fun q r s t=>k1 q r s t))))
 (k1 0 0 0 14))))
def xu:fN:=sld W7
def SJ (v:fN)(α:Type)(k:RT α):Int->Int->Op α:=fun a b=>v α a b (fun c d e g=>bB k c d e g)
theorem ao5:ak Pg 164 57 ⟨ba,SJ xu⟩:=iP amJ avE (ah Tryz.func164 (by kernel_rfl)) avM fun _ _=>by kernel_rfl
def TL:SG:=[(6,[.cpx .f64,.int .i64]),(7,[.cpx .f64,.int .i64])]
def aEj:TG:=[tT 0 [2,3,4],tT 1 [4,5]]
def aGb:ap:=aw Pg Tryz.f189 aEj aC
def RF (α:Type)(a b:Nat)(c:Int)(d e:Nat)(g:Int)(k1:Nat->Nat->Int->Int->Op α):Op α:=
 Ih α a b c d e g
 (fun h i j l=>k1 h i j l)
def BE:dZ:=sld RF
def kq:PT (List DV):=pA [pV true [(dX .f64),(dI .i64)],pV true [(dX .f64),(dI .i64)]]
def WD (v:dZ)(α:Type)(k:RT α):Nat->Nat->Int->Nat->Nat->Int->Op α:=fun a b c d e g=>v α a b c d e g (fun h i j l=>bB k h i j l)
theorem apz:ak Pg 189 11 ⟨kq,WD BE⟩:=iP amJ aGb (ah Tryz.func189 (by kernel_rfl)) TL fun _ _=>by kernel_rfl
def aGH:TG:=[tT 0 [2,3,4],tT 1 [4,5]]
def aEV:ap:=aw Pg Tryz.f187 aGH aC
def ayP:aE:=aE.ofIO (⟨216,24,[⟨Qe,WO H5⟩]⟩::aaf) bw io0
theorem an7:ayP.Ok Pg:=aE.ofIO_ok aO ⟨⟨ans,trivial⟩,aei⟩
def WY (α:Type)(a b:Nat)(c:Int)(d e:Nat)(g:Int)(k1:Nat->Nat->Int->Int->Op α):Op α:=
 H5 α a b c d e g
 (fun h i j l=>k1 h i j l)
def yf:dZ:=sld WY
def S2 (v:dZ)(α:Type)(k:RT α):Nat->Nat->Int->Nat->Nat->Int->Op α:=fun a b c d e g=>v α a b c d e g (fun h i j l=>bB k h i j l)
theorem arK:ak Pg 187 11 ⟨kq,S2 yf⟩:=iP an7 aEV (ah Tryz.func187 (by kernel_rfl)) TL fun _ _=>by kernel_rfl
def aB7:TG:=[tT 0 [2,3,4],tT 1 [4,5]]
def aAi:ap:=aw Pg Tryz.f186 aB7 aC
def awn:aE:=aE.ofIO (⟨216,24,[⟨Rx,YV JO⟩]⟩::aaf) bw io0
theorem at7:awn.Ok Pg:=aE.ofIO_ok aO ⟨⟨atx,trivial⟩,aei⟩
def X7 (α:Type)(a b:Nat)(c:Int)(d e:Nat)(g:Int)(k1:Nat->Nat->Int->Int->Op α):Op α:=
 JO α a b c d e g
 (fun h i j l=>k1 h i j l)
def DH:dZ:=sld X7
def Vr (v:dZ)(α:Type)(k:RT α):Nat->Nat->Int->Nat->Nat->Int->Op α:=fun a b c d e g=>v α a b c d e g (fun h i j l=>bB k h i j l)
theorem am3:ak Pg 186 11 ⟨kq,Vr DH⟩:=iP at7 aAi (ah Tryz.func186 (by kernel_rfl)) TL fun _ _=>by kernel_rfl
def Dq:SG:=[(16,[.int .i64,.int .i64,.int .i64,.int .i64,.int .i64,.int .i64,.sl,.int .i64,.int .i64]),(25,iT),(28,[.int .i64,.int .i64,.int .i64,.int .i64,.int .i64,.int .i64,.sl,.int .i64,.int .i64]),(31,iS 3),(34,iS 2),(37,iS 2),(41,iT),(49,iT),(65,iT),(69,iT),(73,iT),(78,iT),(82,iT),(86,iT),(90,iS 4)]
def aEM:TG:=[tT 0 [0,2,4,6],tT 1 [0,2,4,6,7,9],tT 2 [0,2,4,6,7,9,26],tT 3 [0,6],tT 4 [0,4,6,7,9,10],tT 5 [0,4,6,9,10,11],tT 6 [0,4,6,9,10,12],tT 7 [0,4,6,9,10,12,45],tT 8 [0,4,6,9,10,12],tT 9 [0,4,6,10,12,54],tT 10 [0,4,6,10,12],tT 11 [0,4,6,10,12,13],tT 12 [0,4,6,10,12,13,58],tT 14 [0,4,6,10,12,13],tT 13 [0,4,6,10,12,13],tT 15 [0,6]]
def aCS:TG:=[(12,⟨[0,4,6,10,12,13],true,[⟨true,4,6,30406,5⟩],[]⟩)]
def Dt:ap:=aw Pg Tryz.f277 aEM aCS
def aAA:OT:=tdC (ag.sub [1,1,1,1,1,1,1,1,0,1,0] (emb Dt))
def fc:PT St:=pSv [(0,500000000,0)] [sl 0 (aV false [(cC 500000000 0)]),sP 4,sP 6,sl 9 (aV false [(cD dB)]),sP 10,sP 12] [au 500000000 [xI],au 4 [xI,xI,xI,xI,xI,xI,(cD dL),xI,xI],au 6 (xs 4),au 10 (xs 5),au 12 (xs 4)]
def agV {β:Type}(g:St->β):Bool->Int->Int->Int->Int->Int->Int->Int->ae->I15 β:=fc.unc g
def lT:PT St:=pSv [(0,500000000,0)] [sl 0 (aV false [(cC 500000000 0)]),sP 4,sP 6,sl 9 (aV false [(cD dB)]),sP 10,sP 12,sl 45 (aV false [(cD dB)])] [au 500000000 [xI],au 4 [xI,xI,xI,xI,xI,xI,(cD dL),xI,xI],au 6 (xs 4),au 10 (xs 5),au 12 (xs 4)]
def N3 {β:Type}(g:St->β):Bool->Bool->Int->Int->Int->Int->Int->Int->Int->ae->I15 β:=lT.unc g
def ag0:PT St:=pSv [(0,500000000,0)] [sl 0 (aV false [(cC 500000000 0)]),sP 4,sP 6,sP 10,sP 12,sl 54 (aV false [(cD dB)])] [au 500000000 [xI],au 4 [xI,xI,xI,xI,xI,xI,(cD dL),xI,xI],au 6 (xs 4),au 10 (xs 5),au 12 (xs 4)]
def wD {β:Type}(g:St->β):Bool->Int->Int->Int->Int->Int->Int->Int->ae->I15 β:=ag0.unc g
def agm:PT St:=pSv [(0,500000000,0)] [sl 0 (aV false [(cC 500000000 0)]),sP 4,sP 6,sP 10,sP 12] [au 500000000 [xI],au 4 [xI,xI,xI,xI,xI,xI,(cD dL),xI,xI],au 6 (xs 4),au 10 (xs 5),au 12 (xs 4)]
def LB {β:Type}(g:St->β):Int->Int->Int->Int->Int->Int->Int->ae->I15 β:=agm.unc g
def ZO:PT (List RV):=pRs [pR true [rD (dI .i64),rD (dI .i64),rD (dI .i64),rD (dI .i64)],pR true [rD (dI .i64)]]
def abY {β:Type}(g:List RV->β):I5 β:=ZO.unc g
def FW:ag:=ag.sub [1,1,1,1,1,1,1,0,0] (emb Dt)
abbrev ji:Type 1:=(α:Type)->Bool->Int->(Bool->Op α)->Op α
def FU (α:Type)(a:Bool)(b:Int)(k1:Bool->Op α):Op α:=
 cK (b == 0)
 (k1 (!a))
 (k1 false)
def nV:ji:=sld FU
def Ea (v:ji)(α:Type)(K:KT α):Bool->Int->Int->Int->Int->Int->Int->Int->ae->I15 (Op α):=fun b c d e g h i j l m o p q r s t w z A a B C D F=>v α b a (fun G=>wD (K .normal) G c d e g h i j l m o p q r s t w z A a B C D F)
theorem afK:∀ (α:Type) (K:KT α),Ea nV α K=fc.unc fun σ=>az Pg Pj Dq FW K σ:=aY (fun α K=>by kernel_rfl)
def G4 (α:Type)(a:Bool)(b:Int)(k1:Bool->Op α):Op α:=
 cK (b == 0)
 (k1 (!a))
 (k1 false)
def oa:ji:=sld G4
def Cp (v:ji)(α:Type)(K:KT α):Bool->Bool->Int->Int->Int->Int->Int->Int->Int->ae->I15 (Op α):=fun b H c d e g h i j l m o p q r s t w z A a B C D F=>v α b a (fun G=>wD (K .normal) G c d e g h i j l m o p q r s t w z A a B C D F)
theorem aiz:∀ (α:Type) (K:KT α),Cp oa α K=lT.unc fun σ=>az Pg Pj Dq FW K σ:=aY (fun α K=>by kernel_rfl)
def GQ:ag:=ag.sub [1,1,1,1,1,1,1,0] (ag.put (.m [⟨fc,Ea nV⟩,⟨lT,Cp oa⟩]) [1,1,1,1,1,1,1,0] (emb Dt))
abbrev jh:Type 1:=(α:Type)->Bool->Int->(Op α)->(Bool->Op α)->Op α
def Fd (α:Type)(b:Bool)(c:Int)(k1:Op α)(k2:Bool->Op α):Op α:=
 nV α b c
 (fun a=>cK a
 (k1)
 (k2 a))
def oz:jh:=sld Fd
def KZ (v:jh)(α:Type)(K:KT α):Bool->Int->Int->Int->Int->Int->Int->Int->ae->I15 (Op α):=fun C b c d e g h i j l m o p q r s t w z a A B D F=>v α C a (LB (K .normal) b c d e g h i j l m o p q r s t w z a A B 0 0) (fun G=>wD (K .normal) G b c d e g h i j l m o p q r s t w z a A B D F)
theorem afC:∀ (α:Type) (K:KT α),KZ oz α K=fc.unc fun σ=>az Pg Pj Dq GQ K σ:=aY (fun α K=>by kernel_rfl)
def EX (α:Type)(b:Bool)(c:Int)(k1:Op α)(k2:Bool->Op α):Op α:=
 oa α b c
 (fun a=>cK a
 (k1)
 (k2 a))
def pN:jh:=sld EX
def Ny (v:jh)(α:Type)(K:KT α):Bool->Bool->Int->Int->Int->Int->Int->Int->Int->ae->I15 (Op α):=fun C H b c d e g h i j l m o p q r s t w z a A B D F=>v α C a (LB (K .normal) b c d e g h i j l m o p q r s t w z a A B 0 0) (fun G=>wD (K .normal) G b c d e g h i j l m o p q r s t w z a A B D F)
theorem aj3:∀ (α:Type) (K:KT α),Ny pN α K=lT.unc fun σ=>az Pg Pj Dq GQ K σ:=aY (fun α K=>by kernel_rfl)
def Z9:ag:=ag.sub [1,1,1,1,1,1,0,0] (emb Dt)
def Gd (α:Type)(a:Bool)(b:Int)(k1:Bool->Op α):Op α:=
 cK (b == 0)
 (k1 a)
 (k1 false)
def pu:ji:=sld Gd
def DU (v:ji)(α:Type)(K:KT α):Bool->Int->Int->Int->Int->Int->Int->Int->ae->I15 (Op α):=fun a c d e g h i j l m o p q r s t w z A b B C D F=>v α a b (fun G=>N3 (K .normal) a G c d e g h i j l m o p q r s t w z A b B C D F)
theorem adU:∀ (α:Type) (K:KT α),DU pu α K=fc.unc fun σ=>az Pg Pj Dq Z9 K σ:=aY (fun α K=>by kernel_rfl)
def ZP:ag:=ag.sub [1,1,1,1,1,1,0] (ag.put (.m [⟨fc,DU pu⟩]) [1,1,1,1,1,1,0] (emb Dt))
def Fm (α:Type)(b:Bool)(c:Int)(k1:Op α)(k2:Bool->Op α):Op α:=
 pu α b c
 (fun a=>cK a
 (k1)
 (k2 a))
def oC:jh:=sld Fm
def L8 (v:jh)(α:Type)(K:KT α):Bool->Int->Int->Int->Int->Int->Int->Int->ae->I15 (Op α):=fun a c d e g h i j l m o p q r s t w z A b D F B C=>v α a b (agV (K .normal) a c d e g h i j l m o p q r s t w z A b 0 0 B C) (fun G=>N3 (K .normal) a G c d e g h i j l m o p q r s t w z A b D F B C)
theorem aij:∀ (α:Type) (K:KT α),L8 oC α K=fc.unc fun σ=>az Pg Pj Dq ZP K σ:=aY (fun α K=>by kernel_rfl)
abbrev Ak:Type 1:=(α:Type)->Int->Int->Int->Int->Int->Int->ae->Int->Int->Int->(I5 (Op α))->Op α
def Sn (α:Type)(t i w z a b:Int)(j:ae)(l m o:Int)(k1:I5 (Op α)):Op α:=
 nZ α t i w z j l m o
 (fun A B C a0 a1 a2 g e=>cK (e != 0)
 (k1 0 0 0 0 e)
 (rY α i j l m o
 (fun a3 a4 c d h=>nT α A B C
 (fun D F G H=>r7 α D F
 (fun p q=>r7 α G H
 (fun r s=>oC α g h
 (oz α g h
 (dC α (w64 (0*c)) b
 (fun I=>cy α (w64 (0*d)) a
 (fun J=>dC α (w64 (0*c)) b
 (fun L=>cy α (w64 (0*d)) a
 (fun M=>k1 I J L M e)))))
 (fun a5=>dC α (w64 (0*c)) b
 (fun N=>cy α (w64 (0*d)) a
 (fun O=>dC α (w64 ((w64 (4*r))*c)) b
 (fun P=>cy α (w64 ((w64 (4*s))*d)) a
 (fun Q=>k1 N O P Q e))))))
 (fun a6=>pN α g h
 (dC α (w64 ((w64 (4*p))*c)) b
 (fun R=>cy α (w64 ((w64 (4*q))*d)) a
 (fun T=>dC α (w64 (0*c)) b
 (fun U=>cy α (w64 (0*d)) a
 (fun V=>k1 R T U V e)))))
 (fun a7=>dC α (w64 ((w64 (4*p))*c)) b
 (fun W=>cy α (w64 ((w64 (4*q))*d)) a
 (fun X=>dC α (w64 ((w64 (4*r))*c)) b
 (fun Y=>cy α (w64 ((w64 (4*s))*d)) a
 (fun Z=>k1 W X Y Z e))))))))))))
def A7:Ak:=sld Sn
def VG (v:Ak)(α:Type)(k:RT α):Int->Int->Int->Int->Int->Int->Int->ae->Int->Int->Int->Op α:=fun a b c d s e g h i j l=>v α a b c d e g h i j l (fun m o p q r=>abY k m o p q r)
def app:ag:=(ag.put (.m [⟨fc,L8 oC⟩]) [1,1,1,1,1,1] (ag.put (.m [⟨fc,DU pu⟩]) [1,1,1,1,1,1,0] (ag.put (.m [⟨fc,KZ oz⟩,⟨lT,Ny pN⟩]) [1,1,1,1,1,1,1] (ag.put (.m [⟨fc,Ea nV⟩,⟨lT,Cp oa⟩]) [1,1,1,1,1,1,1,0] (ag.put (.u 3) [1,1,1,1,1,1,1,1,0,1,0] (emb Dt))))))
theorem aqg:ak Pg 277 91 ⟨hF,VG A7⟩:=iZ amJ (ah Tryz.func277 (by kernel_rfl)) Dq app ((an _ _).trans ((an _ _).trans ((an _ _).trans ((an _ _).trans ((an _ _).trans (aA _)))))) (aL (by kernel_rfl) (aL (by kernel_rfl) (aL (by kernel_rfl) (aL (by kernel_rfl) (E3 (by decide) (aD Dt)) ⟨afK,aiz,trivial⟩) ⟨afC,aj3,trivial⟩) ⟨adU,trivial⟩) ⟨aij,trivial⟩) fun _ _=>by kernel_rfl
def aBX:SG:=[(12,[.int .i64,.int .i64,.int .i64,.int .i64,.int .i64,.int .i64,.sl,.int .i64,.int .i64]),(19,iT),(21,iS 3),(23,iS 3),(24,iS 3)]
def aEx:TG:=[tT 0 [0,2,4,6],tT 1 [0,4,6,7,8],tT 2 [0,6,7,8,20],tT 3 [0,6],tT 4 [0,6]]
def aCE:ap:=aw Pg Tryz.f172 aEx aC
abbrev SO:Type 1:=(α:Type)->Int->Int->Int->Int->Int->ae->Int->Int->Int->(I4 (Op α))->Op α
def Sy (α:Type)(e g h i j:Int)(l:ae)(m o p:Int)(k1:I4 (Op α)):Op α:=
 nZ α e g h i l m o p
 (fun a b c q r s B d=>cK (j == 0)
 (k1 a b c d)
 (kZ α d q r s a b c
 (fun t w z A=>k1 t w z A)))
def jz:SO:=sld Sy
def Xy (v:SO)(α:Type)(k:RT α):Int->Int->Int->Int->Int->Int->Int->ae->Int->Int->Int->Op α:=fun a b c d e q r g h i j=>v α a b c d e g h i j (fun l m o p=>ed k l m o p)
theorem ana:ak Pg 172 26 ⟨hF,Xy jz⟩:=iP amJ aCE (ah Tryz.func172 (by kernel_rfl)) aBX fun _ _=>by kernel_rfl
def aGa:TG:=[tT 0 [2,3,4],tT 1 [4,5]]
def aAW:ap:=aw Pg Tryz.f188 aGa aC
def ay5:aE:=aE.ofIO (⟨216,24,[⟨Tv,Y9 IF⟩]⟩::aaf) bw io0
theorem aqe:ay5.Ok Pg:=aE.ofIO_ok aO ⟨⟨ast,trivial⟩,aei⟩
def We (α:Type)(a b:Nat)(c:Int)(d e:Nat)(g:Int)(k1:Nat->Nat->Int->Int->Op α):Op α:=
 IF α a b c d e g
 (fun h i j l=>k1 h i j l)
def B6:dZ:=sld We
def UJ (v:dZ)(α:Type)(k:RT α):Nat->Nat->Int->Nat->Nat->Int->Op α:=fun a b c d e g=>v α a b c d e g (fun h i j l=>bB k h i j l)
theorem aoo:ak Pg 188 11 ⟨kq,UJ B6⟩:=iP aqe aAW (ah Tryz.func188 (by kernel_rfl)) TL fun _ _=>by kernel_rfl
def avf:SG:=[(11,[.int .i64,.int .i64,.int .i64,.int .i64,.int .i64,.int .i64,.sl,.int .i64,.int .i64]),(15,iS 4),(18,iS 4)]
def aFD:TG:=[tT 0 [0,2,3,5,8],tT 1 [0,3,8,9],tT 2 [0,8,9,14],tT 3 [0,8,9],tT 4 [0,8]]
def ah5:ap:=aw Pg Tryz.f262 aFD aC
def C3:PT St:=pSv [(0,500000000,0)] [sl 0 (aV false [(cC 500000000 0)]),sl 3 (aV false [(cD dB)]),sP 8,sP 9] [au 500000000 [xI],au 8 (xs 3),au 9 (xs 4)]
def aDg {β:Type}(g:St->β):Bool->I8 β:=C3.unc g
def afU:PT St:=pSv [(0,500000000,0)] [sl 0 (aV false [(cC 500000000 0)]),sP 8,sP 9] [au 500000000 [xI],au 8 (xs 3),au 9 (xs 4)]
def ake {β:Type}(g:St->β):I8 β:=afU.unc g
def aju:PT St:=pSv [(0,500000000,0)] [sl 0 (aV false [(cC 500000000 0)]),sP 8,sP 9,sl 14 (aV false [(cD dB)])] [au 500000000 [xI],au 8 (xs 3),au 9 (xs 4)]
def acD {β:Type}(g:St->β):Bool->I8 β:=aju.unc g
noncomputable abbrev ayr:List bE:=⟨277,91,[⟨hF,VG A7⟩]⟩::⟨186,11,[⟨kq,Vr DH⟩]⟩::⟨187,11,[⟨kq,S2 yf⟩]⟩::⟨189,11,[⟨kq,WD BE⟩]⟩::⟨188,11,[⟨kq,UJ B6⟩]⟩::⟨172,26,[⟨hF,Xy jz⟩]⟩::aaf
theorem aFH:bJ ayr fun c=>bJ c.l (ak Pg c.f c.nt):=⟨⟨aqg,trivial⟩,⟨am3,trivial⟩,⟨arK,trivial⟩,⟨apz,trivial⟩,⟨aoo,trivial⟩,⟨ana,trivial⟩,aei⟩
def aAE:aE:=aE.ofIO ayr bw io0
theorem agT:aAE.Ok Pg:=aE.ofIO_ok aO aFH
def ae7:ag:=ag.sub [1,1,0] (emb ah5)
abbrev FA:Type 1:=(α:Type)->Bool->Int->Int->Int->Int->(I4 (Op α))->(Op α)->Op α
def yb (α:Type)(a:Bool)(b c d e:Int)(k1:I4 (Op α))(k2:Op α):Op α:=
 cK a
 (IN α b c d e
 (fun g h i j=>k1 g h i j))
 (k2)
def nC:FA:=sld yb
def NW (v:FA)(α:Type)(K:KT α):Bool->I8 (Op α):=fun a b c d e g h i j=>v α a g h i j (fun l m o p=>ake (K .normal) b c d e l m o p) (acD (K .normal) a b c d e g h i j)
theorem akF:∀ (α:Type) (K:KT α),NW nC α K=C3.unc fun σ=>az Pg aAE avf ae7 K σ:=aY (fun α K=>by kernel_rfl)
abbrev Vn:Type 1:=(α:Type)->Int->Int->Int->Int->Int->Int->ae->Int->Int->Int->Bool->(I4 (Op α))->Op α
def IG (α:Type)(g h i j l m:Int)(o:ae)(p q r:Int)(s:Bool)(k1:I4 (Op α)):Op α:=
 A7 α g h i j l m o p q r
 (fun a b c d e=>nC α s a b c d
 (fun t w z A=>yG α e t w z A
 (fun B C D F=>k1 B C D F))
 (yG α e a b c d
 (fun G H I J=>k1 G H I J)))
def kS:Vn:=sld IG
def SV:PT (List DV):=pA [pV false [(dMr [(dI .i64)] 0)],pV true [(dI .i64),(dI .i64),(dI .i64),(dI .i64),(dI .i64),(dI .i64),dL,(dI .i64),(dI .i64)],vI,pV false [dB]]
def Wj (v:Vn)(α:Type)(k:RT α):Int->Int->Int->Int->Int->Int->Int->ae->Int->Int->Int->Bool->Op α:=fun a b c d s e g h i j l m=>v α a b c d e g h i j l m (fun o p q r=>ed k o p q r)
def anJ:ag:=(ag.put (.m [⟨C3,NW nC⟩]) [1,1] (emb ah5))
theorem atv:ak Pg 262 20 ⟨SV,Wj kS⟩:=iZ agT (ah Tryz.func262 (by kernel_rfl)) avf anJ ((an _ _).trans (aA _)) (aL (by kernel_rfl) (aD ah5) ⟨akF,trivial⟩) fun _ _=>by kernel_rfl
def RG:SG:=[(12,iT),(17,[.cpx .f64,.int .i64]),(18,[.cpx .f64,.int .i64])]
def aAB:TG:=[tT 0 [0,1,6,7,8],tT 1 [0,1,6,7,8,13],tT 2 [0,8],tT 3 [0,8]]
def Qw:ap:=aw Pg Tryz.f185 aAB aC
abbrev dW:Type 1:=(α:Type)->Int->Nat->Nat->Int->Nat->Nat->Int->(Nat->Nat->Int->Int->Op α)->Op α
def UM (α:Type)(a:Int)(b c:Nat)(d:Int)(e g:Nat)(h:Int)(k1:Nat->Nat->Int->Int->Op α):Op α:=
 cK (a != 0)
 (k1 0 0 0 a)
 (DH α b c d e g h
 (fun i j l m=>dR α
 (k1 i j l m)))
def Il:dW:=sld UM
def XC:PT (List DV):=pA [pV false [(dMr [(dI .i64),(dI .i64),(dI .i64),(dI .i64),(dI .i64),(dI .i64),(dI .i64),dL,(dI .i64),(dI .i64)] 0)],pV false [(dFn 186 [])],pV true [(dX .f64),(dI .i64)],pV true [(dX .f64),(dI .i64)]]
def Zb (v:dW)(α:Type)(k:RT α):Int->Int->Int->Int->Int->Int->Int->ae->Int->Int->Nat->Nat->Int->Nat->Nat->Int->Op α:=fun a b c d e g h i j l m o p q r s=>v α a m o p q r s (fun t w z A=>cG k t w z A b c d e g h i j l)
theorem anf:ak Pg 185 23 ⟨XC,Zb Il⟩:=iP agT Qw (ah Tryz.func185 (by kernel_rfl)) RG fun _ _=>by kernel_rfl
def RR (α:Type)(a:Int)(b c:Nat)(d:Int)(e g:Nat)(h:Int)(k1:Nat->Nat->Int->Int->Op α):Op α:=
 cK (a != 0)
 (k1 0 0 0 a)
 (yf α b c d e g h
 (fun i j l m=>dR α
 (k1 i j l m)))
def JS:dW:=sld RR
def XY:PT (List DV):=pA [pV false [(dMr [(dI .i64),(dI .i64),(dI .i64),(dI .i64),(dI .i64),(dI .i64),(dI .i64),dL,(dI .i64),(dI .i64)] 0)],pV false [(dFn 187 [])],pV true [(dX .f64),(dI .i64)],pV true [(dX .f64),(dI .i64)]]
def UO (v:dW)(α:Type)(k:RT α):Int->Int->Int->Int->Int->Int->Int->ae->Int->Int->Nat->Nat->Int->Nat->Nat->Int->Op α:=fun a b c d e g h i j l m o p q r s=>v α a m o p q r s (fun t w z A=>cG k t w z A b c d e g h i j l)
theorem aqi:ak Pg 185 23 ⟨XY,UO JS⟩:=iP agT Qw (ah Tryz.func185 (by kernel_rfl)) RG fun _ _=>by kernel_rfl
def Qy (α:Type)(a:Int)(b c:Nat)(d:Int)(e g:Nat)(h:Int)(k1:Nat->Nat->Int->Int->Op α):Op α:=
 cK (a != 0)
 (k1 0 0 0 a)
 (BE α b c d e g h
 (fun i j l m=>dR α
 (k1 i j l m)))
def Jq:dW:=sld Qy
def YM:PT (List DV):=pA [pV false [(dMr [(dI .i64),(dI .i64),(dI .i64),(dI .i64),(dI .i64),(dI .i64),(dI .i64),dL,(dI .i64),(dI .i64)] 0)],pV false [(dFn 189 [])],pV true [(dX .f64),(dI .i64)],pV true [(dX .f64),(dI .i64)]]
def XP (v:dW)(α:Type)(k:RT α):Int->Int->Int->Int->Int->Int->Int->ae->Int->Int->Nat->Nat->Int->Nat->Nat->Int->Op α:=fun a b c d e g h i j l m o p q r s=>v α a m o p q r s (fun t w z A=>cG k t w z A b c d e g h i j l)
theorem anP:ak Pg 185 23 ⟨YM,XP Jq⟩:=iP agT Qw (ah Tryz.func185 (by kernel_rfl)) RG fun _ _=>by kernel_rfl
def So (α:Type)(a:Int)(b c:Nat)(d:Int)(e g:Nat)(h:Int)(k1:Nat->Nat->Int->Int->Op α):Op α:=
 cK (a != 0)
 (k1 0 0 0 a)
 (B6 α b c d e g h
 (fun i j l m=>dR α
 (k1 i j l m)))
def ID:dW:=sld So
def TB:PT (List DV):=pA [pV false [(dMr [(dI .i64),(dI .i64),(dI .i64),(dI .i64),(dI .i64),(dI .i64),(dI .i64),dL,(dI .i64),(dI .i64)] 0)],pV false [(dFn 188 [])],pV true [(dX .f64),(dI .i64)],pV true [(dX .f64),(dI .i64)]]
def QD (v:dW)(α:Type)(k:RT α):Int->Int->Int->Int->Int->Int->Int->ae->Int->Int->Nat->Nat->Int->Nat->Nat->Int->Op α:=fun a b c d e g h i j l m o p q r s=>v α a m o p q r s (fun t w z A=>cG k t w z A b c d e g h i j l)
theorem an1:ak Pg 185 23 ⟨TB,QD ID⟩:=iP agT Qw (ah Tryz.func185 (by kernel_rfl)) RG fun _ _=>by kernel_rfl
def QB:SG:=[(8,[.cpx .f64,.int .i64]),(9,[.cpx .f64,.int .i64])]
def aFU:TG:=[tT 0 [0,4,5,6],tT 1 [0,6]]
def aA5:ap:=aw Pg Tryz.f157 aFU aC
noncomputable abbrev ad4:List bE:=⟨185,23,[⟨YM,XP Jq⟩]⟩::⟨262,20,[⟨SV,Wj kS⟩]⟩::ayr
theorem am7:bJ ad4 fun c=>bJ c.l (ak Pg c.f c.nt):=⟨⟨anP,trivial⟩,⟨atv,trivial⟩,aFH⟩
def abA:aE:=aE.ofIO ad4 bw io0
theorem aDs:abA.Ok Pg:=aE.ofIO_ok aO am7
def S5 (α:Type)(a:Int)(b c:Nat)(d:Int)(e g:Nat)(h:Int)(k1:Nat->Nat->Int->Int->Op α):Op α:=
 Jq α a b c d e g h
 (fun i j l m=>k1 i j l m)
def ow:dW:=sld S5
def hP:PT (List DV):=pA [pV false [(dMr [(dI .i64),(dI .i64),(dI .i64),(dI .i64),(dI .i64),(dI .i64),(dI .i64),dL,(dI .i64),(dI .i64)] 0)],pV true [(dX .f64),(dI .i64)],pV true [(dX .f64),(dI .i64)]]
def Vb (v:dW)(α:Type)(k:RT α):Int->Int->Int->Int->Int->Int->Int->ae->Int->Int->Nat->Nat->Int->Nat->Nat->Int->Op α:=fun a b c d e g h i j l m o p q r s=>v α a m o p q r s (fun t w z A=>cG k t w z A b c d e g h i j l)
theorem anB:ak Pg 157 11 ⟨hP,Vb ow⟩:=iP aDs aA5 (ah Tryz.func157 (by kernel_rfl)) QB fun _ _=>by kernel_rfl
def aB2:TG:=[tT 0 [0,4,5,6],tT 1 [0,6]]
def aEw:ap:=aw Pg Tryz.f155 aB2 aC
def azb:aE:=aE.ofIO (⟨185,23,[⟨XY,UO JS⟩]⟩::ad4) bw io0
theorem aoS:azb.Ok Pg:=aE.ofIO_ok aO ⟨⟨aqi,trivial⟩,am7⟩
def P3 (α:Type)(a:Int)(b c:Nat)(d:Int)(e g:Nat)(h:Int)(k1:Nat->Nat->Int->Int->Op α):Op α:=
 JS α a b c d e g h
 (fun i j l m=>k1 i j l m)
def cR:dW:=sld P3
def Sb (v:dW)(α:Type)(k:RT α):Int->Int->Int->Int->Int->Int->Int->ae->Int->Int->Nat->Nat->Int->Nat->Nat->Int->Op α:=fun a b c d e g h i j l m o p q r s=>v α a m o p q r s (fun t w z A=>cG k t w z A b c d e g h i j l)
theorem asO:ak Pg 155 11 ⟨hP,Sb cR⟩:=iP aoS aEw (ah Tryz.func155 (by kernel_rfl)) QB fun _ _=>by kernel_rfl
def aB3:TG:=[tT 0 [0,4,5,6],tT 1 [0,6]]
def aG3:ap:=aw Pg Tryz.f154 aB3 aC
def azp:aE:=aE.ofIO (⟨185,23,[⟨XC,Zb Il⟩]⟩::ad4) bw io0
theorem aob:azp.Ok Pg:=aE.ofIO_ok aO ⟨⟨anf,trivial⟩,am7⟩
def Uh (α:Type)(a:Int)(b c:Nat)(d:Int)(e g:Nat)(h:Int)(k1:Nat->Nat->Int->Int->Op α):Op α:=
 Il α a b c d e g h
 (fun i j l m=>k1 i j l m)
def fw:dW:=sld Uh
def YP (v:dW)(α:Type)(k:RT α):Int->Int->Int->Int->Int->Int->Int->ae->Int->Int->Nat->Nat->Int->Nat->Nat->Int->Op α:=fun a b c d e g h i j l m o p q r s=>v α a m o p q r s (fun t w z A=>cG k t w z A b c d e g h i j l)
theorem amz:ak Pg 154 11 ⟨hP,YP fw⟩:=iP aob aG3 (ah Tryz.func154 (by kernel_rfl)) QB fun _ _=>by kernel_rfl
def HJ:SG:=[(21,[.sl]),(27,[.int .i64,.int .i64,.int .i64,.int .i64,.int .i64,.int .i64,.sl,.int .i64,.int .i64]),(31,[.int .i64,.int .i64,.int .i64,.int .i64,.int .i64,.int .i64,.sl,.int .i64,.int .i64]),(36,iS 3),(38,[.int .i64,.int .i64,.int .i64,.int .i64,.int .i64,.int .i64,.sl,.int .i64,.int .i64]),(43,iS 12),(45,iS 3),(46,iS 3),(52,iT),(56,iS 12),(57,iS 3)]
def aAL:TG:=[tT 0 [0,2,4,6,7],tT 1 [0,2,4,6,7,8,9],tT 2 [0,2,4,6,7,8,9,10],tT 3 [0,2,4,6,7,8,9,10,23],tT 5 [0,2,4,6,7,8,9,10,11],tT 6 [0,2,4,6,7,8,9,10,11,12],tT 7 [0,2,4,6,7,8,9,10,11,12,34],tT 8 [0,2,4,6,7,8,9,10,11,12],tT 9 [0,2,4,6,7,8,9,10],tT 10 [0,2,4,6,7,8,9,10,53],tT 11 [0,6,7],tT 4 [0,2,4,6,7,8,9,10],tT 12 [0,6,7]]
def aA4:TG:=[(3,⟨[0,2,4,6,7,8,9,10],true,[⟨true,4,6,30406,5⟩],[]⟩)]
def MP:ap:=aw Pg Tryz.f237 aAL aA4
def tY:OT:=tdC (ag.sub [1,1,0,1,0] (emb MP))
def tZ:PT St:=pSv [(0,500000000,0)] [sl 0 (aV false [(cC 500000000 0)]),sl 2 (aV false [(cD dB)]),sP 4,sP 6,sP 7,sP 8,sP 9,sI 10,sP 11,sP 12] [au 500000000 [xI],au 4 [xI,xI,xI,xI,xI,xI,(cD dL),xI,xI],au 6 (xs 12),au 7 (xs 3),au 8 (xs 12),au 9 (xs 3),au 11 (xs 3),au 12 (xs 3)]
def alb {β:Type}(g:St->β):Bool->Int->Int->Int->Int->Int->Int->Int->Int->ae->I38 β:=tZ.unc g
def adL:PT St:=pSv [(0,500000000,0)] [sl 0 (aV false [(cC 500000000 0)]),sl 2 (aV false [(cD dB)]),sP 4,sP 6,sP 7,sP 8,sP 9,sI 10,sP 11,sP 12,sl 34 (aV false [(cD dB)])] [au 500000000 [xI],au 4 [xI,xI,xI,xI,xI,xI,(cD dL),xI,xI],au 6 (xs 12),au 7 (xs 3),au 8 (xs 12),au 9 (xs 3),au 11 (xs 3),au 12 (xs 3)]
def aj6 {β:Type}(g:St->β):Bool->Int->Bool->Int->Int->Int->Int->Int->Int->Int->ae->I38 β:=adL.unc g
def Eh:PT St:=pSv [(0,500000000,0)] [sl 0 (aV false [(cC 500000000 0)]),sl 2 (aV false [(cD dB)]),sP 4,sP 6,sP 7,sP 8,sP 9,sI 10] [au 500000000 [xI],au 4 [xI,xI,xI,xI,xI,xI,(cD dL),xI,xI],au 6 (xs 12),au 7 (xs 3),au 8 (xs 12),au 9 (xs 3)]
def EL {β:Type}(g:St->β):Bool->Int->Int->Int->Int->Int->Int->Int->Int->ae->I32 β:=Eh.unc g
def aej:PT St:=pSv [(0,500000000,0)] [sl 0 (aV false [(cC 500000000 0)]),sP 6,sP 7] [au 500000000 [xI],au 6 (xs 12),au 7 (xs 3)]
def vC {β:Type}(g:St->β):I16 β:=aej.unc g
def ag6:PT St:=pSv [(0,500000000,0)] [sl 0 (aV false [(cC 500000000 0)]),sl 2 (aV false [(cD dB)]),sP 4,sP 6,sP 7,sP 8,sP 9,sI 10,sl 23 (aV false [(cD dB)])] [au 500000000 [xI],au 4 [xI,xI,xI,xI,xI,xI,(cD dL),xI,xI],au 6 (xs 12),au 7 (xs 3),au 8 (xs 12),au 9 (xs 3)]
def wU {β:Type}(g:St->β):Bool->Int->Bool->Int->Int->Int->Int->Int->Int->Int->ae->I32 β:=ag6.unc g
def ZV:PT (List RV):=pRs [pR true [rD (dI .i64),rD (dI .i64),rD (dI .i64),rD (dI .i64),rD (dI .i64),rD (dI .i64),rD (dI .i64),rD (dI .i64),rD (dI .i64),rD (dI .i64),rD (dI .i64),rD (dI .i64)],pR true [rD (dI .i64),rD (dI .i64),rD (dI .i64)],pR true [rD (dI .i64)]]
def abp {β:Type}(g:List RV->β):I16 β:=ZV.unc g
def aa2:ag:=ag.sub [1,1,0,1,0,0,1,0,0,1,1,0] (emb MP)
abbrev Gz:Type 1:=(α:Type)->Bool->Int->Int->Int->Int->Int->Int->Int->ae->Int->Int->Int->Int->Int->(I4 (Op α))->(Op α)->Op α
def Gj (α:Type)(a:Bool)(b c d e g h i:Int)(j:ae)(l m o p q:Int)(k1:I4 (Op α))(k2:Op α):Op α:=
 cK a
 (kS α c d e g h i j l m b false
 (fun r s t w=>ci α w o p q r s t
 (fun z A B C=>k1 C z A B)))
 (k2)
def oV:Gz:=sld Gj
def C0 (v:Gz)(α:Type)(K:KT α):Bool->Int->Int->Int->Int->Int->Int->Int->Int->ae->I38 (Op α):=fun a b m c d e o g h i j l p q r s t w z A B C D F G H I J L M N O P Q R T U V W X Y Z a0 a1 a2 a3 a4 a5=>v α a b m c d e g h i j l X Y Z (fun a6 a7 a8 a9=>alb (K .normal) a b a6 c d e o g h i j l p q r s t w z A B C D F G H I J L M N O P Q R T U V W a7 a8 a9 a0 a1 a2 a3 a4 a5) (aj6 (K .normal) a b a m c d e o g h i j l p q r s t w z A B C D F G H I J L M N O P Q R T U V W X Y Z a0 a1 a2 a3 a4 a5)
theorem aiN:∀ (α:Type) (K:KT α),C0 oV α K=tZ.unc fun σ=>az Pg abA HJ aa2 K σ:=aY (fun α K=>by kernel_rfl)
def tL:ag:=ag.sub [1,1,0,1,0,0] (ag.put (.m [⟨tZ,C0 oV⟩]) [1,1,0,1,0,0,1,0,0,1,1] (emb MP))
def o6 (α:Type)(R:Bool)(c d e T G H:Int)(b:ae)(g h a I i j l m o p q r s t w z A B C:Int)(kn:I17 (Op α))(k1:Int->Op α)(k2:Int->Bool->I16 (Op α)):Op α:=
 cK (decide (a<=((List.length b:Nat):Int)))
 (jz α I c d e T b g h a
 (fun J L M U=>kS α U c d e G H b g h a true
 (fun N O P Q=>oV α R a Q c d e G H b g h A B C
 (fun V W X Y=>yC α V J L M N O P
 (fun Z a0 a1 a2 a3 a4 a5 a6 a7 a8 a9 b0 b1=>xJ α b1 i j l m o p q r s t w z Z a0 a1 a2 a3 a4 a5 a6 a7 a8 a9 b0
 (fun b2 b3 b4 b5 b6 b7 b8 b9 c0 c1 c2 c3 D=>cK (D != 0)
 (k1 D)
 (kn (w64 (a+1)) D b2 b3 b4 b5 b6 b7 b8 b9 c0 c1 c2 c3 W X Y))))
 (yC α Q J L M N O P
 (fun c4 c5 c6 c7 c8 c9 d0 d1 d2 d3 d4 d5 d6=>xJ α d6 i j l m o p q r s t w z c4 c5 c6 c7 c8 c9 d0 d1 d2 d3 d4 d5
 (fun d7 d8 d9 e0 e1 e2 e3 e4 e5 e6 e7 e8 F=>cK (F != 0)
 (k1 F)
 (kn (w64 (a+1)) F d7 d8 d9 e0 e1 e2 e3 e4 e5 e6 e7 e8 A B C)))))))
 (k2 a (decide (a<=((List.length b:Nat):Int))) I i j l m o p q r s t w z A B C)
def jx (α:Type)(a:Bool)(b c d e g h:Int)(i:ae)(j l:Int)(k1:Int->Op α)(k2:Int->Bool->I16 (Op α)):Nat->I17 (Op α)
 | 0=>fun _ _ _ _ _ _ _ _ _ _ _ _ _ _ _ _ _=>none
 | n+1=>fun m o p q r s t w z A B C D F G H I=>o6 α a b c d e g h i j l m o p q r s t w z A B C D F G H I (jx α a b c d e g h i j l k1 k2 n) k1 k2
def FL (α:Type)(a:Bool)(b c d e g h:Int)(i:ae)(j l:Int)(k1:Int->Op α)(k2:Int->Bool->I16 (Op α))(m o p q r s t w z A B C D F G H I:Int):Op α:=jx α a b c d e g h i j l k1 k2 aG m o p q r s t w z A B C D F G H I
abbrev Hc:Type 1:=(α:Type)->Bool->Int->Int->Int->Int->Int->Int->ae->Int->Int->(Int->Op α)->(Int->Bool->I16 (Op α))->I17 (Op α)
def wo:Hc:=sld FL
def Nk (v:Hc)(α:Type)(K:KT α):Bool->Int->Int->Int->Int->Int->Int->Int->Int->ae->I32 (Op α):=fun b o p c d e g h i j l m q r s t w z A B C D F G H I J L M N O P Q R T U V W X Y Z a0=>v α b c d e g h i j l m (fun a=>vC (K .ret) a 0 0 0 0 0 0 0 0 0 0 0 0 0 0 0) (fun a a1 a2 a3 a4 a5 a6 a7 a8 a9 b0 b1 b2 b3 b4 b5 b6 b7=>wU (K (.exit 0)) b a a1 a2 c d e g h i j l m q r s t w z A B C D F G H I J a3 a4 a5 a6 a7 a8 a9 b0 b1 b2 b3 b4 b5 b6 b7) o p L M N O P Q R T U V W X Y Z a0
theorem aio (α:Type)(K:KT α)(Kn:SK α)(a:Bool)(b c d e g h i j:Int)(l:ae)(m o J L M N O P Q R T U V W X Y Z p q r s t w z A B C D F G H I:Int):EL (fun σ=>az Pg abA HJ tL (bM (fun σ=>br tY σ Kn) K) σ) a b c d e g h i j l m o J L M N O P Q R T U V W X Y Z p q r s t w z A B C D F G H I=o6 α a d e g h i j l m o b c p q r s t w z A B C D F G H I (fun b c p q r s t w z A B C D F G H I=>EL Kn a b c d e g h i j l m o J L M N O P Q R T U V W X Y Z p q r s t w z A B C D F G H I) (fun a0=>vC (K .ret) a0 0 0 0 0 0 0 0 0 0 0 0 0 0 0 0) (fun a0 a1 a2 a3 a4 a5 a6 a7 a8 a9 b0 b1 b2 b3 b4 b5 b6 b7=>wU (K (.exit 0)) a a0 a1 a2 d e g h i j l m o J L M N O P Q R T U V W X Y Z a3 a4 a5 a6 a7 a8 a9 b0 b1 b2 b3 b4 b5 b6 b7):=by kernel_rfl
theorem alj (α:Type)(K:KT α):∀ (n:Nat) (a:Bool) (m o b c d e g h:Int) (i:ae) (j l L M N O P Q R T U V W X Y Z a0 p q r s t w z A B C D F G H I:Int),jx α a b c d e g h i j l (fun J=>vC (K .ret) J 0 0 0 0 0 0 0 0 0 0 0 0 0 0 0) (fun J a1 a2 a3 a4 a5 a6 a7 a8 a9 b0 b1 b2 b3 b4 b5 b6 b7=>wU (K (.exit 0)) a J a1 a2 b c d e g h i j l L M N O P Q R T U V W X Y Z a0 a3 a4 a5 a6 a7 a8 a9 b0 b1 b2 b3 b4 b5 b6 b7) n m o p q r s t w z A B C D F G H I=EL (aK (az Pg abA HJ tL) tY K n) a m o b c d e g h i j l L M N O P Q R T U V W X Y Z a0 p q r s t w z A B C D F G H I:=by
 intro n
 induction n with
 | zero=>intros;rfl
 | succ n ih=>intro a m o b c d e g h i j l L M N O P Q R T U V W X Y Z a0 p q r s t w z A B C D F G H I;exact (congrArg (fun kn=>o6 α a b c d e g h i j l m o p q r s t w z A B C D F G H I kn (fun J=>vC (K .ret) J 0 0 0 0 0 0 0 0 0 0 0 0 0 0 0) (fun J a1 a2 a3 a4 a5 a6 a7 a8 a9 b0 b1 b2 b3 b4 b5 b6 b7=>wU (K (.exit 0)) a J a1 a2 b c d e g h i j l L M N O P Q R T U V W X Y Z a0 a3 a4 a5 a6 a7 a8 a9 b0 b1 b2 b3 b4 b5 b6 b7)) (funext fun m=>funext fun o=>funext fun p=>funext fun q=>funext fun r=>funext fun s=>funext fun t=>funext fun w=>funext fun z=>funext fun A=>funext fun B=>funext fun C=>funext fun D=>funext fun F=>funext fun G=>funext fun H=>funext fun I=>ih a m o b c d e g h i j l L M N O P Q R T U V W X Y Z a0 p q r s t w z A B C D F G H I)).trans (aio α K (aK (az Pg abA HJ tL) tY K n) a m o b c d e g h i j l L M N O P Q R T U V W X Y Z a0 p q r s t w z A B C D F G H I).symm
theorem aeG:∀ (α:Type) (K:KT α),Nk wo α K=Eh.unc fun σ=>aK (az Pg abA HJ tL) tY K aG σ:=aY (fun α K=>funext fun a=>funext fun b=>funext fun c=>funext fun d=>funext fun e=>funext fun g=>funext fun h=>funext fun i=>funext fun j=>funext fun l=>funext fun m=>funext fun o=>funext fun p=>funext fun q=>funext fun r=>funext fun s=>funext fun t=>funext fun w=>funext fun z=>funext fun A=>funext fun B=>funext fun C=>funext fun D=>funext fun F=>funext fun G=>funext fun H=>funext fun I=>funext fun J=>funext fun L=>funext fun M=>funext fun N=>funext fun O=>funext fun P=>funext fun Q=>funext fun R=>funext fun T=>funext fun U=>funext fun V=>funext fun W=>funext fun X=>funext fun Y=>funext fun Z=>alj α K aG a b c d e g h i j l m o p q r s t w z A B C D F G H I J L M N O P Q R T U V W X Y Z)
abbrev Uc:Type 1:=(α:Type)->Int->Int->Int->Int->Int->Int->Int->ae->Int->Int->Bool->(I16 (Op α))->Op α
def Ra (α:Type)(a b c d e g h:Int)(i:ae)(j l:Int)(m:Bool)(k1:I16 (Op α)):Op α:=
 mT α
 (mT α
 (mT α
 (wo α m b c d e g h i j l
 (fun o=>k1 0 0 0 0 0 0 0 0 0 0 0 0 0 0 0 o)
 (fun L M p q r s t w z A B C D F G H I J=>k1 q r s t w z A B C D F G H I J p) 1 a 1048576 0 0 0 0 0 0 0 0 1048576 0 0 1048576 0 0)))
def Eg:Uc:=sld Ra
def AO:PT (List DV):=pA [pV false [(dMr [(dI .i64)] 0)],pV true [(dI .i64),(dI .i64),(dI .i64),(dI .i64),(dI .i64),(dI .i64),dL,(dI .i64),(dI .i64)],pV false [dB]]
def Ud (v:Uc)(α:Type)(k:RT α):Int->Int->Int->Int->Int->Int->Int->ae->Int->Int->Bool->Op α:=fun a b c d e g h i j l m=>v α a b c d e g h i j l m (fun o p q r s t w z A B C D F G H I=>abp k o p q r s t w z A B C D F G H I)
def apn:ag:=(ag.put (.m [⟨Eh,Nk wo⟩]) [1,1,0,1,0] (ag.put (.m [⟨tZ,C0 oV⟩]) [1,1,0,1,0,0,1,0,0,1,1] (emb MP)))
theorem aqp:ak Pg 237 58 ⟨AO,Ud Eg⟩:=iZ aDs (ah Tryz.func237 (by kernel_rfl)) HJ apn ((an _ _).trans ((an _ _).trans (aA _))) (aZ (td:=tY) (by kernel_rfl) (aL (by kernel_rfl) (aD MP) ⟨aiN,trivial⟩) ⟨aeG,trivial⟩) fun _ _=>by kernel_rfl
def aBK:SG:=[(25,[.cpx .f64,.int .i64]),(28,[.cpx .f64,.int .i64]),(34,[.cpx .f64,.int .i64]),(41,[.cpx .f64,.int .i64]),(45,[.cpx .f64,.int .i64]),(50,[.cpx .f64,.int .i64,.cpx .f64,.int .i64,.cpx .f64,.int .i64,.cpx .f64,.int .i64])]
def aGY:TG:=[tT 0 [0,4,5,6],tT 1 [0,4,5,6,7],tT 2 [0,4,5,6,7,12],tT 3 [0,4,5,6,7,12,13],tT 4 [0,4,5,6,7,8,12],tT 5 [0,4,5,6,7,8,9,10,12],tT 6 [0,4,5,6,7,8,9,10,11,12],tT 7 [0,4,5,6,7,12],tT 8 [0,4,5,6,7,12],tT 9 [0,6]]
def aA0:TG:=[tT 3 [0,4,5,6,7,12]]
def acF:ap:=aw Pg Tryz.f183 aGY aA0
def aIb:OT:=tdC (ag.sub [1,1,0,1,0] (emb acF))
def aaF:PT (List RV):=pRs [pR true [rD (dX .f64),rD (dI .i64),rD (dX .f64),rD (dI .i64),rD (dX .f64),rD (dI .i64),rD (dX .f64),rD (dI .i64)],pR true [rD (dI .i64),rD (dI .i64),rD (dI .i64),rD (dI .i64),rD (dI .i64),rD (dI .i64),rD (dI .i64),rD dL,rD (dI .i64),rD (dI .i64)]]
def Hr {β:Type}(g:List RV->β):Nat->Nat->Int->Nat->Nat->Int->Nat->Nat->Int->Nat->Nat->Int->Int->Int->Int->Int->Int->Int->Int->ae->Int->Int->β:=aaF.unc g
noncomputable abbrev aou:List bE:=⟨155,11,[⟨hP,Sb cR⟩]⟩::⟨154,11,[⟨hP,YP fw⟩]⟩::⟨237,58,[⟨AO,Ud Eg⟩]⟩::⟨157,11,[⟨hP,Vb ow⟩]⟩::ad4
theorem awo:bJ aou fun c=>bJ c.l (ak Pg c.f c.nt):=⟨⟨asO,trivial⟩,⟨amz,trivial⟩,⟨aqp,trivial⟩,⟨anB,trivial⟩,am7⟩
def aHe:aE:=aE.ofIO aou bw io0
theorem azM:aHe.Ok Pg:=aE.ofIO_ok aO awo
abbrev Sa:Type 1:=(α:Type)->Int->Nat->Nat->Int->Nat->Nat->Int->Nat->Nat->Int->Nat->Nat->Int->Nat->Nat->Int->Nat->Nat->Int->Nat->Nat->Int->Nat->Nat->Int->(Nat->Nat->Int->Nat->Nat->Int->Nat->Nat->Int->Nat->Nat->Int->Int->Op α)->Op α
def Qs (α:Type)(G:Int)(a b:Nat)(c:Int)(d e:Nat)(g:Int)(h i:Nat)(j:Int)(l m:Nat)(o:Int)(p q:Nat)(r:Int)(s t:Nat)(w:Int)(z A:Nat)(B:Int)(C D:Nat)(F:Int)(k1:Nat->Nat->Int->Nat->Nat->Int->Nat->Nat->Int->Nat->Nat->Int->Int->Op α):Op α:=
 cR α G a b c p q r
 (fun H I J L=>cR α L d e g z A B
 (fun M N O P=>fw α P H I J M N O
 (fun Q R T U=>cR α U a b c s t w
 (fun V W X Y=>cR α Y d e g C D F
 (fun Z a0 a1 a2=>fw α a2 V W X Z a0 a1
 (fun a3 a4 a5 a6=>cR α a6 h i j p q r
 (fun a7 a8 a9 b0=>cR α b0 l m o z A B
 (fun b1 b2 b3 b4=>fw α b4 a7 a8 a9 b1 b2 b3
 (fun b5 b6 b7 b8=>cR α b8 h i j s t w
 (fun b9 c0 c1 c2=>cR α c2 l m o C D F
 (fun c3 c4 c5 c6=>fw α c6 b9 c0 c1 c3 c4 c5
 (fun c7 c8 c9 d0=>k1 Q R T a3 a4 a5 b5 b6 b7 c7 c8 c9 d0))))))))))))
def xN:Sa:=sld Qs
def Qf:PT (List DV):=pA [pV false [(dMr [(dI .i64),(dI .i64),(dI .i64),(dI .i64),(dI .i64),(dI .i64),(dI .i64),dL,(dI .i64),(dI .i64)] 0)],pV true [(dX .f64),(dI .i64),(dX .f64),(dI .i64),(dX .f64),(dI .i64),(dX .f64),(dI .i64)],pV true [(dX .f64),(dI .i64),(dX .f64),(dI .i64),(dX .f64),(dI .i64),(dX .f64),(dI .i64)]]
def Tg (v:Sa)(α:Type)(k:RT α):Int->Int->Int->Int->Int->Int->Int->ae->Int->Int->Nat->Nat->Int->Nat->Nat->Int->Nat->Nat->Int->Nat->Nat->Int->Nat->Nat->Int->Nat->Nat->Int->Nat->Nat->Int->Nat->Nat->Int->Op α:=fun a b c d e g h i j l m o p q r s t w z A B C D F G H I J L M N O P Q=>v α a m o p q r s t w z A B C D F G H I J L M N O P Q (fun R T U V W X Y Z a0 a1 a2 a3 a4=>Hr k R T U V W X Y Z a0 a1 a2 a3 a4 b c d e g h i j l)
def auH:ag:=(ag.put (.u 5) [1,1,0,1,0] (emb acF))
theorem aoK:ak Pg 183 51 ⟨Qf,Tg xN⟩:=iZ azM (ah Tryz.func183 (by kernel_rfl)) aBK auH ((an _ _).trans (aA _)) (E3 (by decide) (aD acF)) fun _ _=>by kernel_rfl
def aGo:TG:=[tT 0 [0,4,5,6],tT 1 [0,6]]
def aCF:ap:=aw Pg Tryz.f156 aGo aC
def ayq:aE:=aE.ofIO (⟨185,23,[⟨TB,QD ID⟩]⟩::aou) bw io0
theorem an0:ayq.Ok Pg:=aE.ofIO_ok aO ⟨⟨an1,trivial⟩,awo⟩
def UN (α:Type)(a:Int)(b c:Nat)(d:Int)(e g:Nat)(h:Int)(k1:Nat->Nat->Int->Int->Op α):Op α:=
 ID α a b c d e g h
 (fun i j l m=>k1 i j l m)
def oq:dW:=sld UN
def VW (v:dW)(α:Type)(k:RT α):Int->Int->Int->Int->Int->Int->Int->ae->Int->Int->Nat->Nat->Int->Nat->Nat->Int->Op α:=fun a b c d e g h i j l m o p q r s=>v α a m o p q r s (fun t w z A=>cG k t w z A b c d e g h i j l)
theorem amN:ak Pg 156 11 ⟨hP,VW oq⟩:=iP an0 aCF (ah Tryz.func156 (by kernel_rfl)) QB fun _ _=>by kernel_rfl
def avn:SG:=[(19,iT),(23,iT),(29,[.cpx .f64,.int .i64]),(39,iT),(44,[.cpx .f64,.int .i64]),(52,[.cpx .f64,.int .i64]),(53,[.cpx .f64,.int .i64])]
def aEF:TG:=[tT 0 [0,1,4],tT 1 [0,4,5,6],tT 2 [0,4,6,7],tT 3 [0,4,6,7,28],tT 4 [0,4],tT 5 [0,4,7,8],tT 6 [0,4,7,8,40],tT 7 [0,4,7,8],tT 8 [0,4]]
def ajQ:ap:=aw Pg Tryz.f159 aEF aC
def EI:PT St:=pSv [(0,500000000,0)] [sl 0 (aV false [(cC 500000000 0)]),sP 4,sP 7,sP 8] [au 500000000 [xI,xI,xI,xI,xI,xI,xI,(cD dL),xI,xI],au 4 [(cD (dX .f64)),xI],au 7 [(cD (dX .f64)),xI],au 8 [(cD (dX .f64)),xI]]
def ajo {β:Type}(g:St->β):Int->Int->Int->Int->Int->Int->Int->ae->Int->Int->Nat->Nat->Int->Nat->Nat->Int->Nat->Nat->Int->β:=EI.unc g
def ahc:PT St:=pSv [(0,500000000,0)] [sl 0 (aV false [(cC 500000000 0)]),sP 4,sP 7,sP 8,sl 40 (aV false [(cD dB)])] [au 500000000 [xI,xI,xI,xI,xI,xI,xI,(cD dL),xI,xI],au 4 [(cD (dX .f64)),xI],au 7 [(cD (dX .f64)),xI],au 8 [(cD (dX .f64)),xI]]
def alO {β:Type}(g:St->β):Bool->Int->Int->Int->Int->Int->Int->Int->ae->Int->Int->Nat->Nat->Int->Nat->Nat->Int->Nat->Nat->Int->β:=ahc.unc g
def abV:ag:=ag.sub [1,1,1,1,1,0] (emb ajQ)
abbrev E2:Type 1:=(α:Type)->Int->Nat->Nat->Int->(Int->Nat->Nat->Int->Op α)->(Bool->Op α)->Op α
def HL (α:Type)(a:Int)(b c:Nat)(d:Int)(k1:Int->Nat->Nat->Int->Op α)(k2:Bool->Op α):Op α:=
 cK (a == 0)
 (r8 α b c d 1
 (fun e g h i=>dR α
 (k1 i e g h)))
 (k2 (a == 0))
def wS:E2:=sld HL
def Mm (v:E2)(α:Type)(K:KT α):Int->Int->Int->Int->Int->Int->Int->ae->Int->Int->Nat->Nat->Int->Nat->Nat->Int->Nat->Nat->Int->Op α:=fun b c d e g h i j l m o p q r s t w z A=>v α b w z A (fun a B C D=>ajo (K .normal) a c d e g h i j l m o p q r s t B C D) (fun a=>alO (K .normal) a b c d e g h i j l m o p q r s t w z A)
theorem ais:∀ (α:Type) (K:KT α),Mm wS α K=EI.unc fun σ=>az Pg aHe avn abV K σ:=aY (fun α K=>by kernel_rfl)
abbrev Xo:Type 1:=(α:Type)->Int->Int->ae->Int->Int->Int->(Nat->Nat->Int->Int->Op α)->Op α
def Xn (α:Type)(l m:Int)(o:ae)(p q r:Int)(k1:Nat->Nat->Int->Int->Op α):Op α:=
 rN α m o p q r
 (fun s t d=>jF α (w64 (s*1048576)) 10000
 (fun w=>ne α (w64 (t*1048576)) 10000
 (fun z=>n9 α l w z
 (fun a b c e=>cK (d == 0)
 (k1 a b c e)
 (xh α e d 10000
 (fun g h i j=>wS α j g h i
 (fun A B C D=>fw α A a b c B C D
 (fun F G H I=>k1 F G H I))
 (fun O=>fw α j a b c g h i
 (fun J L M N=>k1 J L M N))))))))
def yx:Xo:=sld Xn
def UR (v:Xo)(α:Type)(k:RT α):Int->Int->Int->Int->Int->Int->Int->ae->Int->Int->Int->Op α:=fun e a g h i j l b c d m=>v α e a b c d m (fun o p q r=>cG k o p q r a g h i j l b c d)
def aqW:ag:=(ag.put (.m [⟨EI,Mm wS⟩]) [1,1,1,1,1] (emb ajQ))
theorem auw:ak Pg 159 55 ⟨hH,UR yx⟩:=iZ azM (ah Tryz.func159 (by kernel_rfl)) avn aqW ((an _ _).trans (aA _)) (aL (by kernel_rfl) (aD ajQ) ⟨ais,trivial⟩) fun _ _=>by kernel_rfl
def aDa:SG:=[(16,[.int .i64,.int .i64,.int .i64,.int .i64,.int .i64,.int .i64,.sl,.int .i64,.int .i64]),(20,[.int .i64,.int .i64,.int .i64,.int .i64,.int .i64,.int .i64,.sl,.int .i64,.int .i64]),(26,[.int .i64,.int .i64,.int .i64,.int .i64,.int .i64,.int .i64,.sl,.int .i64,.int .i64]),(28,[.sl]),(34,iS 3),(37,iS 3),(38,iS 3),(43,iS 3),(46,iS 3),(47,iS 3),(51,iS 3),(52,iS 3),(55,iS 3),(56,iS 3),(62,iS 3),(63,iS 3),(65,iS 3),(67,iS 3),(71,iS 3),(72,iS 3),(74,iS 3)]
def aDD:TG:=[tT 0 [0,2,4,6],tT 1 [0,2,4,6,7],tT 2 [0,2,4,6,7,8,9],tT 3 [0,2,6,7,8,9,10],tT 4 [0,2,6,7,8,9,10,11],tT 5 [0,2,6,7,9,11,12],tT 6 [0,2,6,7,9,12,13],tT 7 [0,2,6,7,9,12,13,14],tT 8 [0,6,7,9,12,13,14,58],tT 9 [0,6],tT 10 [0,6]]
def aGw:ap:=aw Pg Tryz.f205 aDD aC
abbrev TK:Type 1:=(α:Type)->Int->Int->Int->Int->Int->Int->Int->ae->Int->Int->Bool->(I4 (Op α))->Op α
def Wd (α:Type)(G b c d e H I:Int)(a:ae)(g h:Int)(m:Bool)(k1:I4 (Op α)):Op α:=
 jz α G b c d e a g h 0
 (fun i j l J=>Eg α J b c d e H I a g h m
 (fun L M N O P Q R T U V W X Y Z a0 a1=>jz α a1 b c d e a g h (w64 (((List.length a:Nat):Int)+1))
 (fun o p q a2=>ci α a2 O P Q o p q
 (fun a3 a4 a5 a6=>eB α a6 L M N a3 a4 a5
 (fun a7 a8 a9 b0=>ci α b0 V W X o p q
 (fun b1 b2 b3 b4=>eB α b4 R T U b1 b2 b3
 (fun r s t b5=>ci α b5 i j l a7 a8 a9
 (fun w z A b6=>eB α b6 w z A r s t
 (fun B C D F=>cK m
 (eB α F i j l i j l
 (fun b7 b8 b9 c0=>ci α c0 b7 b8 b9 Y Z a0
 (fun c1 c2 c3 c4=>kZ α c4 c1 c2 c3 B C D
 (fun c5 c6 c7 c8=>k1 c5 c6 c7 c8))))
 (mu α F w z A r s t
 (fun c9 d0 d1 d2=>kZ α d2 c9 d0 d1 B C D
 (fun d3 d4 d5 d6=>k1 d3 d4 d5 d6))))))))))))
def xB:TK:=sld Wd
def SP (v:TK)(α:Type)(k:RT α):Int->Int->Int->Int->Int->Int->Int->ae->Int->Int->Bool->Op α:=fun a b c d e g h i j l m=>v α a b c d e g h i j l m (fun o p q r=>ed k o p q r)
theorem aoL:ak Pg 205 76 ⟨AO,SP xB⟩:=iP azM aGw (ah Tryz.func205 (by kernel_rfl)) aDa fun _ _=>by kernel_rfl
def aHD:SG:=[(23,[.cpx .f64,.int .i64]),(25,[.cpx .f64,.int .i64]),(34,[.cpx .f64,.int .i64]),(36,[.cpx .f64,.int .i64]),(41,[.cpx .f64,.int .i64]),(42,[.cpx .f64,.int .i64]),(47,[.cpx .f64,.int .i64]),(48,[.cpx .f64,.int .i64]),(50,[.cpx .f64,.int .i64]),(51,[.cpx .f64,.int .i64]),(52,[.cpx .f64,.int .i64]),(53,[.cpx .f64,.int .i64])]
def aGr:TG:=[tT 0 [0,4,5,6],tT 1 [0,4,5,6,7],tT 2 [0,4,5,6,7,8],tT 3 [0,4,6,8,9],tT 4 [0,4,6,8,9,10],tT 5 [0,6,8,10,11],tT 6 [0,6]]
def aBH:ap:=aw Pg Tryz.f184 aGr aC
noncomputable abbrev at2:List bE:=⟨156,11,[⟨hP,VW oq⟩]⟩::⟨159,55,[⟨hH,UR yx⟩]⟩::⟨205,76,[⟨AO,SP xB⟩]⟩::⟨183,51,[⟨Qf,Tg xN⟩]⟩::aou
theorem ayh:bJ at2 fun c=>bJ c.l (ak Pg c.f c.nt):=⟨⟨amN,trivial⟩,⟨auw,trivial⟩,⟨aoL,trivial⟩,⟨aoK,trivial⟩,awo⟩
def aIt:aE:=aE.ofIO at2 bw io0
theorem axb:aIt.Ok Pg:=aE.ofIO_ok aO ayh
abbrev S1:Type 1:=(α:Type)->Int->Nat->Nat->Int->Nat->Nat->Int->(Nat->Nat->Int->Nat->Nat->Int->Nat->Nat->Int->Nat->Nat->Int->Int->Op α)->Op α
def U2 (α:Type)(s:Int)(a b:Nat)(c:Int)(d e:Nat)(g:Int)(k1:Nat->Nat->Int->Nat->Nat->Int->Nat->Nat->Int->Nat->Nat->Int->Int->Op α):Op α:=
 xh α s 1 2
 (fun h i j t=>mX α
 (fw α t 4697254411347427328 0 0 d e g
 (fun w z A B=>cR α B w z A h i j
 (fun l m o C=>mX α
 (ow α C 4697254411347427328 0 0 d e g
 (fun D F G H=>cR α H D F G h i j
 (fun p q r I=>oq α I p q r a b c
 (fun J L M N=>cR α N p q r a b c
 (fun O P Q R=>k1 l m o J L M O P Q l m o R)))))))))
def xD:S1:=sld U2
def RO (v:S1)(α:Type)(k:RT α):Int->Int->Int->Int->Int->Int->Int->ae->Int->Int->Nat->Nat->Int->Nat->Nat->Int->Op α:=fun a b c d e g h i j l m o p q r s=>v α a m o p q r s (fun t w z A B C D F G H I J L=>Hr k t w z A B C D F G H I J L b c d e g h i j l)
theorem apQ:ak Pg 184 55 ⟨hP,RO xD⟩:=iP axb aBH (ah Tryz.func184 (by kernel_rfl)) aHD fun _ _=>by kernel_rfl
def aCW:SG:=[(22,iT),(28,iT),(36,iT),(42,iT),(50,[.cpx .f64,.int .i64]),(51,[.cpx .f64,.int .i64]),(56,[.cpx .f64,.int .i64]),(60,[.cpx .f64,.int .i64]),(61,[.cpx .f64,.int .i64]),(76,iT),(82,[.cpx .f64,.int .i64]),(90,[.cpx .f64,.int .i64]),(97,iT),(103,iS 2),(109,iT)]
def aBb:TG:=[tT 0 [0,1,4],tT 1 [0,1,4,6],tT 2 [0,1,4,6,7],tT 3 [0,1,4,7,8],tT 4 [0,1,4,8],tT 5 [0,4,8,10],tT 6 [0,4,8,71],tT 7 [0,4,8,77],tT 8 [0,4,5],tT 9 [0,4,5],tT 10 [0,4,11],tT 11 [0,4,11,98],tT 12 [0,4,5],tT 13 [0,4,5]]
def aGM:ap:=aw Pg Tryz.f131 aBb aC
def abW:PT (List RV):=pRs [pR true [rD (dX .f64),rD (dI .i64)],pR false [rD dB],pR true [rD (dI .i64),rD (dI .i64),rD (dI .i64),rD (dI .i64),rD (dI .i64),rD (dI .i64),rD (dI .i64),rD dL,rD (dI .i64),rD (dI .i64)]]
def abn {β:Type}(g:List RV->β):Nat->Nat->Int->Bool->Int->Int->Int->Int->Int->Int->Int->ae->Int->Int->β:=abW.unc g
def axV:aE:=aE.ofIO (⟨164,57,[⟨ba,SJ xu⟩]⟩::at2) bw io0
theorem aul:axV.Ok Pg:=aE.ofIO_ok aO ⟨⟨ao5,trivial⟩,ayh⟩
abbrev Wp:Type 1:=(α:Type)->Int->Int->Int->Int->ae->Int->Int->Int->(Nat->Nat->Int->Bool->Int->Op α)->Op α
def SL (α:Type)(w a z A:Int)(c:ae)(d e g:Int)(k1:Nat->Nat->Int->Bool->Int->Op α):Op α:=
 yx α w a c d e g
 (fun h i j B=>jF α (w64 ((w64 (a*z))*1048576)) 100000000
 (fun C=>ne α (w64 ((w64 (a*A))*1048576)) 100000000
 (fun D=>n9 α B C D
 (fun l m o F=>cR α F h i j h i j
 (fun G H I J=>cR α J l m o l m o
 (fun L M N O=>ow α O G H I L M N
 (fun p q r b=>rN α a c d e g
 (fun a0 a1 P=>cK (P != 0)
 (cK (b != 0)
 (k1 0 0 0 false b)
 (xO α p q r
 (fun Q R T U=>dR α
 (k1 Q R T false U))))
 (oI α b p q r
 (fun s V a2 a3 t=>cK (t != 0)
 (k1 0 0 0 false t)
 (xu α s V
 (fun W X Y Z=>dR α
 (k1 W X Y (decide (s < 0)) Z)))))))))))))
def rK:Wp:=sld SL
def Qr (v:Wp)(α:Type)(k:RT α):Int->Int->Int->Int->Int->Int->Int->ae->Int->Int->Int->Op α:=fun h a b c i j l d e g m=>v α h a b c d e g m (fun o p q r s=>abn k o p q r s a b c i j l d e g)
theorem aqJ:ak Pg 131 111 ⟨hH,Qr rK⟩:=iP aul aGM (ah Tryz.func131 (by kernel_rfl)) aCW fun _ _=>by kernel_rfl
def av3:SG:=[(9,[.int .i64,.int .i64,.int .i64,.int .i64,.int .i64,.int .i64,.sl,.int .i64,.int .i64]),(11,iS 3),(15,iT)]
def aB9:TG:=[tT 0 [1,2],tT 1 [1,2,4],tT 2 [2,4,5],tT 3 [2,3]]
def aDj:ap:=aw Pg Tryz.f171 aB9 aC
abbrev AS:Type 1:=(α:Type)->Int->Int->Int->Int->Int->Int->ae->Int->Int->(I4 (Op α))->Op α
def Je (α:Type)(a b c d e g:Int)(h:ae)(i j:Int)(k1:I4 (Op α)):Op α:=
 xB α 0 a b c d e g h i j true
 (fun l m o p=>k1 l m o p)
def BX:AS:=sld Je
def Ro (v:AS)(α:Type)(k:RT α):Int->Int->Int->Int->Int->Int->ae->Int->Int->Op α:=fun a b c d e g h i j=>v α a b c d e g h i j (fun l m o p=>bD k l m o p)
theorem auN:ak Pg 171 16 ⟨eW,Ro BX⟩:=iP axb aDj (ah Tryz.func171 (by kernel_rfl)) av3 fun _ _=>by kernel_rfl
end
end Go.AM.K
