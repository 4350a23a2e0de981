/- Printed by KGen. -/
import Derived.Test.YtffcelhcekillaaGreatRc
namespace Go.AM.K
open Go.Proofs
set_option maxRecDepth 100000
set_option linter.unusedVariables false
noncomputable section
def aIP:SG:=[(8,iS 2),(15,iT),(17,iT)]
def aKC:TG:=[tT 0 [1,2,3],tT 1 [3,7],tT 2 [6],tT 3 [13],tT 4 [6],tT 5 [6]]
def aKh:ap:=aw Pg Tryz.f38 aKC aC
def ag9 (α:Type)(a b c d:Int)(k1:Int->Op α):Op α:=
 Lk α a b c d
 (fun e=>cK (!e)
 (k1 2)
 (cK (decide (b < a))
 (k1 10)
 (k1 0)))
def OA:yt:=sld ag9
def aiY (v:yt)(α:Type)(k:RT α):I4 (Op α):=fun a b c d=>v α a b c d (fun e=>aQ k e)
theorem ay3:ak Pg 38 19 ⟨fO,aiY OA⟩:=iP ek3 aKh (ah Tryz.func38 (by kernel_rfl)) aIP fun _ _=>by kernel_rfl
def aAm:SG:=[(3,iS 3),(6,iT),(9,iS 3),(12,iT)]
def aH0:TG:=[tT 0 [1,2],tT 1 [2]]
def aGx:ap:=aw Pg Tryz.f212 aH0 aC
noncomputable abbrev Lk4:List bE:=⟨252,15,[⟨cX,Ue mY⟩]⟩::⟨287,72,[⟨Yj,QS mQ⟩]⟩::⟨248,22,[⟨cX,QN dD⟩]⟩::⟨247,28,[⟨bq,S6 mD⟩]⟩::⟨268,18,[⟨bq,Tp Cv⟩]⟩::⟨98,35,[⟨aiA,afa NX⟩]⟩::⟨97,56,[⟨la,aiE Oh⟩]⟩::⟨255,40,[⟨aU,UX CB⟩]⟩::⟨256,32,[⟨aU,Wq yp⟩]⟩::⟨285,24,[⟨fP,P6 Dy⟩]⟩::⟨234,135,[⟨Q5,Ut yi⟩]⟩::⟨201,14,[⟨aU,SX pl⟩]⟩::⟨235,12,[⟨kg,QC Cy⟩]⟩::⟨232,29,[⟨cX,Ta fW⟩]⟩::⟨115,24,[⟨Zv,TA Dj⟩,⟨PR,YS Bw⟩]⟩::⟨114,56,[⟨la,Td Bs⟩]⟩::⟨38,19,[⟨fO,aiY OA⟩]⟩::⟨39,80,[⟨ajP,ahF KU⟩]⟩::⟨196,6,[⟨ba,T6 nR⟩]⟩::⟨230,19,[⟨Sk,XB Ix⟩]⟩::⟨33,126,[⟨fx,agr MQ⟩]⟩::⟨120,44,[⟨TZ,Uu jX⟩]⟩::Lk3
theorem ak4:bJ Lk4 fun c=>bJ c.l (ak Pg c.f c.nt):=⟨⟨amw,trivial⟩,⟨asw,trivial⟩,⟨arW,trivial⟩,⟨atY,trivial⟩,⟨apY,trivial⟩,⟨axi,trivial⟩,⟨azk,trivial⟩,⟨arZ,trivial⟩,⟨aoi,trivial⟩,⟨as9,trivial⟩,⟨atg,trivial⟩,⟨arg,trivial⟩,⟨aoy,trivial⟩,⟨aox,trivial⟩,⟨at4,asz,trivial⟩,⟨aqX,trivial⟩,⟨ay3,trivial⟩,⟨awg,trivial⟩,⟨amA,trivial⟩,⟨amC,trivial⟩,⟨axt,trivial⟩,⟨auY,trivial⟩,ak3⟩
def Ek4:aE:=aE.ofIO Lk4 bw io0
theorem ek4:Ek4.Ok Pg:=aE.ofIO_ok aO ak4
def Uo (α:Type)(b c a:Int)(k1:Int->Int->Op α):Op α:=
 ml α b c
 (fun d=>mY α b c
 (fun e=>k1 (if (w64 (d - a)) > 0 then (w64 (d - a)) else 0) (w64 (e+a))))
def H9:fU:=sld Uo
def WN (v:fU)(α:Type)(k:RT α):Int->Int->Int->Op α:=fun a b c=>v α a b c (fun d e=>bt k d e)
theorem apI:ak Pg 212 15 ⟨cX,WN H9⟩:=iP ek4 aGx (ah Tryz.func212 (by kernel_rfl)) aAm fun _ _=>by kernel_rfl
def ab1:SG:=[(6,iT),(10,iT),(15,iT),(20,iT),(22,iT),(27,iT),(30,iT),(36,iT),(39,iT),(44,iS 2)]
def aF4:TG:=[tT 0 [1,2],tT 1 [1,2,17],tT 2 [2,3],tT 3 [1,2,23],tT 4 [2,3],tT 5 [1,2,4],tT 6 [1,2,4,28],tT 7 [1,2,4],tT 8 [1,2,4,37],tT 9 [2,4],tT 10 [2,3]]
def XK:ap:=aw Pg Tryz.f284 aF4 aC
def Ep:PT St:=pS [sP 1,sP 2] [au 1 [xI,xI],au 2 [xI,xI]]
def aBd {β:Type}(g:St->β):I4 β:=Ep.unc g
def agJ:PT St:=pS [sP 1,sP 2,sl 17 (aV false [(cD dB)])] [au 1 [xI,xI],au 2 [xI,xI]]
def ajl {β:Type}(g:St->β):Bool->I4 β:=agJ.unc g
def CK:PT St:=pS [sP 1,sP 2,sP 4] [au 1 [xI,xI],au 2 [xI,xI],au 4 [xI,xI]]
def afc {β:Type}(g:St->β):I6 β:=CK.unc g
def alG:PT St:=pS [sP 1,sP 2,sP 4,sl 28 (aV false [(cD dB)])] [au 1 [xI,xI],au 2 [xI,xI],au 4 [xI,xI]]
def ahw {β:Type}(g:St->β):Bool->I6 β:=alG.unc g
def abz:PT (List RV):=pRs [pR true [rD (dI .i64),rD (dI .i64)],wI]
def jd {β:Type}(g:List RV->β):Int->Int->Int->β:=abz.unc g
def aaE:ag:=ag.sub [1,1,1,1,0] (emb XK)
def Fo (α:Type)(a:Int)(k1:Int->Op α)(k2:Bool->Op α):Op α:=
 cK (decide (a<=16777216))
 (mQ α a false
 (fun c=>dC α c 1024
 (fun b=>k1 (if b > 0 then b else 0))))
 (k2 (decide (a<=16777216)))
def wJ:i8:=sld Fo
def Nn (v:i8)(α:Type)(K:KT α):I6 (Op α):=fun c a d e h g=>v α a (fun b=>afc (K .normal) c a d e b g) (fun b=>ahw (K .normal) b c a d e h g)
theorem adW:∀ (α:Type) (K:KT α),Nn wJ α K=CK.unc fun σ=>az Pg Ek4 ab1 aaE K σ:=aY (fun α K=>by kernel_rfl)
def afB:ag:=ag.sub [1,0,0] (emb XK)
def Hf (α:Type)(a b:Int)(k1:Bool->Op α):Op α:=
 cK (decide (a < 0))
 (k1 true)
 (cK (decide (1099511627776 < a))
 (k1 true)
 (k1 (decide (1099511627776 < b))))
def nK:bI:=sld Hf
def LX (v:bI)(α:Type)(K:KT α):I4 (Op α):=fun a b c d=>v α a b (fun e=>ajl (K .normal) e a b c d)
theorem afl:∀ (α:Type) (K:KT α),LX nK α K=Ep.unc fun σ=>az Pg Ek4 ab1 afB K σ:=aY (fun α K=>by kernel_rfl)
abbrev zH:Type 1:=(α:Type)->Int->Int->(Int->Int->Int->Op α)->Op α
def XZ (α:Type)(a b:Int)(k1:Int->Int->Int->Op α):Op α:=
 nK α a b
 (fun g=>cK g
 (k1 0 0 2)
 (cK (decide (b < a))
 (k1 0 0 10)
 (wJ α b
 (fun c=>cK (decide (a<=16777216))
 (mQ α a true
 (fun h=>cy α h 1024
 (fun d=>k1 c (if d < 1048576 then d else 1048576) 0)))
 (k1 c 1 0))
 (fun j=>cK (decide (a<=16777216))
 (mQ α a true
 (fun i=>cy α i 1024
 (fun e=>k1 0 (if e < 1048576 then e else 1048576) 0)))
 (k1 0 1 0)))))
def r6:zH:=sld XZ
def Tl (v:zH)(α:Type)(k:RT α):Int->Int->Op α:=fun a b=>v α a b (fun c d e=>jd k c d e)
def anQ:ag:=(ag.put (.m [⟨Ep,LX nK⟩]) [1,0] (ag.put (.m [⟨CK,Nn wJ⟩]) [1,1,1,1] (emb XK)))
theorem ats:ak Pg 284 45 ⟨ba,Tl r6⟩:=iZ ek4 (ah Tryz.func284 (by kernel_rfl)) ab1 anQ ((an _ _).trans ((an _ _).trans (aA _))) (aL (by kernel_rfl) (aL (by kernel_rfl) (aD XK) ⟨adW,trivial⟩) ⟨afl,trivial⟩) fun _ _=>by kernel_rfl
def avL:SG:=[(12,iT),(17,iT),(23,iT),(25,iT),(29,iT),(31,iT),(38,iT),(44,iT),(51,iT),(59,iT),(61,iT),(69,iS 3)]
def aGi:TG:=[tT 0 [1,2],tT 1 [1,2,20],tT 2 [2,3],tT 3 [1,2,26],tT 4 [2,3],tT 5 [1,2,4],tT 6 [1,2,4,5],tT 7 [1,2,4,5,6],tT 8 [1,2,4,6,8],tT 9 [1,2,4,10],tT 10 [2,10,67],tT 11 [2,10],tT 12 [2,3]]
def aca:ap:=aw Pg Tryz.f283 aGi aC
def BH:PT St:=pS [sP 1,sP 2,sI 4,sP 10] [au 1 [xI,xI],au 2 (xs 3),au 10 (xs 3)]
def aEd {β:Type}(g:St->β):I9 β:=BH.unc g
def acM:PT St:=pS [sP 2,sP 10] [au 2 (xs 3),au 10 (xs 3)]
def ah6 {β:Type}(g:St->β):I6 β:=acM.unc g
def aib:PT St:=pS [sP 2,sP 10,sl 67 (aV false [(cD dB)])] [au 2 (xs 3),au 10 (xs 3)]
def agY {β:Type}(g:St->β):Bool->I6 β:=aib.unc g
def acJ:aE:=aE.ofIO (⟨286,105,[⟨aU,WZ CE⟩]⟩::Lk4) bw io0
theorem asd:acJ.Ok Pg:=aE.ofIO_ok aO ⟨⟨aoM,trivial⟩,ak4⟩
def aad:ag:=ag.sub [1,1,1,1,1,1,1,1,0] (emb aca)
abbrev Hx:Type 1:=(α:Type)->Int->Int->Int->(Op α)->(Bool->Op α)->Op α
def F2 (α:Type)(b c d:Int)(k1:Op α)(k2:Bool->Op α):Op α:=
 cK (c == d)
 (kK α b 1048576
 (fun a=>cK (a == 0)
 (k1)
 (k2 (a == 0))))
 (k2 false)
def jH:Hx:=sld F2
def Na (v:Hx)(α:Type)(K:KT α):I9 (Op α):=fun g h i a b c d e j=>v α g h i (ah6 (K .normal) a b c d e 0) (fun l=>agY (K .normal) l a b c d e j)
theorem al2:∀ (α:Type) (K:KT α),Na jH α K=BH.unc fun σ=>az Pg acJ avL aad K σ:=aY (fun α K=>by kernel_rfl)
abbrev kj:Type 1:=(α:Type)->Int->Int->(I4 (Op α))->Op α
def Zi (α:Type)(b a:Int)(k1:I4 (Op α)):Op α:=
 cS α b (-1099511627776) 1099511627776
 (fun g=>cK (!g)
 (k1 0 0 0 2)
 (cS α a (-1099511627776) 1099511627776
 (fun h=>cK (!h)
 (k1 0 0 0 2)
 (cK (decide (a < b))
 (k1 0 0 0 10)
 (dC α (w64 (b+a)) 2
 (fun c=>CE α c
 (fun i j=>jn α i 64
 (fun d z=>jn α j 64
 (fun e A=>cy α (w64 (11*(w64 (a - c)))) 7
 (fun l=>jH α c b a
 (dD α d e 0
 (fun m o p q=>k1 m o p q))
 (fun B=>dD α d e (w64 (2+l))
 (fun r s t w=>k1 r s t w))))))))))))
def xG:kj:=sld Zi
def Yd (v:kj)(α:Type)(k:RT α):Int->Int->Op α:=fun a b=>v α a b (fun c d e g=>bD k c d e g)
def amY:ag:=(ag.put (.m [⟨BH,Na jH⟩]) [1,1,1,1,1,1,1,1] (emb aca))
theorem amj:ak Pg 283 73 ⟨ba,Yd xG⟩:=iZ asd (ah Tryz.func283 (by kernel_rfl)) avL amY ((an _ _).trans (aA _)) (aL (by kernel_rfl) (aD aca) ⟨al2,trivial⟩) fun _ _=>by kernel_rfl
def aCK:SG:=[(11,iS 3),(14,iT),(18,iT),(20,iT),(23,iT),(25,iT),(30,iT),(32,iT),(35,iT),(37,iT),(46,iT),(48,iT),(51,iT),(53,iT),(63,iT),(64,iS 3),(67,iS 3),(70,iT),(73,iS 3),(76,iT),(78,iS 3)]
def aDo:TG:=[tT 0 [2,3,4],tT 1 [2,3,4,15],tT 2 [4,5],tT 3 [2,3,4,6],tT 4 [2,3,4,6,7,8],tT 5 [2,3,4,7,8,9,10],tT 6 [4,5]]
def aBN:ap:=aw Pg Tryz.f241 aDo aC
abbrev fS:Type 1:=(α:Type)->Int->Int->Int->Int->Int->Int->(I4 (Op α))->Op α
def XN (α:Type)(c d j a b e:Int)(k1:I4 (Op α)):Op α:=
 ml α a b
 (fun l=>cK (decide (l<=e))
 (k1 0 0 0 9)
 (mD α (w64 ((w64 (c*a))+(w64 (d*b)))) (w64 ((w64 (a*a))+(w64 (b*b))))
 (fun g m=>mD α (w64 ((w64 (d*a)) - (w64 (c*b)))) (w64 ((w64 (a*a))+(w64 (b*b))))
 (fun h o=>mY α a b
 (fun p=>mY α c d
 (fun q=>ml α a b
 (fun r=>ml α a b
 (fun s=>Cv α (w64 ((w64 (j*p))+(w64 (q*e)))) (w64 ((w64 (r - e))*s))
 (fun i=>cK m
 (mR α true
 (fun t=>dD α g h (w64 (i+t))
 (fun w z A B=>k1 w z A B)))
 (mR α o
 (fun C=>dD α g h (w64 (i+C))
 (fun D F G H=>k1 D F G H))))))))))))
def BW:fS:=sld XN
def Tq (v:fS)(α:Type)(k:RT α):I6 (Op α):=fun a b c d e g=>v α a b c d e g (fun h i j l=>bD k h i j l)
theorem amx:ak Pg 241 92 ⟨dY,Tq BW⟩:=iP ek4 aBN (ah Tryz.func241 (by kernel_rfl)) aCK fun _ _=>by kernel_rfl
def ae4:SG:=[(11,iS 3),(15,iT),(19,iT),(23,iT),(26,iT),(31,iT),(36,iT),(40,iT),(46,iT),(57,iT),(63,iT),(74,iT),(80,iT),(91,iS 3)]
def aBp:TG:=[tT 0 [1,2],tT 1 [1,2,4],tT 2 [1,2,4,16],tT 3 [2,3],tT 4 [1,2,4,33],tT 5 [2,3],tT 6 [1,2,4,5],tT 7 [1,2,4,5],tT 8 [1,2,4,5,37],tT 9 [1,2,4,5,6],tT 10 [1,2,4,5,6,7],tT 11 [1,2,4,5,6],tT 12 [1,2,4,5,6],tT 13 [1,2,4,5,6,9],tT 14 [1,2,4,5,6],tT 15 [1,2,4,5,6,75],tT 16 [1,2,4,5,6],tT 17 [2,5],tT 18 [2,3]]
def TW:ap:=aw Pg Tryz.f210 aBp aC
def Er:PT St:=pS [sP 1,sP 2,sI 4,sl 16 (aV false [(cD dB)])] [au 1 (xs 3),au 2 (xs 3)]
def aGf {β:Type}(g:St->β):Int->Bool->I6 β:=Er.unc g
def ad9:PT St:=pS [sP 1,sP 2,sI 4,sl 33 (aV false [(cD dB)])] [au 1 (xs 3),au 2 (xs 3)]
def ace {β:Type}(g:St->β):Int->Bool->I6 β:=ad9.unc g
def CU:PT St:=pS [sP 1,sP 2,sI 4,sP 5] [au 1 (xs 3),au 2 (xs 3),au 5 (xs 3)]
def aCs {β:Type}(g:St->β):I10 β:=CU.unc g
def ahB:PT St:=pS [sP 1,sP 2,sI 4,sP 5,sI 6] [au 1 (xs 3),au 2 (xs 3),au 5 (xs 3)]
def aki {β:Type}(g:St->β):I11 β:=ahB.unc g
def ajd:PT St:=pS [sP 1,sP 2,sI 4,sP 5,sI 6,sl 75 (aV false [(cD dB)])] [au 1 (xs 3),au 2 (xs 3),au 5 (xs 3)]
def ajt {β:Type}(g:St->β):Int->Int->Bool->I9 β:=ajd.unc g
def abe:ag:=ag.sub [1,1,1,1,1,1,0] (emb TW)
abbrev FJ:Type 1:=(α:Type)->Int->Int->Int->(Int->Int->Int->Op α)->(Int->Bool->Int->Int->Op α)->Op α
def FO (α:Type)(e c b:Int)(k1:Int->Int->Int->Op α)(k2:Int->Bool->Int->Int->Op α):Op α:=
 cK (decide (0<=c))
 (dj α (w64 ((w64 (e+c))*524288))
 (fun d=>mD α b (w64 (2*d))
 (fun h j=>k1 d d h)))
 (dj α (w64 ((w64 (e - c))*524288))
 (fun a=>yu α b
 (fun i=>mD α i (w64 (2*a))
 (fun g l=>cK (decide (b < 0))
 (k1 a g (w64 (0 - a)))
 (k2 a (decide (b < 0)) g a)))))
def oe:FJ:=sld FO
def LA (v:FJ)(α:Type)(K:KT α):I10 (Op α):=fun a b c h i j l o p q=>v α a b c (fun d e g=>aki (K .normal) a d b c h i j l e g 0) (fun d e g m=>ajt (K .normal) a d e b c h i j l g m 0)
theorem acZ:∀ (α:Type) (K:KT α),LA oe α K=CU.unc fun σ=>az Pg Ek4 ae4 abe K σ:=aY (fun α K=>by kernel_rfl)
def ZW:ag:=ag.sub [1,1,1,0,0] (emb TW)
def Gy (α:Type)(b c a:Int)(k1:Bool->Op α):Op α:=
 cK (decide (b < 0))
 (yu α c
 (fun d=>cK (decide (d<=a))
 (k1 (a != 0))
 (k1 false)))
 (k1 false)
def uu:cg:=sld Gy
def NZ (v:cg)(α:Type)(K:KT α):Int->Bool->I6 (Op α):=fun d j a b c e g h=>v α a b c (fun i=>ace (K .normal) d i a b c e g h)
theorem alD:∀ (α:Type) (K:KT α),NZ uu α K=Er.unc fun σ=>az Pg Ek4 ae4 ZW K σ:=aY (fun α K=>by kernel_rfl)
def Wu (α:Type)(c d a:Int)(k1:I4 (Op α)):Op α:=
 ml α c d
 (fun b=>cK (decide (b<=a))
 (k1 0 0 0 9)
 (uu α c d a
 (fun e=>cK e
 (k1 0 0 0 14)
 (oe α b c d
 (fun g h i=>dj α (w64 (b*1048576))
 (fun j=>cy α (w64 (a*1048576)) j
 (fun l=>cy α 1048576 g
 (fun m=>dD α h i (w64 ((w64 (l+3))+m))
 (fun o p q r=>k1 o p q r)))))
 (fun s H t w=>dj α (w64 (b*1048576))
 (fun z=>cy α (w64 (a*1048576)) z
 (fun A=>cy α 1048576 s
 (fun B=>dD α t w (w64 ((w64 (A+3))+B))
 (fun C D F G=>k1 C D F G)))))))))
def xr:kf:=sld Wu
def VN (v:kf)(α:Type)(k:RT α):Int->Int->Int->Op α:=fun a b c=>v α a b c (fun d e g h=>bD k d e g h)
def asq:ag:=(ag.put (.m [⟨Er,NZ uu⟩]) [1,1,1,0] (ag.put (.m [⟨CU,LA oe⟩]) [1,1,1,1,1,1] (emb TW)))
theorem apx:ak Pg 210 95 ⟨cX,VN xr⟩:=iZ ek4 (ah Tryz.func210 (by kernel_rfl)) ae4 asq ((an _ _).trans ((an _ _).trans (aA _))) (aL (by kernel_rfl) (aL (by kernel_rfl) (aD TW) ⟨acZ,trivial⟩) ⟨alD,trivial⟩) fun _ _=>by kernel_rfl
def au9:SG:=[(7,iT),(9,iT),(12,iT),(14,iT),(17,iT),(19,iT)]
def aFC:TG:=[tT 0 [2,3,4],tT 1 [4,5]]
def aHZ:ap:=aw Pg Tryz.f267 aFC aC
def Ws (α:Type)(a b c d e g:Int)(k1:I4 (Op α)):Op α:=
 dD α (w64 (a - d)) (w64 (b - e)) (w64 (c+g))
 (fun h i j l=>k1 h i j l)
def C9:fS:=sld Ws
def U8 (v:fS)(α:Type)(k:RT α):I6 (Op α):=fun a b c d e g=>v α a b c d e g (fun h i j l=>bD k h i j l)
theorem aqh:ak Pg 267 25 ⟨dY,U8 C9⟩:=iP ek4 aHZ (ah Tryz.func267 (by kernel_rfl)) au9 fun _ _=>by kernel_rfl
def aAS:SG:=[(12,iT),(14,iT),(17,iT),(19,iT),(27,iT),(29,iT),(32,iT),(34,iT),(42,iS 3),(45,iT),(47,iS 3),(50,iT),(54,iT),(56,iT)]
def aBy:TG:=[tT 0 [2,3,4],tT 1 [2,3,4,6,7],tT 2 [2,3,4,6,7,8,9],tT 3 [4,5]]
def aCh:ap:=aw Pg Tryz.f266 aBy aC
def Y0 (α:Type)(a b e c d g:Int)(k1:I4 (Op α)):Op α:=
 jn α (w64 ((w64 (a*c)) - (w64 (b*d)))) 1048576
 (fun h l=>jn α (w64 ((w64 (a*d))+(w64 (b*c)))) 1048576
 (fun i m=>mY α a b
 (fun o=>mY α c d
 (fun p=>cy α (w64 ((w64 ((w64 (o*g))+(w64 (p*e))))+(w64 (e*g)))) 1048576
 (fun j=>cK l
 (mR α true
 (fun q=>dD α h i (w64 (j+q))
 (fun r s t w=>k1 r s t w)))
 (mR α m
 (fun z=>dD α h i (w64 (j+z))
 (fun A B C D=>k1 A B C D))))))))
def EE:fS:=sld Y0
def XM (v:fS)(α:Type)(k:RT α):I6 (Op α):=fun a b c d e g=>v α a b c d e g (fun h i j l=>bD k h i j l)
theorem arn:ak Pg 266 70 ⟨dY,XM EE⟩:=iP ek4 aCh (ah Tryz.func266 (by kernel_rfl)) aAS fun _ _=>by kernel_rfl
def aFw:TG:=[tT 0 [2,3,4],tT 1 [4,5]]
def aFg:ap:=aw Pg Tryz.f265 aFw aC
def Ss (α:Type)(a b c d e g:Int)(k1:I4 (Op α)):Op α:=
 dD α (w64 (a+d)) (w64 (b+e)) (w64 (c+g))
 (fun h i j l=>k1 h i j l)
def Df:fS:=sld Ss
def U6 (v:fS)(α:Type)(k:RT α):I6 (Op α):=fun a b c d e g=>v α a b c d e g (fun h i j l=>bD k h i j l)
theorem anY:ak Pg 265 25 ⟨dY,U6 Df⟩:=iP ek4 aFg (ah Tryz.func265 (by kernel_rfl)) au9 fun _ _=>by kernel_rfl
def aEe:TG:=[tT 0 [0,1,4],tT 1 [0,1,4,15],tT 2 [4,5],tT 3 [4,6,7],tT 4 [4,5]]
def aBL:ap:=aw Pg Tryz.f270 aEe aC
def QM (α:Type)(a b:Int)(k1:I4 (Op α)):Op α:=
 cS α a (-1000000000) 1000000000
 (fun c=>cK (!c)
 (k1 0 0 0 2)
 (cS α b 1 1000000000
 (fun d=>cK (!d)
 (k1 0 0 0 2)
 (mD α a b
 (fun e g=>mR α g
 (fun h=>dD α e 0 h
 (fun i j l m=>k1 i j l m)))))))
def yj:kj:=sld QM
def VU (v:kj)(α:Type)(k:RT α):Int->Int->Op α:=fun a b=>v α a b (fun c d e g=>bD k c d e g)
theorem ap3:ak Pg 270 30 ⟨bq,VU yj⟩:=iP ek4 aBL (ah Tryz.func270 (by kernel_rfl)) aN fun _ _=>by kernel_rfl
def aCR:SG:=[(6,iT),(11,iT),(17,iT),(19,iT),(23,iT),(25,iT),(30,iT)]
def aHV:TG:=[tT 0 [1,2],tT 1 [1,2,14],tT 2 [2,3],tT 3 [1,2,20],tT 4 [2,3],tT 5 [1,2,4],tT 6 [2,3]]
def aAD:ap:=aw Pg Tryz.f249 aHV aC
def SM (α:Type)(b a:Int)(k1:I4 (Op α)):Op α:=
 nw α b
 (fun d=>cK (!d)
 (k1 0 0 0 2)
 (nw α a
 (fun e=>cK (!e)
 (k1 0 0 0 2)
 (cK (decide (a < b))
 (k1 0 0 0 10)
 (dC α (w64 (b+a)) 2
 (fun c=>dD α c 0 (w64 (a - c))
 (fun g h i j=>k1 g h i j)))))))
def g6:kj:=sld SM
def VL (v:kj)(α:Type)(k:RT α):Int->Int->Op α:=fun a b=>v α a b (fun c d e g=>bD k c d e g)
theorem aqS:ak Pg 249 37 ⟨ba,VL g6⟩:=iP ek4 aAD (ah Tryz.func249 (by kernel_rfl)) aCR fun _ _=>by kernel_rfl
def acn:SG:=[(19,iS 5),(20,iS 5),(28,iT),(33,iT)]
def aK1:TG:=[tT 0 [0,3],tT 1 [0,3,10],tT 2 [4,5],tT 3 [0,3,6],tT 4 [0,3,6,14],tT 6 [0,3,6,7],tT 7 [0,3,6,7,23],tT 8 [4,5],tT 5 [0,3,6],tT 9 [36],tT 10 [4,5],tT 11 [4,5]]
def aJA:TG:=[tT 4 [0,3,6]]
def ap2:ap:=aw Pg Tryz.f73 aK1 aJA
def uf:OT:=tdC (ag.sub [1,1,0,1,0] (emb ap2))
def Ky:PT St:=pS [sl 0 (aV false [(cD dL)]),sP 3,sI 6] [au 3 [xI,xI]]
def Jt {β:Type}(g:St->β):ae->Int->Int->Int->β:=Ky.unc g
def at1:PT St:=pS [sI 4,sI 5] []
def zU {β:Type}(g:St->β):Int->Int->β:=at1.unc g
def atq:PT St:=pS [sl 0 (aV false [(cD dL)]),sP 3,sI 6,sl 14 (aV false [(cD dB)])] [au 3 [xI,xI]]
def AK {β:Type}(g:St->β):ae->Int->Bool->Int->Int->β:=atq.unc g
def sQ:ag:=ag.sub [1,1,0,1,0,0] (emb ap2)
def wM (α:Type)(b:ae)(a:Int)(kn:Int->Op α)(k1:Int->Int->Op α)(k2:Int->Bool->Op α):Op α:=
 cK (decide (a < ((List.length b:Nat):Int)))
 (dE b a [.int .i64,.int .i64,.int .i64,.int .i64,.int .i64]
 (fun d e g h i=>NX α d e g h i
 (fun c=>cK (c != 0)
 (k1 (w64 (a+1)) c)
 (kn (w64 (a+1))))))
 (k2 a (decide (a < ((List.length b:Nat):Int))))
def qF (α:Type)(a:ae)(k1:Int->Int->Op α)(k2:Int->Bool->Op α):Nat->Int->Op α
 | 0,_=>none
 | n+1,b=>wM α a b (qF α a k1 k2 n) k1 k2
def Mr (α:Type)(a:ae)(k1:Int->Int->Op α)(k2:Int->Bool->Op α)(b:Int):Op α:=qF α a k1 k2 aG b
abbrev tU:Type 1:=(α:Type)->ae->(Int->Int->Op α)->(Int->Bool->Op α)->Int->Op α
def Ag:tU:=sld Mr
def QY (v:tU)(α:Type)(K:KT α):ae->Int->Int->Int->Op α:=fun c d e g=>v α c (fun a b=>zU (K .ret) a b) (fun a b=>AK (K (.exit 0)) c a b e g) d
theorem ar1 (α:Type)(K:KT α)(Kn:SK α)(a:ae)(b c d:Int):Jt (fun σ=>az Pg Ek4 acn sQ (bM (fun σ=>br uf σ Kn) K) σ) a b c d=wM α a b (fun b=>Jt Kn a b c d) (fun e g=>zU (K .ret) e g) (fun e g=>AK (K (.exit 0)) a e g c d):=by kernel_rfl
theorem asU (α:Type)(K:KT α):∀ (n:Nat) (a:ae) (b e g:Int),qF α a (fun c d=>zU (K .ret) c d) (fun c d=>AK (K (.exit 0)) a c d e g) n b=Jt (aK (az Pg Ek4 acn sQ) uf K n) a b e g:=by
 intro n
 induction n with
 | zero=>intros;rfl
 | succ n ih=>intro a b e g;exact (congrArg (fun kn=>wM α a b kn (fun c d=>zU (K .ret) c d) (fun c d=>AK (K (.exit 0)) a c d e g)) (funext fun b=>ih a b e g)).trans (ar1 α K (aK (az Pg Ek4 acn sQ) uf K n) a b e g).symm
theorem aqu:∀ (α:Type) (K:KT α),QY Ag α K=Ky.unc fun σ=>aK (az Pg Ek4 acn sQ) uf K aG σ:=aY (fun α K=>funext fun a=>funext fun b=>funext fun c=>funext fun d=>asU α K aG a b c d)
abbrev afq:Type 1:=(α:Type)->ae->Int->Int->(Int->Int->Op α)->Op α
def alP (α:Type)(a:ae)(b c:Int)(k1:Int->Int->Op α):Op α:=
 cK (decide (40 < ((List.length a:Nat):Int)))
 (k1 0 8)
 (Ag α a
 (fun d e=>k1 d e)
 (fun i j=>Ly α b
 (fun g=>cK (!g)
 (k1 0 2)
 (sb α c
 (fun h=>cK (!h)
 (k1 0 2)
 (k1 0 0))))) 0)
def G1:afq:=sld alP
def alM:PT (List DV):=pA [pV false [dL],pV true [(dI .i64),(dI .i64)]]
def akd (v:afq)(α:Type)(k:RT α):ae->Int->Int->Op α:=fun a b c=>v α a b c (fun d e=>g8 k d e)
def awr:ag:=(ag.put (.m [⟨Ky,QY Ag⟩]) [1,1,0,1,0] (emb ap2))
theorem ays:ak Pg 73 37 ⟨alM,akd G1⟩:=iZ ek4 (ah Tryz.func73 (by kernel_rfl)) acn awr ((an _ _).trans (aA _)) (aZ (td:=uf) (by kernel_rfl) (aD ap2) ⟨aqu,trivial⟩) fun _ _=>by kernel_rfl
def ae8:SG:=[(20,iS 9),(21,iS 9)]
def aKl:TG:=[tT 0 [0],tT 1 [0,8],tT 2 [2,3],tT 3 [0,11],tT 4 [2,3],tT 5 [0,4],tT 6 [0,4,15],tT 8 [0,4,5],tT 9 [0,4,5,24],tT 10 [2,3],tT 7 [0,4],tT 11 [2,3]]
def aJc:TG:=[tT 6 [0,4]]
def amU:ap:=aw Pg Tryz.f72 aKl aJc
def vE:OT:=tdC (ag.sub [1,1,1,0,1,0] (emb amU))
def HV:PT St:=pS [sl 0 (aV false [(cD dL)]),sI 4] []
def Kj {β:Type}(g:St->β):ae->Int->β:=HV.unc g
def aqd:PT St:=pS [sI 2,sI 3] []
def fQ {β:Type}(g:St->β):Int->Int->β:=aqd.unc g
def ami:PT St:=pS [sl 0 (aV false [(cD dL)]),sI 4,sl 15 (aV false [(cD dB)])] []
def At {β:Type}(g:St->β):ae->Int->Bool->β:=ami.unc g
def wO:ag:=ag.sub [1,1,1,0,1,0,0] (emb amU)
def s8 (α:Type)(b:ae)(a:Int)(kn:Int->Op α)(k1:Int->Int->Op α)(k2:Int->Bool->Op α):Op α:=
 cK (decide (a < ((List.length b:Nat):Int)))
 (dE b a [.int .i64,.int .i64,.int .i64,.int .i64,.int .i64,.int .i64,.int .i64,.int .i64,.int .i64]
 (fun d e g h i j l m o=>Oh α d e g h i j l m o
 (fun c=>cK (c != 0)
 (k1 a c)
 (kn (w64 (a+1))))))
 (k2 a (decide (a < ((List.length b:Nat):Int))))
def qR (α:Type)(a:ae)(k1:Int->Int->Op α)(k2:Int->Bool->Op α):Nat->Int->Op α
 | 0,_=>none
 | n+1,b=>s8 α a b (qR α a k1 k2 n) k1 k2
def NF (α:Type)(a:ae)(k1:Int->Int->Op α)(k2:Int->Bool->Op α)(b:Int):Op α:=qR α a k1 k2 aG b
def As:tU:=sld NF
def XL (v:tU)(α:Type)(K:KT α):ae->Int->Op α:=fun c d=>v α c (fun a b=>fQ (K .ret) a b) (fun a b=>At (K (.exit 0)) c a b) d
theorem arY (α:Type)(K:KT α)(Kn:SK α)(a:ae)(b:Int):Kj (fun σ=>az Pg Ek4 ae8 wO (bM (fun σ=>br vE σ Kn) K) σ) a b=s8 α a b (fun b=>Kj Kn a b) (fun c d=>fQ (K .ret) c d) (fun c d=>At (K (.exit 0)) a c d):=by kernel_rfl
theorem aqE (α:Type)(K:KT α):∀ (n:Nat) (a:ae) (b:Int),qR α a (fun c d=>fQ (K .ret) c d) (fun c d=>At (K (.exit 0)) a c d) n b=Kj (aK (az Pg Ek4 ae8 wO) vE K n) a b:=by
 intro n
 induction n with
 | zero=>intros;rfl
 | succ n ih=>intro a b;exact (congrArg (fun kn=>s8 α a b kn (fun c d=>fQ (K .ret) c d) (fun c d=>At (K (.exit 0)) a c d)) (funext fun b=>ih a b)).trans (arY α K (aK (az Pg Ek4 ae8 wO) vE K n) a b).symm
theorem auA:∀ (α:Type) (K:KT α),XL As α K=HV.unc fun σ=>aK (az Pg Ek4 ae8 wO) vE K aG σ:=aY (fun α K=>funext fun a=>funext fun b=>aqE α K aG a b)
abbrev IB:Type 1:=(α:Type)->ae->(Int->Int->Op α)->Op α
def ah0 (α:Type)(a:ae)(k1:Int->Int->Op α):Op α:=
 cK (((List.length a:Nat):Int) == 0)
 (k1 0 12)
 (cK (decide (8 < ((List.length a:Nat):Int)))
 (k1 0 8)
 (As α a
 (fun b c=>k1 b c)
 (fun d e=>k1 0 0) 0))
def M8:IB:=sld ah0
def acO (v:IB)(α:Type)(k:RT α):ae->Op α:=fun a=>v α a (fun b c=>g8 k b c)
def awu:ag:=(ag.put (.m [⟨HV,XL As⟩]) [1,1,1,0,1,0] (emb amU))
theorem ayi:ak Pg 72 27 ⟨ox,acO M8⟩:=iZ ek4 (ah Tryz.func72 (by kernel_rfl)) ae8 awu ((an _ _).trans (aA _)) (aZ (td:=vE) (by kernel_rfl) (aD amU) ⟨auA,trivial⟩) fun _ _=>by kernel_rfl
def awa:SG:=[(6,iS 2),(14,iT),(17,iT),(23,iT),(26,iT),(31,iS 2)]
def aG9:TG:=[tT 0 [1,2],tT 1 [1,2,4],tT 2 [1,2,4,9],tT 3 [2,3],tT 4 [1,2,5],tT 5 [1,2,5,15],tT 6 [1,2,5],tT 7 [1,2,5,24],tT 8 [2,5],tT 9 [2,3]]
def ahH:ap:=aw Pg Tryz.f215 aG9 aC
def EA:PT St:=pS [sP 1,sP 2,sP 5] [au 1 [xI,xI],au 2 [xI,xI],au 5 [xI,xI]]
def ahR {β:Type}(g:St->β):I6 β:=EA.unc g
def als:PT St:=pS [sP 1,sP 2,sP 5,sl 15 (aV false [(cD dB)])] [au 1 [xI,xI],au 2 [xI,xI],au 5 [xI,xI]]
def adJ {β:Type}(g:St->β):Bool->I6 β:=als.unc g
def aaV:ag:=ag.sub [1,1,1,0] (emb ahH)
def FY (α:Type)(a:Int)(k1:Int->Op α)(k2:Bool->Op α):Op α:=
 cK (decide (a<=16777216))
 (CB α a
 (fun c=>fV α c 1024
 (fun b=>k1 (if b > 0 then b else 0))))
 (k2 (decide (a<=16777216)))
def vX:i8:=sld FY
def KY (v:i8)(α:Type)(K:KT α):I6 (Op α):=fun c a d e h g=>v α a (fun b=>ahR (K .normal) c a d e b g) (fun b=>adJ (K .normal) b c a d e h g)
theorem ahK:∀ (α:Type) (K:KT α),KY vX α K=EA.unc fun σ=>az Pg Ek4 awa aaV K σ:=aY (fun α K=>by kernel_rfl)
def Ql (α:Type)(a b:Int)(k1:Int->Int->Int->Op α):Op α:=
 xH α a b 0
 (fun c=>cK (c != 0)
 (k1 0 0 c)
 (vX α b
 (fun d=>cK (decide (a<=16777216))
 (yp α a
 (fun h=>cB α h 1024
 (fun e=>k1 d (if e < 1048576 then e else 1048576) 0)))
 (k1 d 1 0))
 (fun j=>cK (decide (a<=16777216))
 (yp α a
 (fun i=>cB α i 1024
 (fun g=>k1 0 (if g < 1048576 then g else 1048576) 0)))
 (k1 0 1 0))))
def su:zH:=sld Ql
def Yh (v:zH)(α:Type)(k:RT α):Int->Int->Op α:=fun a b=>v α a b (fun c d e=>jd k c d e)
def aqj:ag:=(ag.put (.m [⟨EA,KY vX⟩]) [1,1,1] (emb ahH))
theorem ary:ak Pg 215 32 ⟨ba,Yh su⟩:=iZ ek4 (ah Tryz.func215 (by kernel_rfl)) awa aqj ((an _ _).trans (aA _)) (aL (by kernel_rfl) (aD ahH) ⟨ahK,trivial⟩) fun _ _=>by kernel_rfl
def MM:SG:=[(27,iS 2),(28,iS 2),(34,iS 2),(36,iS 2),(40,iS 2),(41,iS 2)]
def aDn:TG:=[tT 0 [0,2],tT 1 [0,2,3],tT 2 [0,2,4,5],tT 3 [0,2,4,5,6,7],tT 4 [0,2,4,5,6,7,22],tT 5 [0,2,4,5,6,7,8],tT 6 [0,2,4,5,6,7,8,9],tT 7 [0,2,4,5,6,7,8,9,32],tT 8 [0,2,4,5,6,7],tT 9 [0,2,4,5,6,7],tT 10 [2,4,5,39],tT 11 [2],tT 12 [2]]
def aHq:TG:=[tT 4 [0,2,4,5,6,7]]
def UC:ap:=aw Pg Tryz.f282 aDn aHq
def oP:OT:=tdC (ag.sub [1,1,1,1,0,0] (emb UC))
def Ez:PT St:=pS [sI 0,sP 2,sP 4,sP 5,sI 6,sI 7] [au 2 [xI,xI],au 4 [xI,xI],au 5 [xI,xI]]
def Cn {β:Type}(g:St->β):I9 β:=Ez.unc g
def aif:PT St:=pS [sI 0,sP 2,sP 4,sP 5,sI 6,sI 7,sl 22 (aV false [(cD dB)])] [au 2 [xI,xI],au 4 [xI,xI],au 5 [xI,xI]]
def tN {β:Type}(g:St->β):Int->Int->Int->Bool->I6 β:=aif.unc g
def qe:ag:=ag.sub [1,1,1,1,0,0,0] (emb UC)
def nL (α:Type)(c b a d e g h:Int)(kn:I6 (Op α))(k1:Int->Int->Bool->I4 (Op α)):Op α:=
 cK (c != b)
 (cK (c != a)
 (Dy α d e g h
 (fun i j=>cK (decide ((w64 (Int.tdiv (w64 (b+a)) 2))<=c))
 (kn (w64 (Int.tdiv (w64 (b+a)) 2)) a i j g h)
 (kn b (w64 (Int.tdiv (w64 (b+a)) 2)) d e i j)))
 (k1 b a (c != a) d e g h))
 (k1 b a false d e g h)
def lZ (α:Type)(a:Int)(k1:Int->Int->Bool->I4 (Op α)):Nat->I6 (Op α)
 | 0,_,_,_,_,_,_=>none
 | n+1,b,c,d,e,g,h=>nL α a b c d e g h (lZ α a k1 n) k1
def Hh (α:Type)(a:Int)(k1:Int->Int->Bool->I4 (Op α))(b c d e g h:Int):Op α:=lZ α a k1 aG b c d e g h
abbrev Fu:Type 1:=(α:Type)->Int->(Int->Int->Bool->I4 (Op α))->I6 (Op α)
def sW:Fu:=sld Hh
def Og (v:Fu)(α:Type)(K:KT α):I9 (Op α):=fun a b c d e g h i j=>v α a (fun l m o p q r s=>tN (K (.exit 0)) a l m o d e p q r s) b c g h i j
theorem aeH (α:Type)(K:KT α)(Kn:SK α)(a b c i j d e g h:Int):Cn (fun σ=>az Pg Ek4 MM qe (bM (fun σ=>br oP σ Kn) K) σ) a b c i j d e g h=nL α a b c d e g h (fun b c d e g h=>Cn Kn a b c i j d e g h) (fun l m o p q r s=>tN (K (.exit 0)) a l m o i j p q r s):=by kernel_rfl
theorem acV (α:Type)(K:KT α):∀ (n:Nat) (a b c i j d e g h:Int),lZ α a (fun l m o p q r s=>tN (K (.exit 0)) a l m o i j p q r s) n b c d e g h=Cn (aK (az Pg Ek4 MM qe) oP K n) a b c i j d e g h:=by
 intro n
 induction n with
 | zero=>intros;rfl
 | succ n ih=>intro a b c i j d e g h;exact (congrArg (fun kn=>nL α a b c d e g h kn (fun l m o p q r s=>tN (K (.exit 0)) a l m o i j p q r s)) (funext fun b=>funext fun c=>funext fun d=>funext fun e=>funext fun g=>funext fun h=>ih a b c i j d e g h)).trans (aeH α K (aK (az Pg Ek4 MM qe) oP K n) a b c i j d e g h).symm
theorem adj:∀ (α:Type) (K:KT α),Og sW α K=Ez.unc fun σ=>aK (az Pg Ek4 MM qe) oP K aG σ:=aY (fun α K=>funext fun a=>funext fun b=>funext fun c=>funext fun d=>funext fun e=>funext fun g=>funext fun h=>funext fun i=>funext fun j=>acV α K aG a b c d e g h i j)
def Rr (α:Type)(a:Int)(k1:Int->Int->Op α):Op α:=
 eD α 2251799813685248
 (fun b=>sW α a
 (fun c i j d e g h=>cK (a == c)
 (k1 d e)
 (k1 g h)) 0 524288 67108864 0 b b)
def iy:ea:=sld Rr
def T5 (v:ea)(α:Type)(k:RT α):Int->Op α:=fun a=>v α a (fun b c=>bt k b c)
def aq0:ag:=(ag.put (.m [⟨Ez,Og sW⟩]) [1,1,1,1,0,0] (emb UC))
theorem ap0:ak Pg 282 42 ⟨aU,T5 iy⟩:=iZ ek4 (ah Tryz.func282 (by kernel_rfl)) MM aq0 ((an _ _).trans (aA _)) (aZ (td:=oP) (by kernel_rfl) (aD UC) ⟨adj,trivial⟩) fun _ _=>by kernel_rfl
def aBw:TG:=[tT 0 [0,1,2],tT 1 [2,7,8],tT 2 [2,7,8,22],tT 3 [6],tT 4 [9,10],tT 5 [9,10,32],tT 6 [6],tT 7 [9,34],tT 8 [9],tT 9 [6]]
def aFM:ap:=aw Pg Tryz.f226 aBw aC
def Qc (α:Type)(d e b:Int)(k1:Int->Op α):Op α:=
 xS α (IntKind.wrap .u64 (d)) (IntKind.wrap .u64 (e))
 (fun c g=>cK (decide ((IntKind.wrap .u64 (b))<=c))
 (k1 2147483647)
 (yi α c g (IntKind.wrap .u64 (b))
 (fun a h=>cK (decide (2147483647<=a))
 (k1 2147483647)
 (cK (h != 0)
 (k1 (w64 ((IntKind.wrap .u64 (a+1)))))
 (k1 (w64 (a)))))))
def Ci:zC:=sld Qc
def XX (v:zC)(α:Type)(k:RT α):Int->Int->Int->Op α:=fun a b c=>v α a b c (fun d=>aQ k d)
theorem anT:ak Pg 226 39 ⟨eT,XX Ci⟩:=iP ek4 aFM (ah Tryz.func226 (by kernel_rfl)) aN fun _ _=>by kernel_rfl
def aBk:TG:=[tT 0 [0,1,2],tT 1 [0,2,8,9],tT 2 [0,2,8,9,24],tT 3 [6,7],tT 4 [0,2,10,11],tT 5 [0,2,10,11,34],tT 6 [6,7],tT 7 [0,2,6,7,11],tT 8 [0,6,7,54],tT 9 [0,6,7],tT 10 [6,7,58],tT 11 [6,7],tT 12 [6,7]]
def air:ap:=aw Pg Tryz.f200 aBk aC
def DA:PT St:=pS [sI 0,sI 2,sI 6,sl 7 (aV false [(cD dB)]),sl 11 (aV false [(cD (dI .u64))])] []
def aDp {β:Type}(g:St->β):Int->Int->Int->Bool->Int->β:=DA.unc g
def aiZ:PT St:=pS [sI 0,sI 6,sl 7 (aV false [(cD dB)]),sl 54 (aV false [(cD dB)])] []
def alo {β:Type}(g:St->β):Int->Int->Bool->Bool->β:=aiZ.unc g
def aa9:ag:=ag.sub [1,1,1,1,1,1,0,0] (emb air)
def FP (α:Type)(c a b:Int)(k1:Bool->Op α):Op α:=
 cK (decide ((IntKind.wrap .u64 (a)) < (IntKind.wrap .u64 (2*b))))
 (k1 true)
 (cK (decide (0<=c))
 (k1 ((IntKind.wrap .u64 (2*b)) == (IntKind.wrap .u64 (a))))
 (k1 false))
def pQ:cg:=sld FP
def MN (v:cg)(α:Type)(K:KT α):Int->Int->Int->Bool->Int->Op α:=fun a b c d e=>v α a b e (fun g=>alo (K .normal) a c d g)
theorem agQ:∀ (α:Type) (K:KT α),MN pQ α K=DA.unc fun σ=>az Pg Ek4 aN aa9 K σ:=aY (fun α K=>by kernel_rfl)
abbrev U3:Type 1:=(α:Type)->Int->Int->Int->(Int->Bool->Op α)->Op α
def TQ (α:Type)(c g d:Int)(k1:Int->Bool->Op α):Op α:=
 oS α c
 (fun h=>xS α (IntKind.wrap .u64 (h)) (IntKind.wrap .u64 (g))
 (fun e i=>cK (decide ((IntKind.wrap .u64 (d))<=e))
 (k1 2147483647 false)
 (yi α e i (IntKind.wrap .u64 (d))
 (fun a b=>cK (decide (2147483647 < a))
 (k1 2147483647 false)
 (pQ α c d b
 (fun j=>cK j
 (cK (decide (c < 0))
 (k1 (w64 (0 - (w64 ((w64 (a))+1)))) (b != 0))
 (k1 (w64 ((w64 (a))+1)) (b != 0)))
 (cK (decide (c < 0))
 (k1 (w64 (0 - (w64 (a)))) (b != 0))
 (k1 (w64 (a)) (b != 0)))))))))
def mK:U3:=sld TQ
def VX (v:U3)(α:Type)(k:RT α):Int->Int->Int->Op α:=fun a b c=>v α a b c (fun d e=>qo k d e)
def apH:ag:=(ag.put (.m [⟨DA,MN pQ⟩]) [1,1,1,1,1,1,0] (emb air))
theorem asG:ak Pg 200 63 ⟨eT,VX mK⟩:=iZ ek4 (ah Tryz.func200 (by kernel_rfl)) aN apH ((an _ _).trans (aA _)) (aL (by kernel_rfl) (aD air) ⟨agQ,trivial⟩) fun _ _=>by kernel_rfl
def aBQ:TG:=[tT 0 [1],tT 1 [2]]
def aDr:ap:=aw Pg Tryz.f204 aBQ aC
def Zg (α:Type)(a b:Int)(k1:Int->Op α):Op α:=
 jq α a b
 (fun c=>pl α c
 (fun d=>k1 d))
def mE:bz:=sld Zg
def QE (v:bz)(α:Type)(k:RT α):Int->Int->Op α:=fun a b=>v α a b (fun c=>aQ k c)
theorem amK:ak Pg 204 6 ⟨ba,QE mE⟩:=iP ek4 aDr (ah Tryz.func204 (by kernel_rfl)) avD fun _ _=>by kernel_rfl
def ov:SG:=[(16,[.flt .f64,.flt .f64]),(25,[.flt .f64,.flt .f64])]
def aHL:TG:=[tT 0 [0,1,4],tT 1 [0,1,4,6],tT 2 [0,1,4,6,16,17],tT 3 [0,1,4,6,16,17,18],tT 4 [0,1,4,6,8,16,17],tT 5 [0,1,4,6,16,17,22],tT 6 [4,5],tT 7 [0,1,4,6,16,17],tT 8 [0,1,4,25,26],tT 9 [0,1,4,25,26,27],tT 10 [0,1,4,10,25,26],tT 11 [0,1,4,25,26,32],tT 12 [4,5],tT 13 [0,1,4,25,26],tT 14 [4,5]]
def aHt:TG:=[tT 3 [0,1,4,6,16,17],tT 9 [0,1,4,25,26]]
def zg:ap:=aw Pg Tryz.f202 aHL aHt
def vx:OT:=tdC (ag.sub [1,1,0,1,0] (emb zg))
def nO:OT:=tdC (ag.sub [1,1,1,0,1,0] (emb zg))
def tE:PT St:=pS [sl 0 (aV false [(cD (dX .f64))]),sl 1 (aV false [(cD (dF .f64))]),sP 4,sP 6,sl 16 (aV true [(cD (dF .f64)),(cD (dF .f64))]),sI 17,sl 18 (aV false [(cD dB)])] [au 4 [xI,xI],au 6 [(cD (dF .f64)),(cD (dF .f64))]]
def sK {β:Type}(g:St->β):Nat->Nat->Nat->Nat->Nat->Int->Bool->Int->Int->Nat->Nat->β:=tE.unc g
def agM:PT St:=pS [sl 0 (aV false [(cD (dX .f64))]),sl 1 (aV false [(cD (dF .f64))]),sP 4,sP 6,sl 8 (aV false [(cD (dF .f64))]),sl 16 (aV true [(cD (dF .f64)),(cD (dF .f64))]),sI 17] [au 4 [xI,xI],au 6 [(cD (dF .f64)),(cD (dF .f64))]]
def ahX {β:Type}(g:St->β):Nat->Nat->Nat->Nat->Nat->Nat->Int->Int->Int->Nat->Nat->β:=agM.unc g
def Bx:PT St:=pS [sl 0 (aV false [(cD (dX .f64))]),sl 1 (aV false [(cD (dF .f64))]),sP 4,sP 6,sl 16 (aV true [(cD (dF .f64)),(cD (dF .f64))]),sI 17] [au 4 [xI,xI],au 6 [(cD (dF .f64)),(cD (dF .f64))]]
def CJ {β:Type}(g:St->β):Nat->Nat->Nat->Nat->Nat->Int->Int->Int->Nat->Nat->β:=Bx.unc g
def afZ:PT St:=pS [sP 4,sI 5] [au 4 [xI,xI]]
def il {β:Type}(g:St->β):Int->Int->Int->β:=afZ.unc g
def sX:PT St:=pS [sl 0 (aV false [(cD (dX .f64))]),sl 1 (aV false [(cD (dF .f64))]),sP 4,sl 25 (aV true [(cD (dF .f64)),(cD (dF .f64))]),sI 26,sl 27 (aV false [(cD dB)])] [au 4 [xI,xI]]
def tR {β:Type}(g:St->β):Nat->Nat->Nat->Nat->Nat->Int->Bool->Int->Int->β:=sX.unc g
def ahD:PT St:=pS [sl 0 (aV false [(cD (dX .f64))]),sl 1 (aV false [(cD (dF .f64))]),sP 4,sl 10 (aV false [(cD (dF .f64))]),sl 25 (aV true [(cD (dF .f64)),(cD (dF .f64))]),sI 26] [au 4 [xI,xI]]
def alv {β:Type}(g:St->β):Nat->Nat->Nat->Nat->Nat->Nat->Int->Int->Int->β:=ahD.unc g
def CH:PT St:=pS [sl 0 (aV false [(cD (dX .f64))]),sl 1 (aV false [(cD (dF .f64))]),sP 4,sl 25 (aV true [(cD (dF .f64)),(cD (dF .f64))]),sI 26] [au 4 [xI,xI]]
def Ec {β:Type}(g:St->β):Nat->Nat->Nat->Nat->Nat->Int->Int->Int->β:=CH.unc g
def abk:ag:=ag.sub [1,1,1,0,1,0,0,1,1,0,0,0] (emb zg)
abbrev qm:Type 1:=(α:Type)->Nat->Nat->Int->(Nat->Op α)->Op α
def Ff (α:Type)(b c:Nat)(a:Int)(k1:Nat->Op α):Op α:=
 cK (a == 1)
 (k1 c)
 (cK (a == 0)
 (k1 b)
 (none))
def pf:qm:=sld Ff
def DO (v:qm)(α:Type)(K:KT α):Nat->Nat->Nat->Nat->Nat->Int->Bool->Int->Int->Op α:=fun d e g a b c l h i=>v α a b c (fun j=>alv (K .normal) d e g j a b c h i)
theorem aiT:∀ (α:Type) (K:KT α),DO pf α K=sX.unc fun σ=>az Pg Ek4 ov abk K σ:=aY (fun α K=>by kernel_rfl)
def qu:ag:=ag.sub [1,1,1,0,1,0,0] (ag.put (.m [⟨sX,DO pf⟩]) [1,1,1,0,1,0,0,1,1,0,0] (emb zg))
def uZ (α:Type)(b c d:Nat)(a:Int)(kn:Int->Op α)(k1:Op α)(k2:Int->Bool->Op α):Op α:=
 cK (decide (a < 2))
 (pf α c d a
 (fun e=>xY α e
 (fun g=>cK ((FloatKind.format .f64).order g b == some Ordering.gt)
 (k1)
 (kn (w64 (a+1))))))
 (k2 a (decide (a < 2)))
def wn (α:Type)(a b c:Nat)(k1:Op α)(k2:Int->Bool->Op α):Nat->Int->Op α
 | 0,_=>none
 | n+1,d=>uZ α a b c d (wn α a b c k1 k2 n) k1 k2
def FD (α:Type)(a b c:Nat)(k1:Op α)(k2:Int->Bool->Op α)(d:Int):Op α:=wn α a b c k1 k2 aG d
abbrev Hq:Type 1:=(α:Type)->Nat->Nat->Nat->(Op α)->(Int->Bool->Op α)->Int->Op α
def vh:Hq:=sld FD
def Lo (v:Hq)(α:Type)(K:KT α):Nat->Nat->Nat->Nat->Nat->Int->Int->Int->Op α:=fun d e a b c g h i=>v α a b c (il (K .ret) 2 0 0) (fun j l=>tR (K (.exit 2)) d e a b c j l h i) g
theorem agq (α:Type)(K:KT α)(Kn:SK α)(e g a b c:Nat)(d h i:Int):Ec (fun σ=>az Pg Ek4 ov qu (bM (fun σ=>br nO σ Kn) K) σ) e g a b c d h i=uZ α a b c d (fun d=>Ec Kn e g a b c d h i) (il (K .ret) 2 0 0) (fun j l=>tR (K (.exit 2)) e g a b c j l h i):=by kernel_rfl
theorem afG (α:Type)(K:KT α):∀ (n:Nat) (e g a b c:Nat) (d h i:Int),wn α a b c (il (K .ret) 2 0 0) (fun j l=>tR (K (.exit 2)) e g a b c j l h i) n d=Ec (aK (az Pg Ek4 ov qu) nO K n) e g a b c d h i:=by
 intro n
 induction n with
 | zero=>intros;rfl
 | succ n ih=>intro e g a b c d h i;exact (congrArg (fun kn=>uZ α a b c d kn (il (K .ret) 2 0 0) (fun j l=>tR (K (.exit 2)) e g a b c j l h i)) (funext fun d=>ih e g a b c d h i)).trans (agq α K (aK (az Pg Ek4 ov qu) nO K n) e g a b c d h i).symm
theorem acP:∀ (α:Type) (K:KT α),Lo vh α K=CH.unc fun σ=>aK (az Pg Ek4 ov qu) nO K aG σ:=aY (fun α K=>funext fun a=>funext fun b=>funext fun c=>funext fun d=>funext fun e=>funext fun g=>funext fun h=>funext fun i=>afG α K aG a b c d e g h i)
def abw:ag:=ag.sub [1,1,0,1,0,0,1,1,0,0,0] (emb zg)
def GD (α:Type)(b c:Nat)(a:Int)(k1:Nat->Op α):Op α:=
 cK (a == 1)
 (k1 c)
 (cK (a == 0)
 (k1 b)
 (none))
def ot:qm:=sld GD
def DS (v:qm)(α:Type)(K:KT α):Nat->Nat->Nat->Nat->Nat->Int->Bool->Int->Int->Nat->Nat->Op α:=fun d e g a b c o h i j l=>v α a b c (fun m=>ahX (K .normal) d e g m a b c h i j l)
theorem acR:∀ (α:Type) (K:KT α),DS ot α K=tE.unc fun σ=>az Pg Ek4 ov abw K σ:=aY (fun α K=>by kernel_rfl)
def vQ:ag:=ag.sub [1,1,0,1,0,0] (ag.put (.m [⟨tE,DS ot⟩]) [1,1,0,1,0,0,1,1,0,0] (emb zg))
def sR (α:Type)(b c:Nat)(a:Int)(kn:Int->Op α)(k1:Op α)(k2:Int->Bool->Op α):Op α:=
 cK (decide (a < 2))
 (ot α b c a
 (fun d=>Cy α d
 (fun e=>cK (!e)
 (k1)
 (kn (w64 (a+1))))))
 (k2 a (decide (a < 2)))
def vS (α:Type)(a b:Nat)(k1:Op α)(k2:Int->Bool->Op α):Nat->Int->Op α
 | 0,_=>none
 | n+1,c=>sR α a b c (vS α a b k1 k2 n) k1 k2
def G9 (α:Type)(a b:Nat)(k1:Op α)(k2:Int->Bool->Op α)(c:Int):Op α:=vS α a b k1 k2 aG c
abbrev FQ:Type 1:=(α:Type)->Nat->Nat->(Op α)->(Int->Bool->Op α)->Int->Op α
def sZ:FQ:=sld G9
def KV (v:FQ)(α:Type)(K:KT α):Nat->Nat->Nat->Nat->Nat->Int->Int->Int->Nat->Nat->Op α:=fun c d e a b g h i j l=>v α a b (il (K .ret) 27 0 0) (fun m o=>sK (K (.exit 0)) c d e a b m o h i j l) g
theorem aie (α:Type)(K:KT α)(Kn:SK α)(d e g a b:Nat)(c h i:Int)(j l:Nat):CJ (fun σ=>az Pg Ek4 ov vQ (bM (fun σ=>br vx σ Kn) K) σ) d e g a b c h i j l=sR α a b c (fun c=>CJ Kn d e g a b c h i j l) (il (K .ret) 27 0 0) (fun m o=>sK (K (.exit 0)) d e g a b m o h i j l):=by kernel_rfl
theorem afT (α:Type)(K:KT α):∀ (n:Nat) (d e g a b:Nat) (c h i:Int) (j l:Nat),vS α a b (il (K .ret) 27 0 0) (fun m o=>sK (K (.exit 0)) d e g a b m o h i j l) n c=CJ (aK (az Pg Ek4 ov vQ) vx K n) d e g a b c h i j l:=by
 intro n
 induction n with
 | zero=>intros;rfl
 | succ n ih=>intro d e g a b c h i j l;exact (congrArg (fun kn=>sR α a b c kn (il (K .ret) 27 0 0) (fun m o=>sK (K (.exit 0)) d e g a b m o h i j l)) (funext fun c=>ih d e g a b c h i j l)).trans (aie α K (aK (az Pg Ek4 ov vQ) vx K n) d e g a b c h i j l).symm
theorem alw:∀ (α:Type) (K:KT α),KV sZ α K=Bx.unc fun σ=>aK (az Pg Ek4 ov vQ) vx K aG σ:=aY (fun α K=>funext fun a=>funext fun b=>funext fun c=>funext fun d=>funext fun e=>funext fun g=>funext fun h=>funext fun i=>funext fun j=>funext fun l=>afT α K aG a b c d e g h i j l)
abbrev S0:Type 1:=(α:Type)->Nat->Nat->Nat->(Int->Int->Int->Op α)->Op α
def Y1 (α:Type)(a b c:Nat)(k1:Int->Int->Int->Op α):Op α:=
 sZ α a b
 (k1 0 0 27)
 (fun g h=>vh α c a b
 (k1 0 0 2)
 (fun i j=>JN α a b
 (fun d e=>k1 d e 0)) 0) 0
def BO:S0:=sld Y1
def R8:PT (List DV):=pA [pV false [(dX .f64)],pV false [(dF .f64)]]
def WK (v:S0)(α:Type)(k:RT α):Nat->Nat->Nat->Op α:=fun a b c=>v α a b c (fun d e g=>jd k d e g)
def apu:ag:=(ag.put (.m [⟨Bx,KV sZ⟩]) [1,1,0,1,0] (ag.put (.m [⟨tE,DS ot⟩]) [1,1,0,1,0,0,1,1,0,0] (ag.put (.m [⟨CH,Lo vh⟩]) [1,1,1,0,1,0] (ag.put (.m [⟨sX,DO pf⟩]) [1,1,1,0,1,0,0,1,1,0,0] (emb zg)))))
theorem auL:ak Pg 202 37 ⟨R8,WK BO⟩:=iZ ek4 (ah Tryz.func202 (by kernel_rfl)) ov apu ((an _ _).trans ((an _ _).trans ((an _ _).trans ((an _ _).trans (aA _))))) (aZ (td:=vx) (by kernel_rfl) (aL (by kernel_rfl) (aZ (td:=nO) (by kernel_rfl) (aL (by kernel_rfl) (aD zg) ⟨aiT,trivial⟩) ⟨acP,trivial⟩) ⟨acR,trivial⟩) ⟨alw,trivial⟩) fun _ _=>by kernel_rfl
def aBV:TG:=[tT 0 [0,1,4],tT 1 [0,1,4,15],tT 2 [4,5],tT 3 [4,6,7],tT 4 [4,5]]
def aEk:ap:=aw Pg Tryz.f229 aBV aC
abbrev fN:Type 1:=(α:Type)->Int->Int->(Nat->Nat->Int->Int->Op α)->Op α
def Uq (α:Type)(a b:Int)(k1:Nat->Nat->Int->Int->Op α):Op α:=
 jS α a 1000000000
 (fun c=>cK (!c)
 (k1 0 0 0 2)
 (kU α b 1 1000000000
 (fun d=>cK (!d)
 (k1 0 0 0 2)
 (my α (w64 (a*1048576)) b
 (fun e g=>ju α g
 (fun h=>fW α e 0 h
 (fun i j l m=>k1 i j l m)))))))
def BY:fN:=sld Uq
def Un (v:fN)(α:Type)(k:RT α):Int->Int->Op α:=fun a b=>v α a b (fun c d e g=>bB k c d e g)
theorem amk:ak Pg 229 32 ⟨bq,Un BY⟩:=iP ek4 aEk (ah Tryz.func229 (by kernel_rfl)) aN fun _ _=>by kernel_rfl
def au5:SG:=[(7,iT),(12,iT),(19,iT),(21,iT),(25,iT),(27,iT),(33,iT)]
def aGF:TG:=[tT 0 [1,2],tT 1 [1,2,5],tT 2 [2,3],tT 3 [1,2,17],tT 4 [2,3],tT 5 [1,2,4],tT 6 [2,3]]
def acy:ap:=aw Pg Tryz.f193 aGF aC
def CX:PT St:=pS [sP 1,sP 2] [au 1 [xI,xI],au 2 [(cD (dX .f64)),xI]]
def aAd {β:Type}(g:St->β):Int->Int->Nat->Nat->Int->β:=CX.unc g
def aiB:PT St:=pS [sP 1,sP 2,sl 5 (aV false [(cD dB)])] [au 1 [xI,xI],au 2 [(cD (dX .f64)),xI]]
def aih {β:Type}(g:St->β):Bool->Int->Int->Nat->Nat->Int->β:=aiB.unc g
def aix:ag:=ag.sub [1,0,0,0] (emb acy)
def Gt (α:Type)(a b:Int)(k1:Bool->Op α):Op α:=
 jS α a 67108864
 (fun c=>cK (!c)
 (k1 true)
 (jS α b 67108864
 (fun d=>k1 (!d))))
def wR:bI:=sld Gt
def Mu (v:bI)(α:Type)(K:KT α):Int->Int->Nat->Nat->Int->Op α:=fun a b c d e=>v α a b (fun g=>aih (K .normal) g a b c d e)
theorem aem:∀ (α:Type) (K:KT α),Mu wR α K=CX.unc fun σ=>az Pg Ek4 au5 aix K σ:=aY (fun α K=>by kernel_rfl)
def Xc (α:Type)(b a:Int)(k1:Nat->Nat->Int->Int->Op α):Op α:=
 wR α b a
 (fun d=>cK d
 (k1 0 0 0 2)
 (cK (decide (a < b))
 (k1 0 0 0 10)
 (fV α (w64 (b+a)) 2
 (fun c=>fW α c 0 (w64 (a - c))
 (fun e g h i=>k1 e g h i)))))
def mV:fN:=sld Xc
def Xg (v:fN)(α:Type)(k:RT α):Int->Int->Op α:=fun a b=>v α a b (fun c d e g=>bB k c d e g)
def apk:ag:=(ag.put (.m [⟨CX,Mu wR⟩]) [1,0,0] (emb acy))
theorem au0:ak Pg 193 40 ⟨ba,Xg mV⟩:=iZ ek4 (ah Tryz.func193 (by kernel_rfl)) au5 apk ((an _ _).trans (aA _)) (aL (by kernel_rfl) (aD acy) ⟨aem,trivial⟩) fun _ _=>by kernel_rfl
def aba:SG:=[(9,iT),(13,iS 2),(19,iT),(23,iS 2),(29,[.sl]),(33,[.sl]),(38,iS 5),(39,iS 5),(43,iT),(49,iT),(56,iT),(63,iT),(69,iT),(78,iT),(81,iT),(86,iT),(89,iT),(97,iT),(103,iT)]
def aKo:TG:=[tT 0 [1],tT 1 [1,11],tT 2 [2,3],tT 3 [1,4],tT 4 [1,4,16],tT 5 [2,3],tT 6 [1,21],tT 7 [2,3],tT 8 [1,5],tT 9 [1,5,26],tT 10 [2,3],tT 11 [1,31],tT 12 [2,3],tT 13 [1,33,34,35],tT 14 [1,33,34,35,36],tT 15 [1,6,7,33,34,35],tT 16 [1,6,7,33,34,35,40],tT 17 [2,3],tT 18 [1,6,33,34,35,75],tT 19 [2,3],tT 20 [1,33,34,35],tT 21 [106],tT 22 [2,3],tT 23 [2,3]]
def aJ5:TG:=[(14,⟨[1,33,34,35],true,[⟨false,33,0,20033,5⟩,⟨true,1,6,30106,5⟩],[]⟩)]
def acp:ap:=aw Pg Tryz.f93 aKo aJ5
def vH:OT:=tdC (ag.sub [1,1,1,1,1,1,0,1,0] (emb acp))
def zE:PT St:=pS [sP 1,sI 6,sP 7,sl 33 (aV false [(cD dL)]),sI 34,sI 35] [au 1 [xI,xI,xI,xI,xI,xI,(cD dL),xI,xI],au 7 (xs 5)]
def aIc {β:Type}(g:St->β):Int->ae->Int->Int->Int->Int->Int->Int->Int->Int->ae->I7 β:=zE.unc g
def aph:PT St:=pS [sP 1,sI 6,sP 7,sl 33 (aV false [(cD dL)]),sI 34,sI 35,sl 40 (aV false [(cD dB)])] [au 1 [xI,xI,xI,xI,xI,xI,(cD dL),xI,xI],au 7 (xs 5)]
def aqF {β:Type}(g:St->β):Int->ae->Int->Int->Bool->Int->Int->Int->Int->Int->Int->ae->I7 β:=aph.unc g
def I1:PT St:=pS [sP 1,sl 33 (aV false [(cD dL)]),sI 34,sI 35] [au 1 [xI,xI,xI,xI,xI,xI,(cD dL),xI,xI]]
def Kr {β:Type}(g:St->β):ae->Int->Int->Int->Int->Int->Int->Int->Int->ae->Int->Int->β:=I1.unc g
def auv:PT St:=pS [sP 1,sl 33 (aV false [(cD dL)]),sI 34,sI 35,sl 36 (aV false [(cD dB)])] [au 1 [xI,xI,xI,xI,xI,xI,(cD dL),xI,xI]]
def Aa {β:Type}(g:St->β):ae->Int->Int->Bool->Int->Int->Int->Int->Int->Int->ae->Int->Int->β:=auv.unc g
def acX:ag:=ag.sub [1,1,1,1,1,1,0,1,0,0,1,1,0,0,1,0,0] (emb acp)
abbrev L3:Type 1:=(α:Type)->Int->Int->Int->Int->Int->(Bool->Op α)->Op α
def NE (α:Type)(a b c d e:Int)(k1:Bool->Op α):Op α:=
 re α a
 (fun g=>cK (!g)
 (k1 true)
 (re α b
 (fun h=>cK (!h)
 (k1 true)
 (CP α c
 (fun i=>cK (!i)
 (k1 true)
 (CP α d
 (fun j=>cK (!j)
 (k1 true)
 (yR α e
 (fun l=>k1 (!l))))))))))
def qz:L3:=sld NE
def H8 (v:L3)(α:Type)(K:KT α):Int->ae->Int->Int->Int->Int->Int->Int->Int->Int->ae->I7 (Op α):=fun g h i j l m o p q r s t w a b c d e=>v α a b c d e (fun z=>aqF (K .normal) g h i j z l m o p q r s t w a b c d e)
theorem aqR:∀ (α:Type) (K:KT α),H8 qz α K=zE.unc fun σ=>az Pg Ek4 aba acX K σ:=aY (fun α K=>by kernel_rfl)
def sA:ag:=ag.sub [1,1,1,1,1,1,0,1,0,0] (ag.put (.m [⟨zE,H8 qz⟩]) [1,1,1,1,1,1,0,1,0,0,1,1,0,0,1,0] (emb acp))
def uD (α:Type)(h:ae)(b a:Int)(kn:Int->Op α)(k1:Int->Int->Op α)(k2:Int->Bool->Op α):Op α:=
 cK (decide (a < b))
 (dE h a [.int .i64,.int .i64,.int .i64,.int .i64,.int .i64]
 (fun c d e g i=>qz α c d e g i
 (fun j=>cK j
 (k1 (w64 (a+1)) 2)
 (cK (decide (d < c))
 (k1 (w64 (a+1)) 10)
 (cK (decide (g < e))
 (k1 (w64 (a+1)) 10)
 (kn (w64 (a+1))))))))
 (k2 a (decide (a < b)))
def qw (α:Type)(a:ae)(b:Int)(k1:Int->Int->Op α)(k2:Int->Bool->Op α):Nat->Int->Op α
 | 0,_=>none
 | n+1,c=>uD α a b c (qw α a b k1 k2 n) k1 k2
def Ns (α:Type)(a:ae)(b:Int)(k1:Int->Int->Op α)(k2:Int->Bool->Op α)(c:Int):Op α:=qw α a b k1 k2 aG c
abbrev ti:Type 1:=(α:Type)->ae->Int->(Int->Int->Op α)->(Int->Bool->Op α)->Int->Op α
def Av:ti:=sld Ns
def Qb (v:ti)(α:Type)(K:KT α):ae->Int->Int->Int->Int->Int->Int->Int->Int->ae->Int->Int->Op α:=fun c d e g h i j l m o p q=>v α c d (fun a b=>fQ (K .ret) a b) (fun a b=>Aa (K (.exit 0)) c d a b g h i j l m o p q) e
theorem ase (α:Type)(K:KT α)(Kn:SK α)(a:ae)(b c d e g h i j:Int)(l:ae)(m o:Int):Kr (fun σ=>az Pg Ek4 aba sA (bM (fun σ=>br vH σ Kn) K) σ) a b c d e g h i j l m o=uD α a b c (fun c=>Kr Kn a b c d e g h i j l m o) (fun p q=>fQ (K .ret) p q) (fun p q=>Aa (K (.exit 0)) a b p q d e g h i j l m o):=by kernel_rfl
theorem atC (α:Type)(K:KT α):∀ (n:Nat) (a:ae) (b c g h i j l m:Int) (o:ae) (p q:Int),qw α a b (fun d e=>fQ (K .ret) d e) (fun d e=>Aa (K (.exit 0)) a b d e g h i j l m o p q) n c=Kr (aK (az Pg Ek4 aba sA) vH K n) a b c g h i j l m o p q:=by
 intro n
 induction n with
 | zero=>intros;rfl
 | succ n ih=>intro a b c g h i j l m o p q;exact (congrArg (fun kn=>uD α a b c kn (fun d e=>fQ (K .ret) d e) (fun d e=>Aa (K (.exit 0)) a b d e g h i j l m o p q)) (funext fun c=>ih a b c g h i j l m o p q)).trans (ase α K (aK (az Pg Ek4 aba sA) vH K n) a b c g h i j l m o p q).symm
theorem aod:∀ (α:Type) (K:KT α),Qb Av α K=I1.unc fun σ=>aK (az Pg Ek4 aba sA) vH K aG σ:=aY (fun α K=>funext fun a=>funext fun b=>funext fun c=>funext fun d=>funext fun e=>funext fun g=>funext fun h=>funext fun i=>funext fun j=>funext fun l=>funext fun m=>funext fun o=>atC α K aG a b c d e g h i j l m o)
abbrev akK:Type 1:=(α:Type)->Int->Int->Int->Int->Int->Int->ae->Int->Int->(Int->Int->Op α)->Op α
def aiK (α:Type)(d e g h i j:Int)(a:ae)(l m:Int)(k1:Int->Int->Op α):Op α:=
 re α d
 (fun o=>cK (!o)
 (k1 0 2)
 (Dj α e g
 (fun b=>cK (b != 0)
 (k1 0 b)
 (pk α h 0 1
 (fun p=>cK (!p)
 (k1 0 11)
 (Bw α i j
 (fun c=>cK (c != 0)
 (k1 0 c)
 (cK (decide (40 < ((List.length a:Nat):Int)))
 (k1 0 8)
 (Av α a ((List.length a:Nat):Int)
 (fun q r=>k1 q r)
 (fun w z=>re α l
 (fun s=>cK (!s)
 (k1 0 2)
 (yR α m
 (fun t=>cK (!t)
 (k1 0 2)
 (k1 0 0))))) 0)))))))))
def Ga:akK:=sld aiK
def alX (v:akK)(α:Type)(k:RT α):Int->Int->Int->Int->Int->Int->ae->Int->Int->Op α:=fun a b c d e g h i j=>v α a b c d e g h i j (fun l m=>g8 k l m)
def ayT:ag:=(ag.put (.m [⟨I1,Qb Av⟩]) [1,1,1,1,1,1,0,1,0] (ag.put (.m [⟨zE,H8 qz⟩]) [1,1,1,1,1,1,0,1,0,0,1,1,0,0,1,0] (emb acp)))
theorem ayJ:ak Pg 93 107 ⟨eW,alX Ga⟩:=iZ ek4 (ah Tryz.func93 (by kernel_rfl)) aba ayT ((an _ _).trans ((an _ _).trans (aA _))) (aZ (td:=vH) (by kernel_rfl) (aL (by kernel_rfl) (aD acp) ⟨aqR,trivial⟩) ⟨aod,trivial⟩) fun _ _=>by kernel_rfl
def aiH:SG:=[(20,iS 9),(21,iS 9),(22,iS 9)]
def aKT:TG:=[tT 0 [0],tT 1 [0,7],tT 2 [2,3],tT 3 [0,11],tT 4 [2,3],tT 5 [15,16,17],tT 6 [15,16,17,18],tT 7 [4,5,15,16,17],tT 8 [4,6,15,16,17],tT 9 [4,6,15,16,17,25],tT 10 [2,3],tT 11 [15,16,17],tT 12 [2,3]]
def aIu:TG:=[(6,⟨[15,16,17],true,[⟨false,15,0,20015,9⟩],[]⟩)]
def aoa:ap:=aw Pg Tryz.f92 aKT aIu
def vL:OT:=tdC (ag.sub [1,1,0,1,0] (emb aoa))
def IL:PT St:=pS [sl 15 (aV false [(cD dL)]),sI 16,sI 17] []
def HP {β:Type}(g:St->β):ae->Int->Int->β:=IL.unc g
def ane:PT St:=pS [sl 15 (aV false [(cD dL)]),sI 16,sI 17,sl 18 (aV false [(cD dB)])] []
def zW {β:Type}(g:St->β):ae->Int->Int->Bool->β:=ane.unc g
def sU:ag:=ag.sub [1,1,0,1,0,0] (emb aoa)
def vo (α:Type)(d:ae)(b a:Int)(kn:Int->Op α)(k1:Int->Int->Op α)(k2:Int->Bool->Op α):Op α:=
 cK (decide (a < b))
 (dE d a [.int .i64,.int .i64,.int .i64,.int .i64,.int .i64,.int .i64,.int .i64,.int .i64,.int .i64]
 (fun e g h i j l m o p=>Bs α e g h i j l m o p
 (fun c=>cK (c != 0)
 (k1 a c)
 (kn (w64 (a+1))))))
 (k2 a (decide (a < b)))
def qK (α:Type)(a:ae)(b:Int)(k1:Int->Int->Op α)(k2:Int->Bool->Op α):Nat->Int->Op α
 | 0,_=>none
 | n+1,c=>vo α a b c (qK α a b k1 k2 n) k1 k2
def NL (α:Type)(a:ae)(b:Int)(k1:Int->Int->Op α)(k2:Int->Bool->Op α)(c:Int):Op α:=qK α a b k1 k2 aG c
def Ah:ti:=sld NL
def Yz (v:ti)(α:Type)(K:KT α):ae->Int->Int->Op α:=fun c d e=>v α c d (fun a b=>fQ (K .ret) a b) (fun a b=>zW (K (.exit 1)) c d a b) e
theorem apB (α:Type)(K:KT α)(Kn:SK α)(a:ae)(b c:Int):HP (fun σ=>az Pg Ek4 aiH sU (bM (fun σ=>br vL σ Kn) K) σ) a b c=vo α a b c (fun c=>HP Kn a b c) (fun d e=>fQ (K .ret) d e) (fun d e=>zW (K (.exit 1)) a b d e):=by kernel_rfl
theorem aoY (α:Type)(K:KT α):∀ (n:Nat) (a:ae) (b c:Int),qK α a b (fun d e=>fQ (K .ret) d e) (fun d e=>zW (K (.exit 1)) a b d e) n c=HP (aK (az Pg Ek4 aiH sU) vL K n) a b c:=by
 intro n
 induction n with
 | zero=>intros;rfl
 | succ n ih=>intro a b c;exact (congrArg (fun kn=>vo α a b c kn (fun d e=>fQ (K .ret) d e) (fun d e=>zW (K (.exit 1)) a b d e)) (funext fun c=>ih a b c)).trans (apB α K (aK (az Pg Ek4 aiH sU) vL K n) a b c).symm
theorem apf:∀ (α:Type) (K:KT α),Yz Ah α K=IL.unc fun σ=>aK (az Pg Ek4 aiH sU) vL K aG σ:=aY (fun α K=>funext fun a=>funext fun b=>funext fun c=>aoY α K aG a b c)
def OQ (α:Type)(a:ae)(k1:Int->Int->Op α):Op α:=
 cK (((List.length a:Nat):Int) == 0)
 (k1 0 12)
 (cK (decide (8 < ((List.length a:Nat):Int)))
 (k1 0 8)
 (Ah α a ((List.length a:Nat):Int)
 (fun b c=>k1 b c)
 (fun d e=>k1 0 0) 0))
def GT:IB:=sld OQ
def ade (v:IB)(α:Type)(k:RT α):ae->Op α:=fun a=>v α a (fun b c=>g8 k b c)
def ayE:ag:=(ag.put (.m [⟨IL,Yz Ah⟩]) [1,1,0,1,0] (emb aoa))
theorem ay1:ak Pg 92 29 ⟨ox,ade GT⟩:=iZ ek4 (ah Tryz.func92 (by kernel_rfl)) aiH ayE ((an _ _).trans (aA _)) (aZ (td:=vL) (by kernel_rfl) (aD aoa) ⟨apf,trivial⟩) fun _ _=>by kernel_rfl
end
end Go.AM.K
