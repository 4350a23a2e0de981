/- Printed by KGen. -/
import Derived.Test.YtffcelhcekillaaGreatRc
namespace Go.AM.K
open Go.Proofs
set_option maxRecDepth 100000
set_option linter.unusedVariables false
noncomputable section
def aJY:SG:=[(8,iS 2),(15,iT),(17,iT)]
def aKg:TG:=[tT 0 [1,2,3],tT 1 [3,7],tT 2 [6],tT 3 [13],tT 4 [6],tT 5 [6]]
def aKc:aq:=aw Pg Tryz.f38 aKg aC
def ahG (α:Type)(a b c d:Int)(k1:Int->Op α):Op α:=
 K7 α a b c d
 (fun e=>cK (!e)
 (k1 2)
 (cK (decide (b < a))
 (k1 10)
 (k1 0)))
def M1:yD:=sld ahG
def acW (v:yD)(α:Type)(k:RT α):I4 (Op α):=fun a b c d=>v α a b c d (fun e=>aR k e)
theorem axW:ak Pg 38 19 ⟨fS,acW M1⟩:=iP ek3 aKc (ah Tryz.func38 (by kernel_rfl)) aJY fun _ _=>by kernel_rfl
def aGq:SG:=[(3,iS 3),(6,iT),(9,iS 3),(12,iT)]
def aEe:TG:=[tT 0 [1,2],tT 1 [2]]
def aGM:aq:=aw Pg Tryz.f212 aEe aC
noncomputable abbrev Lk4:List bA:=⟨252,15,[⟨cT,Tb m7⟩]⟩::⟨287,72,[⟨Rg,Rb mA⟩]⟩::⟨248,22,[⟨cT,VW dA⟩]⟩::⟨247,28,[⟨br,Tq mo⟩]⟩::⟨268,18,[⟨br,UH DD⟩]⟩::⟨98,35,[⟨ajM,afR LC⟩]⟩::⟨97,56,[⟨kU,agC Nq⟩]⟩::⟨255,40,[⟨aU,TH BS⟩]⟩::⟨256,32,[⟨aU,Tw yS⟩]⟩::⟨285,24,[⟨fQ,Y9 DS⟩]⟩::⟨234,135,[⟨Xc,Rj xY⟩]⟩::⟨201,14,[⟨aU,U0 nP⟩]⟩::⟨235,12,[⟨kq,TR Cc⟩]⟩::⟨232,29,[⟨cT,Rq fZ⟩]⟩::⟨115,24,[⟨Ws,S0 EG⟩,⟨Vg,Xz EM⟩]⟩::⟨114,56,[⟨kU,Q9 Co⟩]⟩::⟨38,19,[⟨fS,acW M1⟩]⟩::⟨39,80,[⟨alq,ah1 MJ⟩]⟩::⟨196,6,[⟨ba,VG oH⟩]⟩::⟨230,19,[⟨Tr,Zv Ko⟩]⟩::⟨33,126,[⟨eM,ad9 HP⟩]⟩::⟨120,44,[⟨Qs,SP jP⟩]⟩::Lk3
theorem ak4:bG Lk4 fun c=>bG c.l (ak Pg c.f c.nt):=⟨⟨auW,trivial⟩,⟨auG,trivial⟩,⟨amv,trivial⟩,⟨arG,trivial⟩,⟨anr,trivial⟩,⟨awN,trivial⟩,⟨axs,trivial⟩,⟨aux,trivial⟩,⟨ate,trivial⟩,⟨apr,trivial⟩,⟨arj,trivial⟩,⟨aut,trivial⟩,⟨aqh,trivial⟩,⟨as7,trivial⟩,⟨atO,auF,trivial⟩,⟨apv,trivial⟩,⟨axW,trivial⟩,⟨axK,trivial⟩,⟨aob,trivial⟩,⟨amx,trivial⟩,⟨azm,trivial⟩,⟨asn,trivial⟩,ak3⟩
def Ek4:aE:=aE.ofIO Lk4 bt io0
theorem ek4:Ek4.Ok Pg:=aE.ofIO_ok aN ak4
def QB (α:Type)(b c a:Int)(k1:Int->Int->Op α):Op α:=
 mY α b c
 (fun d=>m7 α b c
 (fun e=>k1 (if (w64 (d - a)) > 0 then (w64 (d - a)) else 0) (w64 (e+a))))
def Jg:fU:=sld QB
def Rz (v:fU)(α:Type)(k:RT α):Int->Int->Int->Op α:=fun a b c=>v α a b c (fun d e=>bu k d e)
theorem anO:ak Pg 212 15 ⟨cT,Rz Jg⟩:=iP ek4 aGM (ah Tryz.func212 (by kernel_rfl)) aGq fun _ _=>by kernel_rfl
def act:SG:=[(6,iT),(10,iT),(15,iT),(20,iT),(22,iT),(27,iT),(30,iT),(36,iT),(39,iT),(44,iS 2)]
def aDk:TG:=[tT 0 [1,2],tT 1 [1,2,17],tT 2 [2,3],tT 3 [1,2,23],tT 4 [2,3],tT 5 [1,2,4],tT 6 [1,2,4,28],tT 7 [1,2,4],tT 8 [1,2,4,37],tT 9 [2,4],tT 10 [2,3]]
def Xh:aq:=aw Pg Tryz.f284 aDk aC
def CP:PT St:=pS [sP 1,sP 2] [au 1 [xI,xI],au 2 [xI,xI]]
def aEp {β:Type}(g:St->β):I4 β:=CP.unc g
def ahT:PT St:=pS [sP 1,sP 2,sl 17 (aV false [(cD dB)])] [au 1 [xI,xI],au 2 [xI,xI]]
def adq {β:Type}(g:St->β):Bool->I4 β:=ahT.unc g
def Ei:PT St:=pS [sP 1,sP 2,sP 4] [au 1 [xI,xI],au 2 [xI,xI],au 4 [xI,xI]]
def agn {β:Type}(g:St->β):I6 β:=Ei.unc g
def acY:PT St:=pS [sP 1,sP 2,sP 4,sl 28 (aV false [(cD dB)])] [au 1 [xI,xI],au 2 [xI,xI],au 4 [xI,xI]]
def aln {β:Type}(g:St->β):Bool->I6 β:=acY.unc g
def aaH:PT (List RV):=pRs [pR true [rD (dI .i64),rD (dI .i64)],wI]
def jd {β:Type}(g:List RV->β):Int->Int->Int->β:=aaH.unc g
def aaG:ag:=ag.sub [1,1,1,1,0] (emb Xh)
def FS (α:Type)(a:Int)(k1:Int->Op α)(k2:Bool->Op α):Op α:=
 cK (decide (a<=16777216))
 (mA α a false
 (fun c=>dz α c 1024
 (fun b=>k1 (if b > 0 then b else 0))))
 (k2 (decide (a<=16777216)))
def wo:je:=sld FS
def Ob (v:je)(α:Type)(K:KT α):I6 (Op α):=fun c a d e h g=>v α a (fun b=>agn (K .normal) c a d e b g) (fun b=>aln (K .normal) b c a d e h g)
theorem akb:∀ (α:Type) (K:KT α),Ob wo α K=Ei.unc fun σ=>az Pg Ek4 act aaG K σ:=aZ (fun α K=>by kernel_rfl)
def aiu:ag:=ag.sub [1,0,0] (emb Xh)
def Fl (α:Type)(a b:Int)(k1:Bool->Op α):Op α:=
 cK (decide (a < 0))
 (k1 true)
 (cK (decide (1099511627776 < a))
 (k1 true)
 (k1 (decide (1099511627776 < b))))
def oM:bI:=sld Fl
def Li (v:bI)(α:Type)(K:KT α):I4 (Op α):=fun a b c d=>v α a b (fun e=>adq (K .normal) e a b c d)
theorem aes:∀ (α:Type) (K:KT α),Li oM α K=CP.unc fun σ=>az Pg Ek4 act aiu K σ:=aZ (fun α K=>by kernel_rfl)
abbrev AR:Type 1:=(α:Type)->Int->Int->(Int->Int->Int->Op α)->Op α
def Zn (α:Type)(a b:Int)(k1:Int->Int->Int->Op α):Op α:=
 oM α a b
 (fun g=>cK g
 (k1 0 0 2)
 (cK (decide (b < a))
 (k1 0 0 10)
 (wo α b
 (fun c=>cK (decide (a<=16777216))
 (mA α a true
 (fun h=>cq α h 1024
 (fun d=>k1 c (if d < 1048576 then d else 1048576) 0)))
 (k1 c 1 0))
 (fun j=>cK (decide (a<=16777216))
 (mA α a true
 (fun i=>cq α i 1024
 (fun e=>k1 0 (if e < 1048576 then e else 1048576) 0)))
 (k1 0 1 0)))))
def rU:AR:=sld Zn
def Xl (v:AR)(α:Type)(k:RT α):Int->Int->Op α:=fun a b=>v α a b (fun c d e=>jd k c d e)
def aq1:ag:=(ag.put (.m [⟨CP,Li oM⟩]) [1,0] (ag.put (.m [⟨Ei,Ob wo⟩]) [1,1,1,1] (emb Xh)))
theorem arg:ak Pg 284 45 ⟨ba,Xl rU⟩:=iZ ek4 (ah Tryz.func284 (by kernel_rfl)) act aq1 ((an _ _).trans ((an _ _).trans (aA _))) (aM (by kernel_rfl) (aM (by kernel_rfl) (aD Xh) ⟨akb,trivial⟩) ⟨aes,trivial⟩) fun _ _=>by kernel_rfl
def avt:SG:=[(12,iT),(17,iT),(23,iT),(25,iT),(29,iT),(31,iT),(38,iT),(44,iT),(51,iT),(59,iT),(61,iT),(69,iS 3)]
def aGW:TG:=[tT 0 [1,2],tT 1 [1,2,20],tT 2 [2,3],tT 3 [1,2,26],tT 4 [2,3],tT 5 [1,2,4],tT 6 [1,2,4,5],tT 7 [1,2,4,5,6],tT 8 [1,2,4,6,8],tT 9 [1,2,4,10],tT 10 [2,10,67],tT 11 [2,10],tT 12 [2,3]]
def acv:aq:=aw Pg Tryz.f283 aGW aC
def EB:PT St:=pS [sP 1,sP 2,sI 4,sP 10] [au 1 [xI,xI],au 2 (xs 3),au 10 (xs 3)]
def aAE {β:Type}(g:St->β):I9 β:=EB.unc g
def ae6:PT St:=pS [sP 2,sP 10] [au 2 (xs 3),au 10 (xs 3)]
def agv {β:Type}(g:St->β):I6 β:=ae6.unc g
def ajh:PT St:=pS [sP 2,sP 10,sl 67 (aV false [(cD dB)])] [au 2 (xs 3),au 10 (xs 3)]
def aeN {β:Type}(g:St->β):Bool->I6 β:=ajh.unc g
def ajJ:aE:=aE.ofIO (⟨286,105,[⟨aU,U7 DI⟩]⟩::Lk4) bt io0
theorem aqA:ajJ.Ok Pg:=aE.ofIO_ok aN ⟨⟨arn,trivial⟩,ak4⟩
def aao:ag:=ag.sub [1,1,1,1,1,1,1,1,0] (emb acv)
abbrev Gr:Type 1:=(α:Type)->Int->Int->Int->(Op α)->(Bool->Op α)->Op α
def Gt (α:Type)(b c d:Int)(k1:Op α)(k2:Bool->Op α):Op α:=
 cK (c == d)
 (kW α b 1048576
 (fun a=>cK (a == 0)
 (k1)
 (k2 (a == 0))))
 (k2 false)
def jK:Gr:=sld Gt
def Lb (v:Gr)(α:Type)(K:KT α):I9 (Op α):=fun g h i a b c d e j=>v α g h i (agv (K .normal) a b c d e 0) (fun l=>aeN (K .normal) l a b c d e j)
theorem ach:∀ (α:Type) (K:KT α),Lb jK α K=EB.unc fun σ=>az Pg ajJ avt aao K σ:=aZ (fun α K=>by kernel_rfl)
abbrev j5:Type 1:=(α:Type)->Int->Int->(I4 (Op α))->Op α
def Rm (α:Type)(b a:Int)(k1:I4 (Op α)):Op α:=
 cL α b (-1099511627776) 1099511627776
 (fun g=>cK (!g)
 (k1 0 0 0 2)
 (cL α a (-1099511627776) 1099511627776
 (fun h=>cK (!h)
 (k1 0 0 0 2)
 (cK (decide (a < b))
 (k1 0 0 0 10)
 (dz α (w64 (b+a)) 2
 (fun c=>DI α c
 (fun i j=>jS α i 64
 (fun d z=>jS α j 64
 (fun e A=>cq α (w64 (11*(w64 (a - c)))) 7
 (fun l=>jK α c b a
 (dA α d e 0
 (fun m o p q=>k1 m o p q))
 (fun B=>dA α d e (w64 (2+l))
 (fun r s t w=>k1 r s t w))))))))))))
def xp:j5:=sld Rm
def SR (v:j5)(α:Type)(k:RT α):Int->Int->Op α:=fun a b=>v α a b (fun c d e g=>bD k c d e g)
def aqX:ag:=(ag.put (.m [⟨EB,Lb jK⟩]) [1,1,1,1,1,1,1,1] (emb acv))
theorem atI:ak Pg 283 73 ⟨ba,SR xp⟩:=iZ aqA (ah Tryz.func283 (by kernel_rfl)) avt aqX ((an _ _).trans (aA _)) (aM (by kernel_rfl) (aD acv) ⟨ach,trivial⟩) fun _ _=>by kernel_rfl
def aB7:SG:=[(11,iS 3),(14,iT),(18,iT),(20,iT),(23,iT),(25,iT),(30,iT),(32,iT),(35,iT),(37,iT),(46,iT),(48,iT),(51,iT),(53,iT),(63,iT),(64,iS 3),(67,iS 3),(70,iT),(73,iS 3),(76,iT),(78,iS 3)]
def aEl:TG:=[tT 0 [2,3,4],tT 1 [2,3,4,15],tT 2 [4,5],tT 3 [2,3,4,6],tT 4 [2,3,4,6,7,8],tT 5 [2,3,4,7,8,9,10],tT 6 [4,5]]
def aEI:aq:=aw Pg Tryz.f241 aEl aC
abbrev fN:Type 1:=(α:Type)->Int->Int->Int->Int->Int->Int->(I4 (Op α))->Op α
def Um (α:Type)(c d j a b e:Int)(k1:I4 (Op α)):Op α:=
 mY α a b
 (fun l=>cK (decide (l<=e))
 (k1 0 0 0 9)
 (mo α (w64 ((w64 (c*a))+(w64 (d*b)))) (w64 ((w64 (a*a))+(w64 (b*b))))
 (fun g m=>mo α (w64 ((w64 (d*a)) - (w64 (c*b)))) (w64 ((w64 (a*a))+(w64 (b*b))))
 (fun h o=>m7 α a b
 (fun p=>m7 α c d
 (fun q=>mY α a b
 (fun r=>mY α a b
 (fun s=>DD α (w64 ((w64 (j*p))+(w64 (q*e)))) (w64 ((w64 (r - e))*s))
 (fun i=>cK m
 (mP α true
 (fun t=>dA α g h (w64 (i+t))
 (fun w z A B=>k1 w z A B)))
 (mP α o
 (fun C=>dA α g h (w64 (i+C))
 (fun D F G H=>k1 D F G H))))))))))))
def D7:fN:=sld Um
def Tk (v:fN)(α:Type)(k:RT α):I6 (Op α):=fun a b c d e g=>v α a b c d e g (fun h i j l=>bD k h i j l)
theorem ar0:ak Pg 241 92 ⟨dS,Tk D7⟩:=iP ek4 aEI (ah Tryz.func241 (by kernel_rfl)) aB7 fun _ _=>by kernel_rfl
def ajw:SG:=[(11,iS 3),(15,iT),(19,iT),(23,iT),(26,iT),(31,iT),(36,iT),(40,iT),(46,iT),(57,iT),(63,iT),(74,iT),(80,iT),(91,iS 3)]
def aHS:TG:=[tT 0 [1,2],tT 1 [1,2,4],tT 2 [1,2,4,16],tT 3 [2,3],tT 4 [1,2,4,33],tT 5 [2,3],tT 6 [1,2,4,5],tT 7 [1,2,4,5],tT 8 [1,2,4,5,37],tT 9 [1,2,4,5,6],tT 10 [1,2,4,5,6,7],tT 11 [1,2,4,5,6],tT 12 [1,2,4,5,6],tT 13 [1,2,4,5,6,9],tT 14 [1,2,4,5,6],tT 15 [1,2,4,5,6,75],tT 16 [1,2,4,5,6],tT 17 [2,5],tT 18 [2,3]]
def WF:aq:=aw Pg Tryz.f210 aHS aC
def CE:PT St:=pS [sP 1,sP 2,sI 4,sl 16 (aV false [(cD dB)])] [au 1 (xs 3),au 2 (xs 3)]
def aBu {β:Type}(g:St->β):Int->Bool->I6 β:=CE.unc g
def adc:PT St:=pS [sP 1,sP 2,sI 4,sl 33 (aV false [(cD dB)])] [au 1 (xs 3),au 2 (xs 3)]
def ah2 {β:Type}(g:St->β):Int->Bool->I6 β:=adc.unc g
def DY:PT St:=pS [sP 1,sP 2,sI 4,sP 5] [au 1 (xs 3),au 2 (xs 3),au 5 (xs 3)]
def aA8 {β:Type}(g:St->β):I10 β:=DY.unc g
def adS:PT St:=pS [sP 1,sP 2,sI 4,sP 5,sI 6] [au 1 (xs 3),au 2 (xs 3),au 5 (xs 3)]
def ade {β:Type}(g:St->β):I11 β:=adS.unc g
def adj:PT St:=pS [sP 1,sP 2,sI 4,sP 5,sI 6,sl 75 (aV false [(cD dB)])] [au 1 (xs 3),au 2 (xs 3),au 5 (xs 3)]
def ame {β:Type}(g:St->β):Int->Int->Bool->I9 β:=adj.unc g
def ZX:ag:=ag.sub [1,1,1,1,1,1,0] (emb WF)
abbrev FL:Type 1:=(α:Type)->Int->Int->Int->(Int->Int->Int->Op α)->(Int->Bool->Int->Int->Op α)->Op α
def Fy (α:Type)(e c b:Int)(k1:Int->Int->Int->Op α)(k2:Int->Bool->Int->Int->Op α):Op α:=
 cK (decide (0<=c))
 (de α (w64 ((w64 (e+c))*524288))
 (fun d=>mo α b (w64 (2*d))
 (fun h j=>k1 d d h)))
 (de α (w64 ((w64 (e - c))*524288))
 (fun a=>xX α b
 (fun i=>mo α i (w64 (2*a))
 (fun g l=>cK (decide (b < 0))
 (k1 a g (w64 (0 - a)))
 (k2 a (decide (b < 0)) g a)))))
def nY:FL:=sld Fy
def Mm (v:FL)(α:Type)(K:KT α):I10 (Op α):=fun a b c h i j l o p q=>v α a b c (fun d e g=>ade (K .normal) a d b c h i j l e g 0) (fun d e g m=>ame (K .normal) a d e b c h i j l g m 0)
theorem agL:∀ (α:Type) (K:KT α),Mm nY α K=DY.unc fun σ=>az Pg Ek4 ajw ZX K σ:=aZ (fun α K=>by kernel_rfl)
def abH:ag:=ag.sub [1,1,1,0,0] (emb WF)
def E1 (α:Type)(b c a:Int)(k1:Bool->Op α):Op α:=
 cK (decide (b < 0))
 (xX α c
 (fun d=>cK (decide (d<=a))
 (k1 (a != 0))
 (k1 false)))
 (k1 false)
def tp:ch:=sld E1
def M7 (v:ch)(α:Type)(K:KT α):Int->Bool->I6 (Op α):=fun d j a b c e g h=>v α a b c (fun i=>ah2 (K .normal) d i a b c e g h)
theorem aeE:∀ (α:Type) (K:KT α),M7 tp α K=CE.unc fun σ=>az Pg Ek4 ajw abH K σ:=aZ (fun α K=>by kernel_rfl)
def Vp (α:Type)(c d a:Int)(k1:I4 (Op α)):Op α:=
 mY α c d
 (fun b=>cK (decide (b<=a))
 (k1 0 0 0 9)
 (tp α c d a
 (fun e=>cK e
 (k1 0 0 0 14)
 (nY α b c d
 (fun g h i=>de α (w64 (b*1048576))
 (fun j=>cq α (w64 (a*1048576)) j
 (fun l=>cq α 1048576 g
 (fun m=>dA α h i (w64 ((w64 (l+3))+m))
 (fun o p q r=>k1 o p q r)))))
 (fun s H t w=>de α (w64 (b*1048576))
 (fun z=>cq α (w64 (a*1048576)) z
 (fun A=>cq α 1048576 s
 (fun B=>dA α t w (w64 ((w64 (A+3))+B))
 (fun C D F G=>k1 C D F G)))))))))
def yM:kf:=sld Vp
def UM (v:kf)(α:Type)(k:RT α):Int->Int->Int->Op α:=fun a b c=>v α a b c (fun d e g h=>bD k d e g h)
def atb:ag:=(ag.put (.m [⟨CE,M7 tp⟩]) [1,1,1,0] (ag.put (.m [⟨DY,Mm nY⟩]) [1,1,1,1,1,1] (emb WF)))
theorem ani:ak Pg 210 95 ⟨cT,UM yM⟩:=iZ ek4 (ah Tryz.func210 (by kernel_rfl)) ajw atb ((an _ _).trans ((an _ _).trans (aA _))) (aM (by kernel_rfl) (aM (by kernel_rfl) (aD WF) ⟨agL,trivial⟩) ⟨aeE,trivial⟩) fun _ _=>by kernel_rfl
def av6:SG:=[(7,iT),(9,iT),(12,iT),(14,iT),(17,iT),(19,iT)]
def aAl:TG:=[tT 0 [2,3,4],tT 1 [4,5]]
def aHU:aq:=aw Pg Tryz.f267 aAl aC
def Up (α:Type)(a b c d e g:Int)(k1:I4 (Op α)):Op α:=
 dA α (w64 (a - d)) (w64 (b - e)) (w64 (c+g))
 (fun h i j l=>k1 h i j l)
def Cp:fN:=sld Up
def RB (v:fN)(α:Type)(k:RT α):I6 (Op α):=fun a b c d e g=>v α a b c d e g (fun h i j l=>bD k h i j l)
theorem aot:ak Pg 267 25 ⟨dS,RB Cp⟩:=iP ek4 aHU (ah Tryz.func267 (by kernel_rfl)) av6 fun _ _=>by kernel_rfl
def aFo:SG:=[(12,iT),(14,iT),(17,iT),(19,iT),(27,iT),(29,iT),(32,iT),(34,iT),(42,iS 3),(45,iT),(47,iS 3),(50,iT),(54,iT),(56,iT)]
def aFP:TG:=[tT 0 [2,3,4],tT 1 [2,3,4,6,7],tT 2 [2,3,4,6,7,8,9],tT 3 [4,5]]
def aEh:aq:=aw Pg Tryz.f266 aFP aC
def Vx (α:Type)(a b e c d g:Int)(k1:I4 (Op α)):Op α:=
 jS α (w64 ((w64 (a*c)) - (w64 (b*d)))) 1048576
 (fun h l=>jS α (w64 ((w64 (a*d))+(w64 (b*c)))) 1048576
 (fun i m=>m7 α a b
 (fun o=>m7 α c d
 (fun p=>cq α (w64 ((w64 ((w64 (o*g))+(w64 (p*e))))+(w64 (e*g)))) 1048576
 (fun j=>cK l
 (mP α true
 (fun q=>dA α h i (w64 (j+q))
 (fun r s t w=>k1 r s t w)))
 (mP α m
 (fun z=>dA α h i (w64 (j+z))
 (fun A B C D=>k1 A B C D))))))))
def DR:fN:=sld Vx
def Zr (v:fN)(α:Type)(k:RT α):I6 (Op α):=fun a b c d e g=>v α a b c d e g (fun h i j l=>bD k h i j l)
theorem anN:ak Pg 266 70 ⟨dS,Zr DR⟩:=iP ek4 aEh (ah Tryz.func266 (by kernel_rfl)) aFo fun _ _=>by kernel_rfl
def aGL:TG:=[tT 0 [2,3,4],tT 1 [4,5]]
def aCR:aq:=aw Pg Tryz.f265 aGL aC
def Rv (α:Type)(a b c d e g:Int)(k1:I4 (Op α)):Op α:=
 dA α (w64 (a+d)) (w64 (b+e)) (w64 (c+g))
 (fun h i j l=>k1 h i j l)
def Bn:fN:=sld Rv
def Sw (v:fN)(α:Type)(k:RT α):I6 (Op α):=fun a b c d e g=>v α a b c d e g (fun h i j l=>bD k h i j l)
theorem arx:ak Pg 265 25 ⟨dS,Sw Bn⟩:=iP ek4 aCR (ah Tryz.func265 (by kernel_rfl)) av6 fun _ _=>by kernel_rfl
def aCM:TG:=[tT 0 [0,1,4],tT 1 [0,1,4,15],tT 2 [4,5],tT 3 [4,6,7],tT 4 [4,5]]
def aBH:aq:=aw Pg Tryz.f270 aCM aC
def YC (α:Type)(a b:Int)(k1:I4 (Op α)):Op α:=
 cL α a (-1000000000) 1000000000
 (fun c=>cK (!c)
 (k1 0 0 0 2)
 (cL α b 1 1000000000
 (fun d=>cK (!d)
 (k1 0 0 0 2)
 (mo α a b
 (fun e g=>mP α g
 (fun h=>dA α e 0 h
 (fun i j l m=>k1 i j l m)))))))
def yL:j5:=sld YC
def UQ (v:j5)(α:Type)(k:RT α):Int->Int->Op α:=fun a b=>v α a b (fun c d e g=>bD k c d e g)
theorem apI:ak Pg 270 30 ⟨br,UQ yL⟩:=iP ek4 aBH (ah Tryz.func270 (by kernel_rfl)) aO fun _ _=>by kernel_rfl
def aHa:SG:=[(6,iT),(11,iT),(17,iT),(19,iT),(23,iT),(25,iT),(30,iT)]
def aHL:TG:=[tT 0 [1,2],tT 1 [1,2,14],tT 2 [2,3],tT 3 [1,2,20],tT 4 [2,3],tT 5 [1,2,4],tT 6 [2,3]]
def aAM:aq:=aw Pg Tryz.f249 aHL aC
def YX (α:Type)(b a:Int)(k1:I4 (Op α)):Op α:=
 pE α b
 (fun d=>cK (!d)
 (k1 0 0 0 2)
 (pE α a
 (fun e=>cK (!e)
 (k1 0 0 0 2)
 (cK (decide (a < b))
 (k1 0 0 0 10)
 (dz α (w64 (b+a)) 2
 (fun c=>dA α c 0 (w64 (a - c))
 (fun g h i j=>k1 g h i j)))))))
def g8:j5:=sld YX
def Wx (v:j5)(α:Type)(k:RT α):Int->Int->Op α:=fun a b=>v α a b (fun c d e g=>bD k c d e g)
theorem asz:ak Pg 249 37 ⟨ba,Wx g8⟩:=iP ek4 aAM (ah Tryz.func249 (by kernel_rfl)) aHa fun _ _=>by kernel_rfl
def aih:SG:=[(19,iS 5),(20,iS 5),(28,iT),(33,iT)]
def aKF:TG:=[tT 0 [0,3],tT 1 [0,3,10],tT 2 [4,5],tT 3 [0,3,6],tT 4 [0,3,6,14],tT 6 [0,3,6,7],tT 7 [0,3,6,7,23],tT 8 [4,5],tT 5 [0,3,6],tT 9 [36],tT 10 [4,5],tT 11 [4,5]]
def aJR:TG:=[tT 4 [0,3,6]]
def apd:aq:=aw Pg Tryz.f73 aKF aJR
def tJ:OT:=tdC (ag.sub [1,1,0,1,0] (emb apd))
def Ka:PT St:=pS [sl 0 (aV false [(cD dL)]),sP 3,sI 6] [au 3 [xI,xI]]
def H5 {β:Type}(g:St->β):ae->Int->Int->Int->β:=Ka.unc g
def arz:PT St:=pS [sI 4,sI 5] []
def fR {β:Type}(g:St->β):Int->Int->β:=arz.unc g
def apN:PT St:=pS [sl 0 (aV false [(cD dL)]),sP 3,sI 6,sl 14 (aV false [(cD dB)])] [au 3 [xI,xI]]
def At {β:Type}(g:St->β):ae->Int->Bool->Int->Int->β:=apN.unc g
def uu:ag:=ag.sub [1,1,0,1,0,0] (emb apd)
def t9 (α:Type)(b:ae)(a:Int)(kn:Int->Op α)(k1:Int->Int->Op α)(k2:Int->Bool->Op α):Op α:=
 cK (decide (a < ((List.length b:Nat):Int)))
 (dG b a [.int .i64,.int .i64,.int .i64,.int .i64,.int .i64]
 (fun d e g h i=>LC α d e g h i
 (fun c=>cK (c != 0)
 (k1 (w64 (a+1)) c)
 (kn (w64 (a+1))))))
 (k2 a (decide (a < ((List.length b:Nat):Int))))
def qL (α:Type)(a:ae)(k1:Int->Int->Op α)(k2:Int->Bool->Op α):Nat->Int->Op α
 | 0,_=>none
 | n+1,b=>t9 α a b (qL α a k1 k2 n) k1 k2
def LI (α:Type)(a:ae)(k1:Int->Int->Op α)(k2:Int->Bool->Op α)(b:Int):Op α:=qL α a k1 k2 aF b
abbrev vS:Type 1:=(α:Type)->ae->(Int->Int->Op α)->(Int->Bool->Op α)->Int->Op α
def Aw:vS:=sld LI
def Ql (v:vS)(α:Type)(K:KT α):ae->Int->Int->Int->Op α:=fun c d e g=>v α c (fun a b=>fR (K .ret) a b) (fun a b=>At (K (.exit 0)) c a b e g) d
theorem ar5 (α:Type)(K:KT α)(Kn:SK α)(a:ae)(b c d:Int):H5 (fun σ=>az Pg Ek4 aih uu (bK (fun σ=>bq tJ σ Kn) K) σ) a b c d=t9 α a b (fun b=>H5 Kn a b c d) (fun e g=>fR (K .ret) e g) (fun e g=>At (K (.exit 0)) a e g c d):=by kernel_rfl
theorem ar4 (α:Type)(K:KT α):∀ (n:Nat) (a:ae) (b e g:Int),qL α a (fun c d=>fR (K .ret) c d) (fun c d=>At (K (.exit 0)) a c d e g) n b=H5 (aJ (az Pg Ek4 aih uu) tJ K n) a b e g:=by
 intro n
 induction n with
 | zero=>intros;rfl
 | succ n ih=>intro a b e g;exact (congrArg (fun kn=>t9 α a b kn (fun c d=>fR (K .ret) c d) (fun c d=>At (K (.exit 0)) a c d e g)) (funext fun b=>ih a b e g)).trans (ar5 α K (aJ (az Pg Ek4 aih uu) tJ K n) a b e g).symm
theorem aqN:∀ (α:Type) (K:KT α),Ql Aw α K=Ka.unc fun σ=>aJ (az Pg Ek4 aih uu) tJ K aF σ:=aZ (fun α K=>funext fun a=>funext fun b=>funext fun c=>funext fun d=>ar4 α K aF a b c d)
abbrev acT:Type 1:=(α:Type)->ae->Int->Int->(Int->Int->Op α)->Op α
def agN (α:Type)(a:ae)(b c:Int)(k1:Int->Int->Op α):Op α:=
 cK (decide (40 < ((List.length a:Nat):Int)))
 (k1 0 8)
 (Aw α a
 (fun d e=>k1 d e)
 (fun i j=>Nr α b
 (fun g=>cK (!g)
 (k1 0 2)
 (si α c
 (fun h=>cK (!h)
 (k1 0 2)
 (k1 0 0))))) 0)
def Gy:acT:=sld agN
def acI:PT (List DV):=pA [pV false [dL],pV true [(dI .i64),(dI .i64)]]
def alI (v:acT)(α:Type)(k:RT α):ae->Int->Int->Op α:=fun a b c=>v α a b c (fun d e=>fp k d e)
def azH:ag:=(ag.put (.m [⟨Ka,Ql Aw⟩]) [1,1,0,1,0] (emb apd))
theorem awk:ak Pg 73 37 ⟨acI,alI Gy⟩:=iZ ek4 (ah Tryz.func73 (by kernel_rfl)) aih azH ((an _ _).trans (aA _)) (aY (td:=tJ) (by kernel_rfl) (aD apd) ⟨aqN,trivial⟩) fun _ _=>by kernel_rfl
def ae5:SG:=[(20,iS 9),(21,iS 9)]
def aKB:TG:=[tT 0 [0],tT 1 [0,8],tT 2 [2,3],tT 3 [0,11],tT 4 [2,3],tT 5 [0,4],tT 6 [0,4,15],tT 8 [0,4,5],tT 9 [0,4,5,24],tT 10 [2,3],tT 7 [0,4],tT 11 [2,3]]
def aJq:TG:=[tT 6 [0,4]]
def aoB:aq:=aw Pg Tryz.f72 aKB aJq
def tj:OT:=tdC (ag.sub [1,1,1,0,1,0] (emb aoB))
def IG:PT St:=pS [sl 0 (aV false [(cD dL)]),sI 4] []
def KE {β:Type}(g:St->β):ae->Int->β:=IG.unc g
def ass:PT St:=pS [sI 2,sI 3] []
def fO {β:Type}(g:St->β):Int->Int->β:=ass.unc g
def aug:PT St:=pS [sl 0 (aV false [(cD dL)]),sI 4,sl 15 (aV false [(cD dB)])] []
def zR {β:Type}(g:St->β):ae->Int->Bool->β:=aug.unc g
def wM:ag:=ag.sub [1,1,1,0,1,0,0] (emb aoB)
def uS (α:Type)(b:ae)(a:Int)(kn:Int->Op α)(k1:Int->Int->Op α)(k2:Int->Bool->Op α):Op α:=
 cK (decide (a < ((List.length b:Nat):Int)))
 (dG b a [.int .i64,.int .i64,.int .i64,.int .i64,.int .i64,.int .i64,.int .i64,.int .i64,.int .i64]
 (fun d e g h i j l m o=>Nq α d e g h i j l m o
 (fun c=>cK (c != 0)
 (k1 a c)
 (kn (w64 (a+1))))))
 (k2 a (decide (a < ((List.length b:Nat):Int))))
def p8 (α:Type)(a:ae)(k1:Int->Int->Op α)(k2:Int->Bool->Op α):Nat->Int->Op α
 | 0,_=>none
 | n+1,b=>uS α a b (p8 α a k1 k2 n) k1 k2
def MR (α:Type)(a:ae)(k1:Int->Int->Op α)(k2:Int->Bool->Op α)(b:Int):Op α:=p8 α a k1 k2 aF b
def AN:vS:=sld MR
def ZB (v:vS)(α:Type)(K:KT α):ae->Int->Op α:=fun c d=>v α c (fun a b=>fO (K .ret) a b) (fun a b=>zR (K (.exit 0)) c a b) d
theorem aqC (α:Type)(K:KT α)(Kn:SK α)(a:ae)(b:Int):KE (fun σ=>az Pg Ek4 ae5 wM (bK (fun σ=>bq tj σ Kn) K) σ) a b=uS α a b (fun b=>KE Kn a b) (fun c d=>fO (K .ret) c d) (fun c d=>zR (K (.exit 0)) a c d):=by kernel_rfl
theorem aqM (α:Type)(K:KT α):∀ (n:Nat) (a:ae) (b:Int),p8 α a (fun c d=>fO (K .ret) c d) (fun c d=>zR (K (.exit 0)) a c d) n b=KE (aJ (az Pg Ek4 ae5 wM) tj K n) a b:=by
 intro n
 induction n with
 | zero=>intros;rfl
 | succ n ih=>intro a b;exact (congrArg (fun kn=>uS α a b kn (fun c d=>fO (K .ret) c d) (fun c d=>zR (K (.exit 0)) a c d)) (funext fun b=>ih a b)).trans (aqC α K (aJ (az Pg Ek4 ae5 wM) tj K n) a b).symm
theorem anV:∀ (α:Type) (K:KT α),ZB AN α K=IG.unc fun σ=>aJ (az Pg Ek4 ae5 wM) tj K aF σ:=aZ (fun α K=>funext fun a=>funext fun b=>aqM α K aF a b)
abbrev H9:Type 1:=(α:Type)->ae->(Int->Int->Op α)->Op α
def akG (α:Type)(a:ae)(k1:Int->Int->Op α):Op α:=
 cK (((List.length a:Nat):Int) == 0)
 (k1 0 12)
 (cK (decide (8 < ((List.length a:Nat):Int)))
 (k1 0 8)
 (AN α a
 (fun b c=>k1 b c)
 (fun d e=>k1 0 0) 0))
def Oe:H9:=sld akG
def aib (v:H9)(α:Type)(k:RT α):ae->Op α:=fun a=>v α a (fun b c=>fp k b c)
def ayR:ag:=(ag.put (.m [⟨IG,ZB AN⟩]) [1,1,1,0,1,0] (emb aoB))
theorem azh:ak Pg 72 27 ⟨oU,aib Oe⟩:=iZ ek4 (ah Tryz.func72 (by kernel_rfl)) ae5 ayR ((an _ _).trans (aA _)) (aY (td:=tj) (by kernel_rfl) (aD aoB) ⟨anV,trivial⟩) fun _ _=>by kernel_rfl
def avI:SG:=[(6,iS 2),(14,iT),(17,iT),(23,iT),(26,iT),(31,iS 2)]
def aHv:TG:=[tT 0 [1,2],tT 1 [1,2,4],tT 2 [1,2,4,9],tT 3 [2,3],tT 4 [1,2,5],tT 5 [1,2,5,15],tT 6 [1,2,5],tT 7 [1,2,5,24],tT 8 [2,5],tT 9 [2,3]]
def ajW:aq:=aw Pg Tryz.f215 aHv aC
def BC:PT St:=pS [sP 1,sP 2,sP 5] [au 1 [xI,xI],au 2 [xI,xI],au 5 [xI,xI]]
def acd {β:Type}(g:St->β):I6 β:=BC.unc g
def amr:PT St:=pS [sP 1,sP 2,sP 5,sl 15 (aV false [(cD dB)])] [au 1 [xI,xI],au 2 [xI,xI],au 5 [xI,xI]]
def adh {β:Type}(g:St->β):Bool->I6 β:=amr.unc g
def ab2:ag:=ag.sub [1,1,1,0] (emb ajW)
def Fv (α:Type)(a:Int)(k1:Int->Op α)(k2:Bool->Op α):Op α:=
 cK (decide (a<=16777216))
 (BS α a
 (fun c=>gi α c 1024
 (fun b=>k1 (if b > 0 then b else 0))))
 (k2 (decide (a<=16777216)))
def sE:je:=sld Fv
def OJ (v:je)(α:Type)(K:KT α):I6 (Op α):=fun c a d e h g=>v α a (fun b=>acd (K .normal) c a d e b g) (fun b=>adh (K .normal) b c a d e h g)
theorem acw:∀ (α:Type) (K:KT α),OJ sE α K=BC.unc fun σ=>az Pg Ek4 avI ab2 K σ:=aZ (fun α K=>by kernel_rfl)
def Yp (α:Type)(a b:Int)(k1:Int->Int->Int->Op α):Op α:=
 xU α a b 0
 (fun c=>cK (c != 0)
 (k1 0 0 c)
 (sE α b
 (fun d=>cK (decide (a<=16777216))
 (yS α a
 (fun h=>cC α h 1024
 (fun e=>k1 d (if e < 1048576 then e else 1048576) 0)))
 (k1 d 1 0))
 (fun j=>cK (decide (a<=16777216))
 (yS α a
 (fun i=>cC α i 1024
 (fun g=>k1 0 (if g < 1048576 then g else 1048576) 0)))
 (k1 0 1 0))))
def r8:AR:=sld Yp
def W8 (v:AR)(α:Type)(k:RT α):Int->Int->Op α:=fun a b=>v α a b (fun c d e=>jd k c d e)
def at8:ag:=(ag.put (.m [⟨BC,OJ sE⟩]) [1,1,1] (emb ajW))
theorem app:ak Pg 215 32 ⟨ba,W8 r8⟩:=iZ ek4 (ah Tryz.func215 (by kernel_rfl)) avI at8 ((an _ _).trans (aA _)) (aM (by kernel_rfl) (aD ajW) ⟨acw,trivial⟩) fun _ _=>by kernel_rfl
def Ly:SG:=[(27,iS 2),(28,iS 2),(34,iS 2),(36,iS 2),(40,iS 2),(41,iS 2)]
def aHr:TG:=[tT 0 [0,2],tT 1 [0,2,3],tT 2 [0,2,4,5],tT 3 [0,2,4,5,6,7],tT 4 [0,2,4,5,6,7,22],tT 5 [0,2,4,5,6,7,8],tT 6 [0,2,4,5,6,7,8,9],tT 7 [0,2,4,5,6,7,8,9,32],tT 8 [0,2,4,5,6,7],tT 9 [0,2,4,5,6,7],tT 10 [2,4,5,39],tT 11 [2],tT 12 [2]]
def aBZ:TG:=[tT 4 [0,2,4,5,6,7]]
def Tm:aq:=aw Pg Tryz.f282 aHr aBZ
def oV:OT:=tdC (ag.sub [1,1,1,1,0,0] (emb Tm))
def BT:PT St:=pS [sI 0,sP 2,sP 4,sP 5,sI 6,sI 7] [au 2 [xI,xI],au 4 [xI,xI],au 5 [xI,xI]]
def BY {β:Type}(g:St->β):I9 β:=BT.unc g
def acN:PT St:=pS [sI 0,sP 2,sP 4,sP 5,sI 6,sI 7,sl 22 (aV false [(cD dB)])] [au 2 [xI,xI],au 4 [xI,xI],au 5 [xI,xI]]
def wp {β:Type}(g:St->β):Int->Int->Int->Bool->I6 β:=acN.unc g
def qB:ag:=ag.sub [1,1,1,1,0,0,0] (emb Tm)
def pM (α:Type)(c b a d e g h:Int)(kn:I6 (Op α))(k1:Int->Int->Bool->I4 (Op α)):Op α:=
 cK (c != b)
 (cK (c != a)
 (DS α d e g h
 (fun i j=>cK (decide ((w64 (Int.tdiv (w64 (b+a)) 2))<=c))
 (kn (w64 (Int.tdiv (w64 (b+a)) 2)) a i j g h)
 (kn b (w64 (Int.tdiv (w64 (b+a)) 2)) d e i j)))
 (k1 b a (c != a) d e g h))
 (k1 b a false d e g h)
def mb (α:Type)(a:Int)(k1:Int->Int->Bool->I4 (Op α)):Nat->I6 (Op α)
 | 0,_,_,_,_,_,_=>none
 | n+1,b,c,d,e,g,h=>pM α a b c d e g h (mb α a k1 n) k1
def FG (α:Type)(a:Int)(k1:Int->Int->Bool->I4 (Op α))(b c d e g h:Int):Op α:=mb α a k1 aF b c d e g h
abbrev HS:Type 1:=(α:Type)->Int->(Int->Int->Bool->I4 (Op α))->I6 (Op α)
def ta:HS:=sld FG
def OF (v:HS)(α:Type)(K:KT α):I9 (Op α):=fun a b c d e g h i j=>v α a (fun l m o p q r s=>wp (K (.exit 0)) a l m o d e p q r s) b c g h i j
theorem ai5 (α:Type)(K:KT α)(Kn:SK α)(a b c i j d e g h:Int):BY (fun σ=>az Pg Ek4 Ly qB (bK (fun σ=>bq oV σ Kn) K) σ) a b c i j d e g h=pM α a b c d e g h (fun b c d e g h=>BY Kn a b c i j d e g h) (fun l m o p q r s=>wp (K (.exit 0)) a l m o i j p q r s):=by kernel_rfl
theorem ajQ (α:Type)(K:KT α):∀ (n:Nat) (a b c i j d e g h:Int),mb α a (fun l m o p q r s=>wp (K (.exit 0)) a l m o i j p q r s) n b c d e g h=BY (aJ (az Pg Ek4 Ly qB) oV K n) a b c i j d e g h:=by
 intro n
 induction n with
 | zero=>intros;rfl
 | succ n ih=>intro a b c i j d e g h;exact (congrArg (fun kn=>pM α a b c d e g h kn (fun l m o p q r s=>wp (K (.exit 0)) a l m o i j p q r s)) (funext fun b=>funext fun c=>funext fun d=>funext fun e=>funext fun g=>funext fun h=>ih a b c i j d e g h)).trans (ai5 α K (aJ (az Pg Ek4 Ly qB) oV K n) a b c i j d e g h).symm
theorem afg:∀ (α:Type) (K:KT α),OF ta α K=BT.unc fun σ=>aJ (az Pg Ek4 Ly qB) oV K aF σ:=aZ (fun α K=>funext fun a=>funext fun b=>funext fun c=>funext fun d=>funext fun e=>funext fun g=>funext fun h=>funext fun i=>funext fun j=>ajQ α K aF a b c d e g h i j)
def Qx (α:Type)(a:Int)(k1:Int->Int->Op α):Op α:=
 eF α 2251799813685248
 (fun b=>ta α a
 (fun c i j d e g h=>cK (a == c)
 (k1 d e)
 (k1 g h)) 0 524288 67108864 0 b b)
def iC:dW:=sld Qx
def Wt (v:dW)(α:Type)(k:RT α):Int->Op α:=fun a=>v α a (fun b c=>bu k b c)
def anj:ag:=(ag.put (.m [⟨BT,OF ta⟩]) [1,1,1,1,0,0] (emb Tm))
theorem amG:ak Pg 282 42 ⟨aU,Wt iC⟩:=iZ ek4 (ah Tryz.func282 (by kernel_rfl)) Ly anj ((an _ _).trans (aA _)) (aY (td:=oV) (by kernel_rfl) (aD Tm) ⟨afg,trivial⟩) fun _ _=>by kernel_rfl
def aCm:TG:=[tT 0 [0,1,2],tT 1 [2,7,8],tT 2 [2,7,8,22],tT 3 [6],tT 4 [9,10],tT 5 [9,10,32],tT 6 [6],tT 7 [9,34],tT 8 [9],tT 9 [6]]
def aD4:aq:=aw Pg Tryz.f226 aCm aC
def Su (α:Type)(d e b:Int)(k1:Int->Op α):Op α:=
 yg α (IntKind.wrap .u64 (d)) (IntKind.wrap .u64 (e))
 (fun c g=>cK (decide ((IntKind.wrap .u64 (b))<=c))
 (k1 2147483647)
 (xY α c g (IntKind.wrap .u64 (b))
 (fun a h=>cK (decide (2147483647<=a))
 (k1 2147483647)
 (cK (h != 0)
 (k1 (w64 ((IntKind.wrap .u64 (a+1)))))
 (k1 (w64 (a)))))))
def Ci:AE:=sld Su
def YD (v:AE)(α:Type)(k:RT α):Int->Int->Int->Op α:=fun a b c=>v α a b c (fun d=>aR k d)
theorem ant:ak Pg 226 39 ⟨eW,YD Ci⟩:=iP ek4 aD4 (ah Tryz.func226 (by kernel_rfl)) aO fun _ _=>by kernel_rfl
def aHk:TG:=[tT 0 [0,1,2],tT 1 [0,2,8,9],tT 2 [0,2,8,9,24],tT 3 [6,7],tT 4 [0,2,10,11],tT 5 [0,2,10,11,34],tT 6 [6,7],tT 7 [0,2,6,7,11],tT 8 [0,6,7,54],tT 9 [0,6,7],tT 10 [6,7,58],tT 11 [6,7],tT 12 [6,7]]
def afD:aq:=aw Pg Tryz.f200 aHk aC
def DP:PT St:=pS [sI 0,sI 2,sI 6,sl 7 (aV false [(cD dB)]),sl 11 (aV false [(cD (dI .u64))])] []
def aBm {β:Type}(g:St->β):Int->Int->Int->Bool->Int->β:=DP.unc g
def acy:PT St:=pS [sI 0,sI 6,sl 7 (aV false [(cD dB)]),sl 54 (aV false [(cD dB)])] []
def aj7 {β:Type}(g:St->β):Int->Int->Bool->Bool->β:=acy.unc g
def aal:ag:=ag.sub [1,1,1,1,1,1,0,0] (emb afD)
def GI (α:Type)(c a b:Int)(k1:Bool->Op α):Op α:=
 cK (decide ((IntKind.wrap .u64 (a)) < (IntKind.wrap .u64 (2*b))))
 (k1 true)
 (cK (decide (0<=c))
 (k1 ((IntKind.wrap .u64 (2*b)) == (IntKind.wrap .u64 (a))))
 (k1 false))
def nU:ch:=sld GI
def L4 (v:ch)(α:Type)(K:KT α):Int->Int->Int->Bool->Int->Op α:=fun a b c d e=>v α a b e (fun g=>aj7 (K .normal) a c d g)
theorem ahw:∀ (α:Type) (K:KT α),L4 nU α K=DP.unc fun σ=>az Pg Ek4 aO aal K σ:=aZ (fun α K=>by kernel_rfl)
abbrev QO:Type 1:=(α:Type)->Int->Int->Int->(Int->Bool->Op α)->Op α
def YF (α:Type)(c g d:Int)(k1:Int->Bool->Op α):Op α:=
 pI α c
 (fun h=>yg α (IntKind.wrap .u64 (h)) (IntKind.wrap .u64 (g))
 (fun e i=>cK (decide ((IntKind.wrap .u64 (d))<=e))
 (k1 2147483647 false)
 (xY α e i (IntKind.wrap .u64 (d))
 (fun a b=>cK (decide (2147483647 < a))
 (k1 2147483647 false)
 (nU α c d b
 (fun j=>cK j
 (cK (decide (c < 0))
 (k1 (w64 (0 - (w64 ((w64 (a))+1)))) (b != 0))
 (k1 (w64 ((w64 (a))+1)) (b != 0)))
 (cK (decide (c < 0))
 (k1 (w64 (0 - (w64 (a)))) (b != 0))
 (k1 (w64 (a)) (b != 0)))))))))
def mJ:QO:=sld YF
def SC (v:QO)(α:Type)(k:RT α):Int->Int->Int->Op α:=fun a b c=>v α a b c (fun d e=>qU k d e)
def arB:ag:=(ag.put (.m [⟨DP,L4 nU⟩]) [1,1,1,1,1,1,0] (emb afD))
theorem aom:ak Pg 200 63 ⟨eW,SC mJ⟩:=iZ ek4 (ah Tryz.func200 (by kernel_rfl)) aO arB ((an _ _).trans (aA _)) (aM (by kernel_rfl) (aD afD) ⟨ahw,trivial⟩) fun _ _=>by kernel_rfl
def aBQ:TG:=[tT 0 [1],tT 1 [2]]
def aFR:aq:=aw Pg Tryz.f204 aBQ aC
def Zx (α:Type)(a b:Int)(k1:Int->Op α):Op α:=
 jA α a b
 (fun c=>nP α c
 (fun d=>k1 d))
def mV:bz:=sld Zx
def Vi (v:bz)(α:Type)(k:RT α):Int->Int->Op α:=fun a b=>v α a b (fun c=>aR k c)
theorem aqt:ak Pg 204 6 ⟨ba,Vi mV⟩:=iP ek4 aFR (ah Tryz.func204 (by kernel_rfl)) avl fun _ _=>by kernel_rfl
def oP:SG:=[(16,[.flt .f64,.flt .f64]),(25,[.flt .f64,.flt .f64])]
def aG9:TG:=[tT 0 [0,1,4],tT 1 [0,1,4,6],tT 2 [0,1,4,6,16,17],tT 3 [0,1,4,6,16,17,18],tT 4 [0,1,4,6,8,16,17],tT 5 [0,1,4,6,16,17,22],tT 6 [4,5],tT 7 [0,1,4,6,16,17],tT 8 [0,1,4,25,26],tT 9 [0,1,4,25,26,27],tT 10 [0,1,4,10,25,26],tT 11 [0,1,4,25,26,32],tT 12 [4,5],tT 13 [0,1,4,25,26],tT 14 [4,5]]
def aCD:TG:=[tT 3 [0,1,4,6,16,17],tT 9 [0,1,4,25,26]]
def ze:aq:=aw Pg Tryz.f202 aG9 aCD
def wx:OT:=tdC (ag.sub [1,1,0,1,0] (emb ze))
def pg:OT:=tdC (ag.sub [1,1,1,0,1,0] (emb ze))
def tD:PT St:=pS [sl 0 (aV false [(cD (dX .f64))]),sl 1 (aV false [(cD (dF .f64))]),sP 4,sP 6,sl 16 (aV true [(cD (dF .f64)),(cD (dF .f64))]),sI 17,sl 18 (aV false [(cD dB)])] [au 4 [xI,xI],au 6 [(cD (dF .f64)),(cD (dF .f64))]]
def wd {β:Type}(g:St->β):Nat->Nat->Nat->Nat->Nat->Int->Bool->Int->Int->Nat->Nat->β:=tD.unc g
def ahK:PT St:=pS [sl 0 (aV false [(cD (dX .f64))]),sl 1 (aV false [(cD (dF .f64))]),sP 4,sP 6,sl 8 (aV false [(cD (dF .f64))]),sl 16 (aV true [(cD (dF .f64)),(cD (dF .f64))]),sI 17] [au 4 [xI,xI],au 6 [(cD (dF .f64)),(cD (dF .f64))]]
def aj0 {β:Type}(g:St->β):Nat->Nat->Nat->Nat->Nat->Nat->Int->Int->Int->Nat->Nat->β:=ahK.unc g
def Br:PT St:=pS [sl 0 (aV false [(cD (dX .f64))]),sl 1 (aV false [(cD (dF .f64))]),sP 4,sP 6,sl 16 (aV true [(cD (dF .f64)),(cD (dF .f64))]),sI 17] [au 4 [xI,xI],au 6 [(cD (dF .f64)),(cD (dF .f64))]]
def EH {β:Type}(g:St->β):Nat->Nat->Nat->Nat->Nat->Int->Int->Int->Nat->Nat->β:=Br.unc g
def afq:PT St:=pS [sP 4,sI 5] [au 4 [xI,xI]]
def ii {β:Type}(g:St->β):Int->Int->Int->β:=afq.unc g
def tx:PT St:=pS [sl 0 (aV false [(cD (dX .f64))]),sl 1 (aV false [(cD (dF .f64))]),sP 4,sl 25 (aV true [(cD (dF .f64)),(cD (dF .f64))]),sI 26,sl 27 (aV false [(cD dB)])] [au 4 [xI,xI]]
def vM {β:Type}(g:St->β):Nat->Nat->Nat->Nat->Nat->Int->Bool->Int->Int->β:=tx.unc g
def afS:PT St:=pS [sl 0 (aV false [(cD (dX .f64))]),sl 1 (aV false [(cD (dF .f64))]),sP 4,sl 10 (aV false [(cD (dF .f64))]),sl 25 (aV true [(cD (dF .f64)),(cD (dF .f64))]),sI 26] [au 4 [xI,xI]]
def afA {β:Type}(g:St->β):Nat->Nat->Nat->Nat->Nat->Nat->Int->Int->Int->β:=afS.unc g
def BX:PT St:=pS [sl 0 (aV false [(cD (dX .f64))]),sl 1 (aV false [(cD (dF .f64))]),sP 4,sl 25 (aV true [(cD (dF .f64)),(cD (dF .f64))]),sI 26] [au 4 [xI,xI]]
def EK {β:Type}(g:St->β):Nat->Nat->Nat->Nat->Nat->Int->Int->Int->β:=BX.unc g
def abS:ag:=ag.sub [1,1,1,0,1,0,0,1,1,0,0,0] (emb ze)
abbrev qr:Type 1:=(α:Type)->Nat->Nat->Int->(Nat->Op α)->Op α
def FE (α:Type)(b c:Nat)(a:Int)(k1:Nat->Op α):Op α:=
 cK (a == 1)
 (k1 c)
 (cK (a == 0)
 (k1 b)
 (none))
def oC:qr:=sld FE
def DG (v:qr)(α:Type)(K:KT α):Nat->Nat->Nat->Nat->Nat->Int->Bool->Int->Int->Op α:=fun d e g a b c l h i=>v α a b c (fun j=>afA (K .normal) d e g j a b c h i)
theorem ajH:∀ (α:Type) (K:KT α),DG oC α K=tx.unc fun σ=>az Pg Ek4 oP abS K σ:=aZ (fun α K=>by kernel_rfl)
def qW:ag:=ag.sub [1,1,1,0,1,0,0] (ag.put (.m [⟨tx,DG oC⟩]) [1,1,1,0,1,0,0,1,1,0,0] (emb ze))
def tN (α:Type)(b c d:Nat)(a:Int)(kn:Int->Op α)(k1:Op α)(k2:Int->Bool->Op α):Op α:=
 cK (decide (a < 2))
 (oC α c d a
 (fun e=>yr α e
 (fun g=>cK ((FloatKind.format .f64).order g b == some Ordering.gt)
 (k1)
 (kn (w64 (a+1))))))
 (k2 a (decide (a < 2)))
def ux (α:Type)(a b c:Nat)(k1:Op α)(k2:Int->Bool->Op α):Nat->Int->Op α
 | 0,_=>none
 | n+1,d=>tN α a b c d (ux α a b c k1 k2 n) k1 k2
def Gp (α:Type)(a b c:Nat)(k1:Op α)(k2:Int->Bool->Op α)(d:Int):Op α:=ux α a b c k1 k2 aF d
abbrev GR:Type 1:=(α:Type)->Nat->Nat->Nat->(Op α)->(Int->Bool->Op α)->Int->Op α
def uE:GR:=sld Gp
def MW (v:GR)(α:Type)(K:KT α):Nat->Nat->Nat->Nat->Nat->Int->Int->Int->Op α:=fun d e a b c g h i=>v α a b c (ii (K .ret) 2 0 0) (fun j l=>vM (K (.exit 2)) d e a b c j l h i) g
theorem ahS (α:Type)(K:KT α)(Kn:SK α)(e g a b c:Nat)(d h i:Int):EK (fun σ=>az Pg Ek4 oP qW (bK (fun σ=>bq pg σ Kn) K) σ) e g a b c d h i=tN α a b c d (fun d=>EK Kn e g a b c d h i) (ii (K .ret) 2 0 0) (fun j l=>vM (K (.exit 2)) e g a b c j l h i):=by kernel_rfl
theorem ajd (α:Type)(K:KT α):∀ (n:Nat) (e g a b c:Nat) (d h i:Int),ux α a b c (ii (K .ret) 2 0 0) (fun j l=>vM (K (.exit 2)) e g a b c j l h i) n d=EK (aJ (az Pg Ek4 oP qW) pg K n) e g a b c d h i:=by
 intro n
 induction n with
 | zero=>intros;rfl
 | succ n ih=>intro e g a b c d h i;exact (congrArg (fun kn=>tN α a b c d kn (ii (K .ret) 2 0 0) (fun j l=>vM (K (.exit 2)) e g a b c j l h i)) (funext fun d=>ih e g a b c d h i)).trans (ahS α K (aJ (az Pg Ek4 oP qW) pg K n) e g a b c d h i).symm
theorem afv:∀ (α:Type) (K:KT α),MW uE α K=BX.unc fun σ=>aJ (az Pg Ek4 oP qW) pg K aF σ:=aZ (fun α K=>funext fun a=>funext fun b=>funext fun c=>funext fun d=>funext fun e=>funext fun g=>funext fun h=>funext fun i=>ajd α K aF a b c d e g h i)
def ZR:ag:=ag.sub [1,1,0,1,0,0,1,1,0,0,0] (emb ze)
def GX (α:Type)(b c:Nat)(a:Int)(k1:Nat->Op α):Op α:=
 cK (a == 1)
 (k1 c)
 (cK (a == 0)
 (k1 b)
 (none))
def od:qr:=sld GX
def Cu (v:qr)(α:Type)(K:KT α):Nat->Nat->Nat->Nat->Nat->Int->Bool->Int->Int->Nat->Nat->Op α:=fun d e g a b c o h i j l=>v α a b c (fun m=>aj0 (K .normal) d e g m a b c h i j l)
theorem agh:∀ (α:Type) (K:KT α),Cu od α K=tD.unc fun σ=>az Pg Ek4 oP ZR K σ:=aZ (fun α K=>by kernel_rfl)
def sX:ag:=ag.sub [1,1,0,1,0,0] (ag.put (.m [⟨tD,Cu od⟩]) [1,1,0,1,0,0,1,1,0,0] (emb ze))
def sN (α:Type)(b c:Nat)(a:Int)(kn:Int->Op α)(k1:Op α)(k2:Int->Bool->Op α):Op α:=
 cK (decide (a < 2))
 (od α b c a
 (fun d=>Cc α d
 (fun e=>cK (!e)
 (k1)
 (kn (w64 (a+1))))))
 (k2 a (decide (a < 2)))
def va (α:Type)(a b:Nat)(k1:Op α)(k2:Int->Bool->Op α):Nat->Int->Op α
 | 0,_=>none
 | n+1,c=>sN α a b c (va α a b k1 k2 n) k1 k2
def Gz (α:Type)(a b:Nat)(k1:Op α)(k2:Int->Bool->Op α)(c:Int):Op α:=va α a b k1 k2 aF c
abbrev Gm:Type 1:=(α:Type)->Nat->Nat->(Op α)->(Int->Bool->Op α)->Int->Op α
def vw:Gm:=sld Gz
def NE (v:Gm)(α:Type)(K:KT α):Nat->Nat->Nat->Nat->Nat->Int->Int->Int->Nat->Nat->Op α:=fun c d e a b g h i j l=>v α a b (ii (K .ret) 27 0 0) (fun m o=>wd (K (.exit 0)) c d e a b m o h i j l) g
theorem aiH (α:Type)(K:KT α)(Kn:SK α)(d e g a b:Nat)(c h i:Int)(j l:Nat):EH (fun σ=>az Pg Ek4 oP sX (bK (fun σ=>bq wx σ Kn) K) σ) d e g a b c h i j l=sN α a b c (fun c=>EH Kn d e g a b c h i j l) (ii (K .ret) 27 0 0) (fun m o=>wd (K (.exit 0)) d e g a b m o h i j l):=by kernel_rfl
theorem aed (α:Type)(K:KT α):∀ (n:Nat) (d e g a b:Nat) (c h i:Int) (j l:Nat),va α a b (ii (K .ret) 27 0 0) (fun m o=>wd (K (.exit 0)) d e g a b m o h i j l) n c=EH (aJ (az Pg Ek4 oP sX) wx K n) d e g a b c h i j l:=by
 intro n
 induction n with
 | zero=>intros;rfl
 | succ n ih=>intro d e g a b c h i j l;exact (congrArg (fun kn=>sN α a b c kn (ii (K .ret) 27 0 0) (fun m o=>wd (K (.exit 0)) d e g a b m o h i j l)) (funext fun c=>ih d e g a b c h i j l)).trans (aiH α K (aJ (az Pg Ek4 oP sX) wx K n) d e g a b c h i j l).symm
theorem afj:∀ (α:Type) (K:KT α),NE vw α K=Br.unc fun σ=>aJ (az Pg Ek4 oP sX) wx K aF σ:=aZ (fun α K=>funext fun a=>funext fun b=>funext fun c=>funext fun d=>funext fun e=>funext fun g=>funext fun h=>funext fun i=>funext fun j=>funext fun l=>aed α K aF a b c d e g h i j l)
abbrev We:Type 1:=(α:Type)->Nat->Nat->Nat->(Int->Int->Int->Op α)->Op α
def WT (α:Type)(a b c:Nat)(k1:Int->Int->Int->Op α):Op α:=
 vw α a b
 (k1 0 0 27)
 (fun g h=>uE α c a b
 (k1 0 0 2)
 (fun i j=>Iu α a b
 (fun d e=>k1 d e 0)) 0) 0
def EE:We:=sld WT
def P9:PT (List DV):=pA [pV false [(dX .f64)],pV false [(dF .f64)]]
def QE (v:We)(α:Type)(k:RT α):Nat->Nat->Nat->Op α:=fun a b c=>v α a b c (fun d e g=>jd k d e g)
def atn:ag:=(ag.put (.m [⟨Br,NE vw⟩]) [1,1,0,1,0] (ag.put (.m [⟨tD,Cu od⟩]) [1,1,0,1,0,0,1,1,0,0] (ag.put (.m [⟨BX,MW uE⟩]) [1,1,1,0,1,0] (ag.put (.m [⟨tx,DG oC⟩]) [1,1,1,0,1,0,0,1,1,0,0] (emb ze)))))
theorem as5:ak Pg 202 37 ⟨P9,QE EE⟩:=iZ ek4 (ah Tryz.func202 (by kernel_rfl)) oP atn ((an _ _).trans ((an _ _).trans ((an _ _).trans ((an _ _).trans (aA _))))) (aY (td:=wx) (by kernel_rfl) (aM (by kernel_rfl) (aY (td:=pg) (by kernel_rfl) (aM (by kernel_rfl) (aD ze) ⟨ajH,trivial⟩) ⟨afv,trivial⟩) ⟨agh,trivial⟩) ⟨afj,trivial⟩) fun _ _=>by kernel_rfl
def aFc:TG:=[tT 0 [0,1,4],tT 1 [0,1,4,15],tT 2 [4,5],tT 3 [4,6,7],tT 4 [4,5]]
def aBw:aq:=aw Pg Tryz.f229 aFc aC
abbrev fL:Type 1:=(α:Type)->Int->Int->(Nat->Nat->Int->Int->Op α)->Op α
def QU (α:Type)(a b:Int)(k1:Nat->Nat->Int->Int->Op α):Op α:=
 j0 α a 1000000000
 (fun c=>cK (!c)
 (k1 0 0 0 2)
 (kI α b 1 1000000000
 (fun d=>cK (!d)
 (k1 0 0 0 2)
 (mt α (w64 (a*1048576)) b
 (fun e g=>jH α g
 (fun h=>fZ α e 0 h
 (fun i j l m=>k1 i j l m)))))))
def BN:fL:=sld QU
def W0 (v:fL)(α:Type)(k:RT α):Int->Int->Op α:=fun a b=>v α a b (fun c d e g=>bF k c d e g)
theorem amt:ak Pg 229 32 ⟨br,W0 BN⟩:=iP ek4 aBw (ah Tryz.func229 (by kernel_rfl)) aO fun _ _=>by kernel_rfl
def au8:SG:=[(7,iT),(12,iT),(19,iT),(21,iT),(25,iT),(27,iT),(33,iT)]
def aHt:TG:=[tT 0 [1,2],tT 1 [1,2,5],tT 2 [2,3],tT 3 [1,2,17],tT 4 [2,3],tT 5 [1,2,4],tT 6 [2,3]]
def alg:aq:=aw Pg Tryz.f193 aHt aC
def Ct:PT St:=pS [sP 1,sP 2] [au 1 [xI,xI],au 2 [(cD (dX .f64)),xI]]
def aDW {β:Type}(g:St->β):Int->Int->Nat->Nat->Int->β:=Ct.unc g
def akc:PT St:=pS [sP 1,sP 2,sl 5 (aV false [(cD dB)])] [au 1 [xI,xI],au 2 [(cD (dX .f64)),xI]]
def afb {β:Type}(g:St->β):Bool->Int->Int->Nat->Nat->Int->β:=akc.unc g
def alC:ag:=ag.sub [1,0,0,0] (emb alg)
def FD (α:Type)(a b:Int)(k1:Bool->Op α):Op α:=
 j0 α a 67108864
 (fun c=>cK (!c)
 (k1 true)
 (j0 α b 67108864
 (fun d=>k1 (!d))))
def sR:bI:=sld FD
def MG (v:bI)(α:Type)(K:KT α):Int->Int->Nat->Nat->Int->Op α:=fun a b c d e=>v α a b (fun g=>afb (K .normal) g a b c d e)
theorem al5:∀ (α:Type) (K:KT α),MG sR α K=Ct.unc fun σ=>az Pg Ek4 au8 alC K σ:=aZ (fun α K=>by kernel_rfl)
def YJ (α:Type)(b a:Int)(k1:Nat->Nat->Int->Int->Op α):Op α:=
 sR α b a
 (fun d=>cK d
 (k1 0 0 0 2)
 (cK (decide (a < b))
 (k1 0 0 0 10)
 (gi α (w64 (b+a)) 2
 (fun c=>fZ α c 0 (w64 (a - c))
 (fun e g h i=>k1 e g h i)))))
def mF:fL:=sld YJ
def Wi (v:fL)(α:Type)(k:RT α):Int->Int->Op α:=fun a b=>v α a b (fun c d e g=>bF k c d e g)
def aqV:ag:=(ag.put (.m [⟨Ct,MG sR⟩]) [1,0,0] (emb alg))
theorem aro:ak Pg 193 40 ⟨ba,Wi mF⟩:=iZ ek4 (ah Tryz.func193 (by kernel_rfl)) au8 aqV ((an _ _).trans (aA _)) (aM (by kernel_rfl) (aD alg) ⟨al5,trivial⟩) fun _ _=>by kernel_rfl
def aby:SG:=[(9,iT),(13,iS 2),(19,iT),(23,iS 2),(29,[.sl]),(33,[.sl]),(38,iS 5),(39,iS 5),(43,iT),(49,iT),(56,iT),(63,iT),(69,iT),(78,iT),(81,iT),(86,iT),(89,iT),(97,iT),(103,iT)]
def aJC:TG:=[tT 0 [1],tT 1 [1,11],tT 2 [2,3],tT 3 [1,4],tT 4 [1,4,16],tT 5 [2,3],tT 6 [1,21],tT 7 [2,3],tT 8 [1,5],tT 9 [1,5,26],tT 10 [2,3],tT 11 [1,31],tT 12 [2,3],tT 13 [1,33,34,35],tT 14 [1,33,34,35,36],tT 15 [1,6,7,33,34,35],tT 16 [1,6,7,33,34,35,40],tT 17 [2,3],tT 18 [1,6,33,34,35,75],tT 19 [2,3],tT 20 [1,33,34,35],tT 21 [106],tT 22 [2,3],tT 23 [2,3]]
def aKD:TG:=[(14,⟨[1,33,34,35],true,[⟨false,33,0,20033,5⟩,⟨true,1,6,30106,5⟩],[]⟩)]
def ah9:aq:=aw Pg Tryz.f93 aJC aKD
def t8:OT:=tdC (ag.sub [1,1,1,1,1,1,0,1,0] (emb ah9))
def AI:PT St:=pS [sP 1,sI 6,sP 7,sl 33 (aV false [(cD dL)]),sI 34,sI 35] [au 1 [xI,xI,xI,xI,xI,xI,(cD dL),xI,xI],au 7 (xs 5)]
def aIt {β:Type}(g:St->β):Int->ae->Int->Int->Int->Int->Int->Int->Int->Int->ae->I7 β:=AI.unc g
def ar2:PT St:=pS [sP 1,sI 6,sP 7,sl 33 (aV false [(cD dL)]),sI 34,sI 35,sl 40 (aV false [(cD dB)])] [au 1 [xI,xI,xI,xI,xI,xI,(cD dL),xI,xI],au 7 (xs 5)]
def asN {β:Type}(g:St->β):Int->ae->Int->Int->Bool->Int->Int->Int->Int->Int->Int->ae->I7 β:=ar2.unc g
def Iw:PT St:=pS [sP 1,sl 33 (aV false [(cD dL)]),sI 34,sI 35] [au 1 [xI,xI,xI,xI,xI,xI,(cD dL),xI,xI]]
def Kv {β:Type}(g:St->β):ae->Int->Int->Int->Int->Int->Int->Int->Int->ae->Int->Int->β:=Iw.unc g
def auc:PT St:=pS [sP 1,sl 33 (aV false [(cD dL)]),sI 34,sI 35,sl 36 (aV false [(cD dB)])] [au 1 [xI,xI,xI,xI,xI,xI,(cD dL),xI,xI]]
def AC {β:Type}(g:St->β):ae->Int->Int->Bool->Int->Int->Int->Int->Int->Int->ae->Int->Int->β:=auc.unc g
def aik:ag:=ag.sub [1,1,1,1,1,1,0,1,0,0,1,1,0,0,1,0,0] (emb ah9)
abbrev L6:Type 1:=(α:Type)->Int->Int->Int->Int->Int->(Bool->Op α)->Op α
def LA (α:Type)(a b c d e:Int)(k1:Bool->Op α):Op α:=
 rg α a
 (fun g=>cK (!g)
 (k1 true)
 (rg α b
 (fun h=>cK (!h)
 (k1 true)
 (CH α c
 (fun i=>cK (!i)
 (k1 true)
 (CH α d
 (fun j=>cK (!j)
 (k1 true)
 (zk α e
 (fun l=>k1 (!l))))))))))
def qZ:L6:=sld LA
def IS (v:L6)(α:Type)(K:KT α):Int->ae->Int->Int->Int->Int->Int->Int->Int->Int->ae->I7 (Op α):=fun g h i j l m o p q r s t w a b c d e=>v α a b c d e (fun z=>asN (K .normal) g h i j z l m o p q r s t w a b c d e)
theorem ape:∀ (α:Type) (K:KT α),IS qZ α K=AI.unc fun σ=>az Pg Ek4 aby aik K σ:=aZ (fun α K=>by kernel_rfl)
def wY:ag:=ag.sub [1,1,1,1,1,1,0,1,0,0] (ag.put (.m [⟨AI,IS qZ⟩]) [1,1,1,1,1,1,0,1,0,0,1,1,0,0,1,0] (emb ah9))
def wm (α:Type)(h:ae)(b a:Int)(kn:Int->Op α)(k1:Int->Int->Op α)(k2:Int->Bool->Op α):Op α:=
 cK (decide (a < b))
 (dG h a [.int .i64,.int .i64,.int .i64,.int .i64,.int .i64]
 (fun c d e g i=>qZ α c d e g i
 (fun j=>cK j
 (k1 (w64 (a+1)) 2)
 (cK (decide (d < c))
 (k1 (w64 (a+1)) 10)
 (cK (decide (g < e))
 (k1 (w64 (a+1)) 10)
 (kn (w64 (a+1))))))))
 (k2 a (decide (a < b)))
def qA (α:Type)(a:ae)(b:Int)(k1:Int->Int->Op α)(k2:Int->Bool->Op α):Nat->Int->Op α
 | 0,_=>none
 | n+1,c=>wm α a b c (qA α a b k1 k2 n) k1 k2
def Oi (α:Type)(a:ae)(b:Int)(k1:Int->Int->Op α)(k2:Int->Bool->Op α)(c:Int):Op α:=qA α a b k1 k2 aF c
abbrev tk:Type 1:=(α:Type)->ae->Int->(Int->Int->Op α)->(Int->Bool->Op α)->Int->Op α
def zY:tk:=sld Oi
def T1 (v:tk)(α:Type)(K:KT α):ae->Int->Int->Int->Int->Int->Int->Int->Int->ae->Int->Int->Op α:=fun c d e g h i j l m o p q=>v α c d (fun a b=>fO (K .ret) a b) (fun a b=>AC (K (.exit 0)) c d a b g h i j l m o p q) e
theorem atE (α:Type)(K:KT α)(Kn:SK α)(a:ae)(b c d e g h i j:Int)(l:ae)(m o:Int):Kv (fun σ=>az Pg Ek4 aby wY (bK (fun σ=>bq t8 σ Kn) K) σ) a b c d e g h i j l m o=wm α a b c (fun c=>Kv Kn a b c d e g h i j l m o) (fun p q=>fO (K .ret) p q) (fun p q=>AC (K (.exit 0)) a b p q d e g h i j l m o):=by kernel_rfl
theorem atH (α:Type)(K:KT α):∀ (n:Nat) (a:ae) (b c g h i j l m:Int) (o:ae) (p q:Int),qA α a b (fun d e=>fO (K .ret) d e) (fun d e=>AC (K (.exit 0)) a b d e g h i j l m o p q) n c=Kv (aJ (az Pg Ek4 aby wY) t8 K n) a b c g h i j l m o p q:=by
 intro n
 induction n with
 | zero=>intros;rfl
 | succ n ih=>intro a b c g h i j l m o p q;exact (congrArg (fun kn=>wm α a b c kn (fun d e=>fO (K .ret) d e) (fun d e=>AC (K (.exit 0)) a b d e g h i j l m o p q)) (funext fun c=>ih a b c g h i j l m o p q)).trans (atE α K (aJ (az Pg Ek4 aby wY) t8 K n) a b c g h i j l m o p q).symm
theorem arT:∀ (α:Type) (K:KT α),T1 zY α K=Iw.unc fun σ=>aJ (az Pg Ek4 aby wY) t8 K aF σ:=aZ (fun α K=>funext fun a=>funext fun b=>funext fun c=>funext fun d=>funext fun e=>funext fun g=>funext fun h=>funext fun i=>funext fun j=>funext fun l=>funext fun m=>funext fun o=>atH α K aF a b c d e g h i j l m o)
abbrev ag1:Type 1:=(α:Type)->Int->Int->Int->Int->Int->Int->ae->Int->Int->(Int->Int->Op α)->Op α
def adb (α:Type)(d e g h i j:Int)(a:ae)(l m:Int)(k1:Int->Int->Op α):Op α:=
 rg α d
 (fun o=>cK (!o)
 (k1 0 2)
 (EG α e g
 (fun b=>cK (b != 0)
 (k1 0 b)
 (nD α h 0 1
 (fun p=>cK (!p)
 (k1 0 11)
 (EM α i j
 (fun c=>cK (c != 0)
 (k1 0 c)
 (cK (decide (40 < ((List.length a:Nat):Int)))
 (k1 0 8)
 (zY α a ((List.length a:Nat):Int)
 (fun q r=>k1 q r)
 (fun w z=>rg α l
 (fun s=>cK (!s)
 (k1 0 2)
 (zk α m
 (fun t=>cK (!t)
 (k1 0 2)
 (k1 0 0))))) 0)))))))))
def Fd:ag1:=sld adb
def akn (v:ag1)(α:Type)(k:RT α):Int->Int->Int->Int->Int->Int->ae->Int->Int->Op α:=fun a b c d e g h i j=>v α a b c d e g h i j (fun l m=>fp k l m)
def azl:ag:=(ag.put (.m [⟨Iw,T1 zY⟩]) [1,1,1,1,1,1,0,1,0] (ag.put (.m [⟨AI,IS qZ⟩]) [1,1,1,1,1,1,0,1,0,0,1,1,0,0,1,0] (emb ah9)))
theorem ayJ:ak Pg 93 107 ⟨eV,akn Fd⟩:=iZ ek4 (ah Tryz.func93 (by kernel_rfl)) aby azl ((an _ _).trans ((an _ _).trans (aA _))) (aY (td:=t8) (by kernel_rfl) (aM (by kernel_rfl) (aD ah9) ⟨ape,trivial⟩) ⟨arT,trivial⟩) fun _ _=>by kernel_rfl
def adC:SG:=[(20,iS 9),(21,iS 9),(22,iS 9)]
def aLa:TG:=[tT 0 [0],tT 1 [0,7],tT 2 [2,3],tT 3 [0,11],tT 4 [2,3],tT 5 [15,16,17],tT 6 [15,16,17,18],tT 7 [4,5,15,16,17],tT 8 [4,6,15,16,17],tT 9 [4,6,15,16,17,25],tT 10 [2,3],tT 11 [15,16,17],tT 12 [2,3]]
def aKV:TG:=[(6,⟨[15,16,17],true,[⟨false,15,0,20015,9⟩],[]⟩)]
def ans:aq:=aw Pg Tryz.f92 aLa aKV
def tU:OT:=tdC (ag.sub [1,1,0,1,0] (emb ans))
def KF:PT St:=pS [sl 15 (aV false [(cD dL)]),sI 16,sI 17] []
def IM {β:Type}(g:St->β):ae->Int->Int->β:=KF.unc g
def arK:PT St:=pS [sl 15 (aV false [(cD dL)]),sI 16,sI 17,sl 18 (aV false [(cD dB)])] []
def AU {β:Type}(g:St->β):ae->Int->Int->Bool->β:=arK.unc g
def wV:ag:=ag.sub [1,1,0,1,0,0] (emb ans)
def wT (α:Type)(d:ae)(b a:Int)(kn:Int->Op α)(k1:Int->Int->Op α)(k2:Int->Bool->Op α):Op α:=
 cK (decide (a < b))
 (dG d a [.int .i64,.int .i64,.int .i64,.int .i64,.int .i64,.int .i64,.int .i64,.int .i64,.int .i64]
 (fun e g h i j l m o p=>Co α e g h i j l m o p
 (fun c=>cK (c != 0)
 (k1 a c)
 (kn (w64 (a+1))))))
 (k2 a (decide (a < b)))
def qb (α:Type)(a:ae)(b:Int)(k1:Int->Int->Op α)(k2:Int->Bool->Op α):Nat->Int->Op α
 | 0,_=>none
 | n+1,c=>wT α a b c (qb α a b k1 k2 n) k1 k2
def Oo (α:Type)(a:ae)(b:Int)(k1:Int->Int->Op α)(k2:Int->Bool->Op α)(c:Int):Op α:=qb α a b k1 k2 aF c
def AP:tk:=sld Oo
def W9 (v:tk)(α:Type)(K:KT α):ae->Int->Int->Op α:=fun c d e=>v α c d (fun a b=>fO (K .ret) a b) (fun a b=>AU (K (.exit 1)) c d a b) e
theorem apC (α:Type)(K:KT α)(Kn:SK α)(a:ae)(b c:Int):IM (fun σ=>az Pg Ek4 adC wV (bK (fun σ=>bq tU σ Kn) K) σ) a b c=wT α a b c (fun c=>IM Kn a b c) (fun d e=>fO (K .ret) d e) (fun d e=>AU (K (.exit 1)) a b d e):=by kernel_rfl
theorem aqJ (α:Type)(K:KT α):∀ (n:Nat) (a:ae) (b c:Int),qb α a b (fun d e=>fO (K .ret) d e) (fun d e=>AU (K (.exit 1)) a b d e) n c=IM (aJ (az Pg Ek4 adC wV) tU K n) a b c:=by
 intro n
 induction n with
 | zero=>intros;rfl
 | succ n ih=>intro a b c;exact (congrArg (fun kn=>wT α a b c kn (fun d e=>fO (K .ret) d e) (fun d e=>AU (K (.exit 1)) a b d e)) (funext fun c=>ih a b c)).trans (apC α K (aJ (az Pg Ek4 adC wV) tU K n) a b c).symm
theorem atS:∀ (α:Type) (K:KT α),W9 AP α K=KF.unc fun σ=>aJ (az Pg Ek4 adC wV) tU K aF σ:=aZ (fun α K=>funext fun a=>funext fun b=>funext fun c=>aqJ α K aF a b c)
def Pp (α:Type)(a:ae)(k1:Int->Int->Op α):Op α:=
 cK (((List.length a:Nat):Int) == 0)
 (k1 0 12)
 (cK (decide (8 < ((List.length a:Nat):Int)))
 (k1 0 8)
 (AP α a ((List.length a:Nat):Int)
 (fun b c=>k1 b c)
 (fun d e=>k1 0 0) 0))
def HI:H9:=sld Pp
def ae9 (v:H9)(α:Type)(k:RT α):ae->Op α:=fun a=>v α a (fun b c=>fp k b c)
def ayh:ag:=(ag.put (.m [⟨KF,W9 AP⟩]) [1,1,0,1,0] (emb ans))
theorem ayf:ak Pg 92 29 ⟨oU,ae9 HI⟩:=iZ ek4 (ah Tryz.func92 (by kernel_rfl)) adC ayh ((an _ _).trans (aA _)) (aY (td:=tU) (by kernel_rfl) (aD ans) ⟨atS,trivial⟩) fun _ _=>by kernel_rfl
end
end Go.AM.K
