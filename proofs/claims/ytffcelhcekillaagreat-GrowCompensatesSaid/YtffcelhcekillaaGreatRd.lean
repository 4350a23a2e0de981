/- Printed by KGen. -/
import Derived.Test.YtffcelhcekillaaGreatRc
namespace Go.AM.K
open Go.Proofs
set_option maxRecDepth 100000
set_option linter.unusedVariables false
noncomputable section
def aCb:SG:=[(3,iS 3),(6,iT),(9,iS 3),(12,iT)]
def aF9:TG:=[tT 0 [1,2],tT 1 [2]]
def aBl:aq:=aw Pg Tryz.f212 aF9 aC
noncomputable abbrev Lk4:List bC:=⟨252,15,[⟨cZ,YA nl⟩]⟩::⟨287,72,[⟨Wo,Vc mz⟩]⟩::⟨248,22,[⟨cZ,Za dJ⟩]⟩::⟨247,28,[⟨bt,Xt mC⟩]⟩::⟨268,18,[⟨bt,Zw D6⟩]⟩::⟨98,35,[⟨ahg,ajR Nv⟩]⟩::⟨97,56,[⟨kW,alf N6⟩]⟩::⟨255,40,[⟨aU,TN D8⟩]⟩::⟨256,32,[⟨aU,Q8 xD⟩]⟩::⟨285,24,[⟨fW,Xn Ds⟩]⟩::⟨234,135,[⟨QO,Rs xU⟩]⟩::⟨201,14,[⟨aU,Qp p7⟩]⟩::⟨235,12,[⟨kc,SL Ba⟩]⟩::⟨232,29,[⟨cZ,Vj gn⟩]⟩::⟨115,24,[⟨QW,SD ES⟩,⟨TR,XG Es⟩]⟩::⟨114,56,[⟨kW,TV Bi⟩]⟩::⟨38,19,[⟨fZ,alz ND⟩]⟩::⟨39,80,[⟨aig,ae0 Nb⟩]⟩::⟨196,6,[⟨ba,ZA oQ⟩]⟩::⟨230,19,[⟨RH,Y7 K4⟩]⟩::⟨33,126,[⟨eN,aja Gc⟩]⟩::⟨120,44,[⟨S1,XL mB⟩]⟩::Lk3
theorem ak4:bH Lk4 fun c=>bH c.l (ak Pg c.f c.nt):=⟨⟨atX,trivial⟩,⟨anq,trivial⟩,⟨atf,trivial⟩,⟨asd,trivial⟩,⟨arn,trivial⟩,⟨awy,trivial⟩,⟨azi,trivial⟩,⟨amm,trivial⟩,⟨anQ,trivial⟩,⟨aqq,trivial⟩,⟨am2,trivial⟩,⟨amT,trivial⟩,⟨aoc,trivial⟩,⟨asQ,trivial⟩,⟨an8,ams,trivial⟩,⟨ast,trivial⟩,⟨azR,trivial⟩,⟨ayj,trivial⟩,⟨amf,trivial⟩,⟨apl,trivial⟩,⟨ayQ,trivial⟩,⟨arS,trivial⟩,ak3⟩
def Ek4:aF:=aF.ofIO Lk4 bu io0
theorem ek4:Ek4.Ok Pg:=aF.ofIO_ok aN ak4
def Vu (α:Type)(b c a:Int)(k1:Int->Int->Op α):Op α:=
 mX α b c
 (fun d=>nl α b c
 (fun e=>k1 (if (w64 (d - a)) > 0 then (w64 (d - a)) else 0) (w64 (e+a))))
def Ii:fU:=sld Vu
def XD (v:fU)(α:Type)(k:RT α):Int->Int->Int->Op α:=fun a b c=>v α a b c (fun d e=>bv k d e)
theorem apL:ak Pg 212 15 ⟨cZ,XD Ii⟩:=iP ek4 aBl (ag Tryz.func212 (by kernel_rfl)) aCb fun _ _=>by kernel_rfl
def ae8:SG:=[(6,iT),(10,iT),(15,iT),(20,iT),(22,iT),(27,iT),(30,iT),(36,iT),(39,iT),(44,iS 2)]
def aDm:TG:=[tT 0 [1,2],tT 1 [1,2,17],tT 2 [2,3],tT 3 [1,2,23],tT 4 [2,3],tT 5 [1,2,4],tT 6 [1,2,4,28],tT 7 [1,2,4],tT 8 [1,2,4,37],tT 9 [2,4],tT 10 [2,3]]
def Vb:aq:=aw Pg Tryz.f284 aDm aC
def Cd:PT St:=pS [sP 1,sP 2] [au 1 [xI,xI],au 2 [xI,xI]]
def aDh {β:Type}(g:St->β):I4 β:=Cd.unc g
def acS:PT St:=pS [sP 1,sP 2,sl 17 (aV false [(cD dB)])] [au 1 [xI,xI],au 2 [xI,xI]]
def acD {β:Type}(g:St->β):Bool->I4 β:=acS.unc g
def EG:PT St:=pS [sP 1,sP 2,sP 4] [au 1 [xI,xI],au 2 [xI,xI],au 4 [xI,xI]]
def ad9 {β:Type}(g:St->β):I6 β:=EG.unc g
def agj:PT St:=pS [sP 1,sP 2,sP 4,sl 28 (aV false [(cD dB)])] [au 1 [xI,xI],au 2 [xI,xI],au 4 [xI,xI]]
def ag0 {β:Type}(g:St->β):Bool->I6 β:=agj.unc g
def abV:PT (List RV):=pRs [pR true [rD (dI .i64),rD (dI .i64)],wI]
def jk {β:Type}(g:List RV->β):Int->Int->Int->β:=abV.unc g
def abW:ah:=ah.sub [1,1,1,1,0] (emb Vb)
def G2 (α:Type)(a:Int)(k1:Int->Op α)(k2:Bool->Op α):Op α:=
 cK (decide (a<=16777216))
 (mz α a false
 (fun c=>dD α c 1024
 (fun b=>k1 (if b > 0 then b else 0))))
 (k2 (decide (a<=16777216)))
def uB:jd:=sld G2
def Mu (v:jd)(α:Type)(K:KT α):I6 (Op α):=fun c a d e h g=>v α a (fun b=>ad9 (K .normal) c a d e b g) (fun b=>ag0 (K .normal) b c a d e h g)
theorem alE:∀ (α:Type) (K:KT α),Mu uB α K=EG.unc fun σ=>az Pg Ek4 ae8 abW K σ:=aZ (fun α K=>by kernel_rfl)
def agV:ah:=ah.sub [1,0,0] (emb Vb)
def HO (α:Type)(a b:Int)(k1:Bool->Op α):Op α:=
 cK (decide (a < 0))
 (k1 true)
 (cK (decide (1099511627776 < a))
 (k1 true)
 (k1 (decide (1099511627776 < b))))
def oM:cY:=sld HO
def Li (v:cY)(α:Type)(K:KT α):I4 (Op α):=fun a b c d=>v α a b (fun e=>acD (K .normal) e a b c d)
theorem aiG:∀ (α:Type) (K:KT α),Li oM α K=Cd.unc fun σ=>az Pg Ek4 ae8 agV K σ:=aZ (fun α K=>by kernel_rfl)
abbrev AF:Type 1:=(α:Type)->Int->Int->(Int->Int->Int->Op α)->Op α
def W0 (α:Type)(a b:Int)(k1:Int->Int->Int->Op α):Op α:=
 oM α a b
 (fun g=>cK g
 (k1 0 0 2)
 (cK (decide (b < a))
 (k1 0 0 10)
 (uB α b
 (fun c=>cK (decide (a<=16777216))
 (mz α a true
 (fun h=>cn α h 1024
 (fun d=>k1 c (if d < 1048576 then d else 1048576) 0)))
 (k1 c 1 0))
 (fun j=>cK (decide (a<=16777216))
 (mz α a true
 (fun i=>cn α i 1024
 (fun e=>k1 0 (if e < 1048576 then e else 1048576) 0)))
 (k1 0 1 0)))))
def r8:AF:=sld W0
def Sj (v:AF)(α:Type)(k:RT α):Int->Int->Op α:=fun a b=>v α a b (fun c d e=>jk k c d e)
def amd:ah:=(ah.put (.m [⟨Cd,Li oM⟩]) [1,0] (ah.put (.m [⟨EG,Mu uB⟩]) [1,1,1,1] (emb Vb)))
theorem aoy:ak Pg 284 45 ⟨ba,Sj r8⟩:=iZ ek4 (ag Tryz.func284 (by kernel_rfl)) ae8 amd ((am _ _).trans ((am _ _).trans (aA _))) (aM (by kernel_rfl) (aM (by kernel_rfl) (aD Vb) ⟨alE,trivial⟩) ⟨aiG,trivial⟩) fun _ _=>by kernel_rfl
def avp:SG:=[(12,iT),(17,iT),(23,iT),(25,iT),(29,iT),(31,iT),(38,iT),(44,iT),(51,iT),(59,iT),(61,iT),(69,iS 3)]
def aE9:TG:=[tT 0 [1,2],tT 1 [1,2,20],tT 2 [2,3],tT 3 [1,2,26],tT 4 [2,3],tT 5 [1,2,4],tT 6 [1,2,4,5],tT 7 [1,2,4,5,6],tT 8 [1,2,4,6,8],tT 9 [1,2,4,10],tT 10 [2,10,67],tT 11 [2,10],tT 12 [2,3]]
def age:aq:=aw Pg Tryz.f283 aE9 aC
def BV:PT St:=pS [sP 1,sP 2,sI 4,sP 10] [au 1 [xI,xI],au 2 (xs 3),au 10 (xs 3)]
def aCC {β:Type}(g:St->β):I9 β:=BV.unc g
def act:PT St:=pS [sP 2,sP 10] [au 2 (xs 3),au 10 (xs 3)]
def adK {β:Type}(g:St->β):I6 β:=act.unc g
def aj2:PT St:=pS [sP 2,sP 10,sl 67 (aV false [(cD dB)])] [au 2 (xs 3),au 10 (xs 3)]
def aeK {β:Type}(g:St->β):Bool->I6 β:=aj2.unc g
def ae6:aF:=aF.ofIO (⟨286,105,[⟨aU,YZ B7⟩]⟩::Lk4) bu io0
theorem anh:ae6.Ok Pg:=aF.ofIO_ok aN ⟨⟨asa,trivial⟩,ak4⟩
def abO:ah:=ah.sub [1,1,1,1,1,1,1,1,0] (emb age)
abbrev Ga:Type 1:=(α:Type)->Int->Int->Int->(Op α)->(Bool->Op α)->Op α
def GR (α:Type)(b c d:Int)(k1:Op α)(k2:Bool->Op α):Op α:=
 cK (c == d)
 (kQ α b 1048576
 (fun a=>cK (a == 0)
 (k1)
 (k2 (a == 0))))
 (k2 false)
def jZ:Ga:=sld GR
def MI (v:Ga)(α:Type)(K:KT α):I9 (Op α):=fun g h i a b c d e j=>v α g h i (adK (K .normal) a b c d e 0) (fun l=>aeK (K .normal) l a b c d e j)
theorem agM:∀ (α:Type) (K:KT α),MI jZ α K=BV.unc fun σ=>az Pg ae6 avp abO K σ:=aZ (fun α K=>by kernel_rfl)
abbrev ke:Type 1:=(α:Type)->Int->Int->(I4 (Op α))->Op α
def UD (α:Type)(b a:Int)(k1:I4 (Op α)):Op α:=
 cF α b (-1099511627776) 1099511627776
 (fun g=>cK (!g)
 (k1 0 0 0 2)
 (cF α a (-1099511627776) 1099511627776
 (fun h=>cK (!h)
 (k1 0 0 0 2)
 (cK (decide (a < b))
 (k1 0 0 0 10)
 (dD α (w64 (b+a)) 2
 (fun c=>B7 α c
 (fun i j=>jn α i 64
 (fun d z=>jn α j 64
 (fun e A=>cn α (w64 (11*(w64 (a - c)))) 7
 (fun l=>jZ α c b a
 (dJ α d e 0
 (fun m o p q=>k1 m o p q))
 (fun B=>dJ α d e (w64 (2+l))
 (fun r s t w=>k1 r s t w))))))))))))
def xo:ke:=sld UD
def Uk (v:ke)(α:Type)(k:RT α):Int->Int->Op α:=fun a b=>v α a b (fun c d e g=>bG k c d e g)
def aoV:ah:=(ah.put (.m [⟨BV,MI jZ⟩]) [1,1,1,1,1,1,1,1] (emb age))
theorem auT:ak Pg 283 73 ⟨ba,Uk xo⟩:=iZ anh (ag Tryz.func283 (by kernel_rfl)) avp aoV ((am _ _).trans (aA _)) (aM (by kernel_rfl) (aD age) ⟨agM,trivial⟩) fun _ _=>by kernel_rfl
def aDi:SG:=[(11,iS 3),(14,iT),(18,iT),(20,iT),(23,iT),(25,iT),(30,iT),(32,iT),(35,iT),(37,iT),(46,iT),(48,iT),(51,iT),(53,iT),(63,iT),(64,iS 3),(67,iS 3),(70,iT),(73,iS 3),(76,iT),(78,iS 3)]
def aCm:TG:=[tT 0 [2,3,4],tT 1 [2,3,4,15],tT 2 [4,5],tT 3 [2,3,4,6],tT 4 [2,3,4,6,7,8],tT 5 [2,3,4,7,8,9,10],tT 6 [4,5]]
def aGZ:aq:=aw Pg Tryz.f241 aCm aC
abbrev f3:Type 1:=(α:Type)->Int->Int->Int->Int->Int->Int->(I4 (Op α))->Op α
def Qt (α:Type)(c d j a b e:Int)(k1:I4 (Op α)):Op α:=
 mX α a b
 (fun l=>cK (decide (l<=e))
 (k1 0 0 0 9)
 (mC α (w64 ((w64 (c*a))+(w64 (d*b)))) (w64 ((w64 (a*a))+(w64 (b*b))))
 (fun g m=>mC α (w64 ((w64 (d*a)) - (w64 (c*b)))) (w64 ((w64 (a*a))+(w64 (b*b))))
 (fun h o=>nl α a b
 (fun p=>nl α c d
 (fun q=>mX α a b
 (fun r=>mX α a b
 (fun s=>D6 α (w64 ((w64 (j*p))+(w64 (q*e)))) (w64 ((w64 (r - e))*s))
 (fun i=>cK m
 (mK α true
 (fun t=>dJ α g h (w64 (i+t))
 (fun w z A B=>k1 w z A B)))
 (mK α o
 (fun C=>dJ α g h (w64 (i+C))
 (fun D F G H=>k1 D F G H))))))))))))
def Dt:f3:=sld Qt
def Si (v:f3)(α:Type)(k:RT α):I6 (Op α):=fun a b c d e g=>v α a b c d e g (fun h i j l=>bG k h i j l)
theorem anI:ak Pg 241 92 ⟨ef,Si Dt⟩:=iP ek4 aGZ (ag Tryz.func241 (by kernel_rfl)) aDi fun _ _=>by kernel_rfl
def alP:SG:=[(11,iS 3),(15,iT),(19,iT),(23,iT),(26,iT),(31,iT),(36,iT),(40,iT),(46,iT),(57,iT),(63,iT),(74,iT),(80,iT),(91,iS 3)]
def aBD:TG:=[tT 0 [1,2],tT 1 [1,2,4],tT 2 [1,2,4,16],tT 3 [2,3],tT 4 [1,2,4,33],tT 5 [2,3],tT 6 [1,2,4,5],tT 7 [1,2,4,5],tT 8 [1,2,4,5,37],tT 9 [1,2,4,5,6],tT 10 [1,2,4,5,6,7],tT 11 [1,2,4,5,6],tT 12 [1,2,4,5,6],tT 13 [1,2,4,5,6,9],tT 14 [1,2,4,5,6],tT 15 [1,2,4,5,6,75],tT 16 [1,2,4,5,6],tT 17 [2,5],tT 18 [2,3]]
def Tg:aq:=aw Pg Tryz.f210 aBD aC
def Di:PT St:=pS [sP 1,sP 2,sI 4,sl 16 (aV false [(cD dB)])] [au 1 (xs 3),au 2 (xs 3)]
def aAT {β:Type}(g:St->β):Int->Bool->I6 β:=Di.unc g
def ajy:PT St:=pS [sP 1,sP 2,sI 4,sl 33 (aV false [(cD dB)])] [au 1 (xs 3),au 2 (xs 3)]
def akz {β:Type}(g:St->β):Int->Bool->I6 β:=ajy.unc g
def EH:PT St:=pS [sP 1,sP 2,sI 4,sP 5] [au 1 (xs 3),au 2 (xs 3),au 5 (xs 3)]
def aC1 {β:Type}(g:St->β):I10 β:=EH.unc g
def adW:PT St:=pS [sP 1,sP 2,sI 4,sP 5,sI 6] [au 1 (xs 3),au 2 (xs 3),au 5 (xs 3)]
def acV {β:Type}(g:St->β):I11 β:=adW.unc g
def alZ:PT St:=pS [sP 1,sP 2,sI 4,sP 5,sI 6,sl 75 (aV false [(cD dB)])] [au 1 (xs 3),au 2 (xs 3),au 5 (xs 3)]
def aeI {β:Type}(g:St->β):Int->Int->Bool->I9 β:=alZ.unc g
def aaV:ah:=ah.sub [1,1,1,1,1,1,0] (emb Tg)
abbrev Gb:Type 1:=(α:Type)->Int->Int->Int->(Int->Int->Int->Op α)->(Int->Bool->Int->Int->Op α)->Op α
def HB (α:Type)(e c b:Int)(k1:Int->Int->Int->Op α)(k2:Int->Bool->Int->Int->Op α):Op α:=
 cK (decide (0<=c))
 (dj α (w64 ((w64 (e+c))*524288))
 (fun d=>mC α b (w64 (2*d))
 (fun h j=>k1 d d h)))
 (dj α (w64 ((w64 (e - c))*524288))
 (fun a=>xk α b
 (fun i=>mC α i (w64 (2*a))
 (fun g l=>cK (decide (b < 0))
 (k1 a g (w64 (0 - a)))
 (k2 a (decide (b < 0)) g a)))))
def om:Gb:=sld HB
def LM (v:Gb)(α:Type)(K:KT α):I10 (Op α):=fun a b c h i j l o p q=>v α a b c (fun d e g=>acV (K .normal) a d b c h i j l e g 0) (fun d e g m=>aeI (K .normal) a d e b c h i j l g m 0)
theorem afZ:∀ (α:Type) (K:KT α),LM om α K=EH.unc fun σ=>az Pg Ek4 alP aaV K σ:=aZ (fun α K=>by kernel_rfl)
def ZZ:ah:=ah.sub [1,1,1,0,0] (emb Tg)
def GX (α:Type)(b c a:Int)(k1:Bool->Op α):Op α:=
 cK (decide (b < 0))
 (xk α c
 (fun d=>cK (decide (d<=a))
 (k1 (a != 0))
 (k1 false)))
 (k1 false)
def sW:cg:=sld GX
def N5 (v:cg)(α:Type)(K:KT α):Int->Bool->I6 (Op α):=fun d j a b c e g h=>v α a b c (fun i=>akz (K .normal) d i a b c e g h)
theorem aid:∀ (α:Type) (K:KT α),N5 sW α K=Di.unc fun σ=>az Pg Ek4 alP ZZ K σ:=aZ (fun α K=>by kernel_rfl)
def VI (α:Type)(c d a:Int)(k1:I4 (Op α)):Op α:=
 mX α c d
 (fun b=>cK (decide (b<=a))
 (k1 0 0 0 9)
 (sW α c d a
 (fun e=>cK e
 (k1 0 0 0 14)
 (om α b c d
 (fun g h i=>dj α (w64 (b*1048576))
 (fun j=>cn α (w64 (a*1048576)) j
 (fun l=>cn α 1048576 g
 (fun m=>dJ α h i (w64 ((w64 (l+3))+m))
 (fun o p q r=>k1 o p q r)))))
 (fun s H t w=>dj α (w64 (b*1048576))
 (fun z=>cn α (w64 (a*1048576)) z
 (fun A=>cn α 1048576 s
 (fun B=>dJ α t w (w64 ((w64 (A+3))+B))
 (fun C D F G=>k1 C D F G)))))))))
def xp:kx:=sld VI
def Tj (v:kx)(α:Type)(k:RT α):Int->Int->Int->Op α:=fun a b c=>v α a b c (fun d e g h=>bG k d e g h)
def att:ah:=(ah.put (.m [⟨Di,N5 sW⟩]) [1,1,1,0] (ah.put (.m [⟨EH,LM om⟩]) [1,1,1,1,1,1] (emb Tg)))
theorem aqv:ak Pg 210 95 ⟨cZ,Tj xp⟩:=iZ ek4 (ag Tryz.func210 (by kernel_rfl)) alP att ((am _ _).trans ((am _ _).trans (aA _))) (aM (by kernel_rfl) (aM (by kernel_rfl) (aD Tg) ⟨afZ,trivial⟩) ⟨aid,trivial⟩) fun _ _=>by kernel_rfl
def av6:SG:=[(7,iT),(9,iT),(12,iT),(14,iT),(17,iT),(19,iT)]
def aEt:TG:=[tT 0 [2,3,4],tT 1 [4,5]]
def aFe:aq:=aw Pg Tryz.f267 aEt aC
def W8 (α:Type)(a b c d e g:Int)(k1:I4 (Op α)):Op α:=
 dJ α (w64 (a - d)) (w64 (b - e)) (w64 (c+g))
 (fun h i j l=>k1 h i j l)
def El:f3:=sld W8
def Vz (v:f3)(α:Type)(k:RT α):I6 (Op α):=fun a b c d e g=>v α a b c d e g (fun h i j l=>bG k h i j l)
theorem asW:ak Pg 267 25 ⟨ef,Vz El⟩:=iP ek4 aFe (ag Tryz.func267 (by kernel_rfl)) av6 fun _ _=>by kernel_rfl
def aB8:SG:=[(12,iT),(14,iT),(17,iT),(19,iT),(27,iT),(29,iT),(32,iT),(34,iT),(42,iS 3),(45,iT),(47,iS 3),(50,iT),(54,iT),(56,iT)]
def aHF:TG:=[tT 0 [2,3,4],tT 1 [2,3,4,6,7],tT 2 [2,3,4,6,7,8,9],tT 3 [4,5]]
def aCQ:aq:=aw Pg Tryz.f266 aHF aC
def Wz (α:Type)(a b e c d g:Int)(k1:I4 (Op α)):Op α:=
 jn α (w64 ((w64 (a*c)) - (w64 (b*d)))) 1048576
 (fun h l=>jn α (w64 ((w64 (a*d))+(w64 (b*c)))) 1048576
 (fun i m=>nl α a b
 (fun o=>nl α c d
 (fun p=>cn α (w64 ((w64 ((w64 (o*g))+(w64 (p*e))))+(w64 (e*g)))) 1048576
 (fun j=>cK l
 (mK α true
 (fun q=>dJ α h i (w64 (j+q))
 (fun r s t w=>k1 r s t w)))
 (mK α m
 (fun z=>dJ α h i (w64 (j+z))
 (fun A B C D=>k1 A B C D))))))))
def Bu:f3:=sld Wz
def WI (v:f3)(α:Type)(k:RT α):I6 (Op α):=fun a b c d e g=>v α a b c d e g (fun h i j l=>bG k h i j l)
theorem amV:ak Pg 266 70 ⟨ef,WI Bu⟩:=iP ek4 aCQ (ag Tryz.func266 (by kernel_rfl)) aB8 fun _ _=>by kernel_rfl
def aCo:TG:=[tT 0 [2,3,4],tT 1 [4,5]]
def aAE:aq:=aw Pg Tryz.f265 aCo aC
def QA (α:Type)(a b c d e g:Int)(k1:I4 (Op α)):Op α:=
 dJ α (w64 (a+d)) (w64 (b+e)) (w64 (c+g))
 (fun h i j l=>k1 h i j l)
def BH:f3:=sld QA
def Xq (v:f3)(α:Type)(k:RT α):I6 (Op α):=fun a b c d e g=>v α a b c d e g (fun h i j l=>bG k h i j l)
theorem amu:ak Pg 265 25 ⟨ef,Xq BH⟩:=iP ek4 aAE (ag Tryz.func265 (by kernel_rfl)) av6 fun _ _=>by kernel_rfl
def aGa:TG:=[tT 0 [0,1,4],tT 1 [0,1,4,15],tT 2 [4,5],tT 3 [4,6,7],tT 4 [4,5]]
def aDH:aq:=aw Pg Tryz.f270 aGa aC
def Zc (α:Type)(a b:Int)(k1:I4 (Op α)):Op α:=
 cF α a (-1000000000) 1000000000
 (fun c=>cK (!c)
 (k1 0 0 0 2)
 (cF α b 1 1000000000
 (fun d=>cK (!d)
 (k1 0 0 0 2)
 (mC α a b
 (fun e g=>mK α g
 (fun h=>dJ α e 0 h
 (fun i j l m=>k1 i j l m)))))))
def yJ:ke:=sld Zc
def Tv (v:ke)(α:Type)(k:RT α):Int->Int->Op α:=fun a b=>v α a b (fun c d e g=>bG k c d e g)
theorem aub:ak Pg 270 30 ⟨bt,Tv yJ⟩:=iP ek4 aDH (ag Tryz.func270 (by kernel_rfl)) aO fun _ _=>by kernel_rfl
def aDY:SG:=[(6,iT),(11,iT),(17,iT),(19,iT),(23,iT),(25,iT),(30,iT)]
def aD7:TG:=[tT 0 [1,2],tT 1 [1,2,14],tT 2 [2,3],tT 3 [1,2,20],tT 4 [2,3],tT 5 [1,2,4],tT 6 [2,3]]
def aGV:aq:=aw Pg Tryz.f249 aD7 aC
def WB (α:Type)(b a:Int)(k1:I4 (Op α)):Op α:=
 oV α b
 (fun d=>cK (!d)
 (k1 0 0 0 2)
 (oV α a
 (fun e=>cK (!e)
 (k1 0 0 0 2)
 (cK (decide (a < b))
 (k1 0 0 0 10)
 (dD α (w64 (b+a)) 2
 (fun c=>dJ α c 0 (w64 (a - c))
 (fun g h i j=>k1 g h i j)))))))
def g7:ke:=sld WB
def Rx (v:ke)(α:Type)(k:RT α):Int->Int->Op α:=fun a b=>v α a b (fun c d e g=>bG k c d e g)
theorem atE:ak Pg 249 37 ⟨ba,Rx g7⟩:=iP ek4 aGV (ag Tryz.func249 (by kernel_rfl)) aDY fun _ _=>by kernel_rfl
def aiQ:SG:=[(19,iS 5),(20,iS 5),(28,iT),(33,iT)]
def aI6:TG:=[tT 0 [0,3],tT 1 [0,3,10],tT 2 [4,5],tT 3 [0,3,6],tT 4 [0,3,6,14],tT 6 [0,3,6,7],tT 7 [0,3,6,7,23],tT 8 [4,5],tT 5 [0,3,6],tT 9 [36],tT 10 [4,5],tT 11 [4,5]]
def aJM:TG:=[tT 4 [0,3,6]]
def aqc:aq:=aw Pg Tryz.f73 aI6 aJM
def wi:OT:=tdC (ah.sub [1,1,0,1,0] (emb aqc))
def Ld:PT St:=pS [sl 0 (aV false [(cD dL)]),sP 3,sI 6] [au 3 [xI,xI]]
def Kc {β:Type}(g:St->β):ae->Int->Int->Int->β:=Ld.unc g
def atb:PT St:=pS [sI 4,sI 5] []
def da {β:Type}(g:St->β):Int->Int->β:=atb.unc g
def apn:PT St:=pS [sl 0 (aV false [(cD dL)]),sP 3,sI 6,sl 14 (aV false [(cD dB)])] [au 3 [xI,xI]]
def Ah {β:Type}(g:St->β):ae->Int->Bool->Int->Int->β:=apn.unc g
def ww:ah:=ah.sub [1,1,0,1,0,0] (emb aqc)
def uq (α:Type)(b:ae)(a:Int)(kn:Int->Op α)(k1:Int->Int->Op α)(k2:Int->Bool->Op α):Op α:=
 cK (decide (a < ((List.length b:Nat):Int)))
 (dT b a [.int .i64,.int .i64,.int .i64,.int .i64,.int .i64]
 (fun d e g h i=>Nv α d e g h i
 (fun c=>cK (c != 0)
 (k1 (w64 (a+1)) c)
 (kn (w64 (a+1))))))
 (k2 a (decide (a < ((List.length b:Nat):Int))))
def qM (α:Type)(a:ae)(k1:Int->Int->Op α)(k2:Int->Bool->Op α):Nat->Int->Op α
 | 0,_=>none
 | n+1,b=>uq α a b (qM α a k1 k2 n) k1 k2
def MK (α:Type)(a:ae)(k1:Int->Int->Op α)(k2:Int->Bool->Op α)(b:Int):Op α:=qM α a k1 k2 aE b
abbrev vb:Type 1:=(α:Type)->ae->(Int->Int->Op α)->(Int->Bool->Op α)->Int->Op α
def zE:vb:=sld MK
def P4 (v:vb)(α:Type)(K:KT α):ae->Int->Int->Int->Op α:=fun c d e g=>v α c (fun a b=>da (K .ret) a b) (fun a b=>Ah (K (.exit 0)) c a b e g) d
theorem apv (α:Type)(K:KT α)(Kn:SK α)(a:ae)(b c d:Int):Kc (fun σ=>az Pg Ek4 aiQ ww (bI (fun σ=>br wi σ Kn) K) σ) a b c d=uq α a b (fun b=>Kc Kn a b c d) (fun e g=>da (K .ret) e g) (fun e g=>Ah (K (.exit 0)) a e g c d):=by kernel_rfl
theorem aoZ (α:Type)(K:KT α):∀ (n:Nat) (a:ae) (b e g:Int),qM α a (fun c d=>da (K .ret) c d) (fun c d=>Ah (K (.exit 0)) a c d e g) n b=Kc (aJ (az Pg Ek4 aiQ ww) wi K n) a b e g:=by
 intro n
 induction n with
 | zero=>intros;rfl
 | succ n ih=>intro a b e g;exact (congrArg (fun kn=>uq α a b kn (fun c d=>da (K .ret) c d) (fun c d=>Ah (K (.exit 0)) a c d e g)) (funext fun b=>ih a b e g)).trans (apv α K (aJ (az Pg Ek4 aiQ ww) wi K n) a b e g).symm
theorem ar1:∀ (α:Type) (K:KT α),P4 zE α K=Ld.unc fun σ=>aJ (az Pg Ek4 aiQ ww) wi K aE σ:=aZ (fun α K=>funext fun a=>funext fun b=>funext fun c=>funext fun d=>aoZ α K aE a b c d)
abbrev aea:Type 1:=(α:Type)->ae->Int->Int->(Int->Int->Op α)->Op α
def alW (α:Type)(a:ae)(b c:Int)(k1:Int->Int->Op α):Op α:=
 cK (decide (40 < ((List.length a:Nat):Int)))
 (k1 0 8)
 (zE α a
 (fun d e=>k1 d e)
 (fun i j=>OD α b
 (fun g=>cK (!g)
 (k1 0 2)
 (sj α c
 (fun h=>cK (!h)
 (k1 0 2)
 (k1 0 0))))) 0)
def Fz:aea:=sld alW
def aga:PT (List DV):=pA [pV false [dL],pV true [(dI .i64),(dI .i64)]]
def aiW (v:aea)(α:Type)(k:RT α):ae->Int->Int->Op α:=fun a b c=>v α a b c (fun d e=>fw k d e)
def ayO:ah:=(ah.put (.m [⟨Ld,P4 zE⟩]) [1,1,0,1,0] (emb aqc))
theorem ayY:ak Pg 73 37 ⟨aga,aiW Fz⟩:=iZ ek4 (ag Tryz.func73 (by kernel_rfl)) aiQ ayO ((am _ _).trans (aA _)) (aW (td:=wi) (by kernel_rfl) (aD aqc) ⟨ar1,trivial⟩) fun _ _=>by kernel_rfl
def ah5:SG:=[(20,iS 9),(21,iS 9)]
def aIC:TG:=[tT 0 [0],tT 1 [0,8],tT 2 [2,3],tT 3 [0,11],tT 4 [2,3],tT 5 [0,4],tT 6 [0,4,15],tT 8 [0,4,5],tT 9 [0,4,5,24],tT 10 [2,3],tT 7 [0,4],tT 11 [2,3]]
def aI5:TG:=[tT 6 [0,4]]
def ass:aq:=aw Pg Tryz.f72 aIC aI5
def tS:OT:=tdC (ah.sub [1,1,1,0,1,0] (emb ass))
def If:PT St:=pS [sl 0 (aV false [(cD dL)]),sI 4] []
def Ij {β:Type}(g:St->β):ae->Int->β:=If.unc g
def apW:PT St:=pS [sI 2,sI 3] []
def fV {β:Type}(g:St->β):Int->Int->β:=apW.unc g
def aro:PT St:=pS [sl 0 (aV false [(cD dL)]),sI 4,sl 15 (aV false [(cD dB)])] []
def zO {β:Type}(g:St->β):ae->Int->Bool->β:=aro.unc g
def sT:ah:=ah.sub [1,1,1,0,1,0,0] (emb ass)
def wL (α:Type)(b:ae)(a:Int)(kn:Int->Op α)(k1:Int->Int->Op α)(k2:Int->Bool->Op α):Op α:=
 cK (decide (a < ((List.length b:Nat):Int)))
 (dT b a [.int .i64,.int .i64,.int .i64,.int .i64,.int .i64,.int .i64,.int .i64,.int .i64,.int .i64]
 (fun d e g h i j l m o=>N6 α d e g h i j l m o
 (fun c=>cK (c != 0)
 (k1 a c)
 (kn (w64 (a+1))))))
 (k2 a (decide (a < ((List.length b:Nat):Int))))
def qA (α:Type)(a:ae)(k1:Int->Int->Op α)(k2:Int->Bool->Op α):Nat->Int->Op α
 | 0,_=>none
 | n+1,b=>wL α a b (qA α a k1 k2 n) k1 k2
def LZ (α:Type)(a:ae)(k1:Int->Int->Op α)(k2:Int->Bool->Op α)(b:Int):Op α:=qA α a k1 k2 aE b
def AB:vb:=sld LZ
def Zh (v:vb)(α:Type)(K:KT α):ae->Int->Op α:=fun c d=>v α c (fun a b=>fV (K .ret) a b) (fun a b=>zO (K (.exit 0)) c a b) d
theorem au3 (α:Type)(K:KT α)(Kn:SK α)(a:ae)(b:Int):Ij (fun σ=>az Pg Ek4 ah5 sT (bI (fun σ=>br tS σ Kn) K) σ) a b=wL α a b (fun b=>Ij Kn a b) (fun c d=>fV (K .ret) c d) (fun c d=>zO (K (.exit 0)) a c d):=by kernel_rfl
theorem auY (α:Type)(K:KT α):∀ (n:Nat) (a:ae) (b:Int),qA α a (fun c d=>fV (K .ret) c d) (fun c d=>zO (K (.exit 0)) a c d) n b=Ij (aJ (az Pg Ek4 ah5 sT) tS K n) a b:=by
 intro n
 induction n with
 | zero=>intros;rfl
 | succ n ih=>intro a b;exact (congrArg (fun kn=>wL α a b kn (fun c d=>fV (K .ret) c d) (fun c d=>zO (K (.exit 0)) a c d)) (funext fun b=>ih a b)).trans (au3 α K (aJ (az Pg Ek4 ah5 sT) tS K n) a b).symm
theorem anb:∀ (α:Type) (K:KT α),Zh AB α K=If.unc fun σ=>aJ (az Pg Ek4 ah5 sT) tS K aE σ:=aZ (fun α K=>funext fun a=>funext fun b=>auY α K aE a b)
abbrev Iq:Type 1:=(α:Type)->ae->(Int->Int->Op α)->Op α
def ajF (α:Type)(a:ae)(k1:Int->Int->Op α):Op α:=
 cK (((List.length a:Nat):Int) == 0)
 (k1 0 12)
 (cK (decide (8 < ((List.length a:Nat):Int)))
 (k1 0 8)
 (AB α a
 (fun b c=>k1 b c)
 (fun d e=>k1 0 0) 0))
def Mn:Iq:=sld ajF
def ahk (v:Iq)(α:Type)(k:RT α):ae->Op α:=fun a=>v α a (fun b c=>fw k b c)
def axZ:ah:=(ah.put (.m [⟨If,Zh AB⟩]) [1,1,1,0,1,0] (emb ass))
theorem azE:ak Pg 72 27 ⟨pE,ahk Mn⟩:=iZ ek4 (ag Tryz.func72 (by kernel_rfl)) ah5 axZ ((am _ _).trans (aA _)) (aW (td:=tS) (by kernel_rfl) (aD ass) ⟨anb,trivial⟩) fun _ _=>by kernel_rfl
def avN:SG:=[(6,iS 2),(14,iT),(17,iT),(23,iT),(26,iT),(31,iS 2)]
def aGD:TG:=[tT 0 [1,2],tT 1 [1,2,4],tT 2 [1,2,4,9],tT 3 [2,3],tT 4 [1,2,5],tT 5 [1,2,5,15],tT 6 [1,2,5],tT 7 [1,2,5,24],tT 8 [2,5],tT 9 [2,3]]
def ajz:aq:=aw Pg Tryz.f215 aGD aC
def BR:PT St:=pS [sP 1,sP 2,sP 5] [au 1 [xI,xI],au 2 [xI,xI],au 5 [xI,xI]]
def aky {β:Type}(g:St->β):I6 β:=BR.unc g
def ady:PT St:=pS [sP 1,sP 2,sP 5,sl 15 (aV false [(cD dB)])] [au 1 [xI,xI],au 2 [xI,xI],au 5 [xI,xI]]
def adc {β:Type}(g:St->β):Bool->I6 β:=ady.unc g
def abu:ah:=ah.sub [1,1,1,0] (emb ajz)
def HZ (α:Type)(a:Int)(k1:Int->Op α)(k2:Bool->Op α):Op α:=
 cK (decide (a<=16777216))
 (D8 α a
 (fun c=>gT α c 1024
 (fun b=>k1 (if b > 0 then b else 0))))
 (k2 (decide (a<=16777216)))
def w7:jd:=sld HZ
def NN (v:jd)(α:Type)(K:KT α):I6 (Op α):=fun c a d e h g=>v α a (fun b=>aky (K .normal) c a d e b g) (fun b=>adc (K .normal) b c a d e h g)
theorem agc:∀ (α:Type) (K:KT α),NN w7 α K=BR.unc fun σ=>az Pg Ek4 avN abu K σ:=aZ (fun α K=>by kernel_rfl)
def Va (α:Type)(a b:Int)(k1:Int->Int->Int->Op α):Op α:=
 xz α a b 0
 (fun c=>cK (c != 0)
 (k1 0 0 c)
 (w7 α b
 (fun d=>cK (decide (a<=16777216))
 (xD α a
 (fun h=>cG α h 1024
 (fun e=>k1 d (if e < 1048576 then e else 1048576) 0)))
 (k1 d 1 0))
 (fun j=>cK (decide (a<=16777216))
 (xD α a
 (fun i=>cG α i 1024
 (fun g=>k1 0 (if g < 1048576 then g else 1048576) 0)))
 (k1 0 1 0))))
def si:AF:=sld Va
def SX (v:AF)(α:Type)(k:RT α):Int->Int->Op α:=fun a b=>v α a b (fun c d e=>jk k c d e)
def auG:ah:=(ah.put (.m [⟨BR,NN w7⟩]) [1,1,1] (emb ajz))
theorem atc:ak Pg 215 32 ⟨ba,SX si⟩:=iZ ek4 (ag Tryz.func215 (by kernel_rfl)) avN auG ((am _ _).trans (aA _)) (aM (by kernel_rfl) (aD ajz) ⟨agc,trivial⟩) fun _ _=>by kernel_rfl
def M5:SG:=[(27,iS 2),(28,iS 2),(34,iS 2),(36,iS 2),(40,iS 2),(41,iS 2)]
def aAs:TG:=[tT 0 [0,2],tT 1 [0,2,3],tT 2 [0,2,4,5],tT 3 [0,2,4,5,6,7],tT 4 [0,2,4,5,6,7,22],tT 5 [0,2,4,5,6,7,8],tT 6 [0,2,4,5,6,7,8,9],tT 7 [0,2,4,5,6,7,8,9,32],tT 8 [0,2,4,5,6,7],tT 9 [0,2,4,5,6,7],tT 10 [2,4,5,39],tT 11 [2],tT 12 [2]]
def aFB:TG:=[tT 4 [0,2,4,5,6,7]]
def Yc:aq:=aw Pg Tryz.f282 aAs aFB
def o8:OT:=tdC (ah.sub [1,1,1,1,0,0] (emb Yc))
def C2:PT St:=pS [sI 0,sP 2,sP 4,sP 5,sI 6,sI 7] [au 2 [xI,xI],au 4 [xI,xI],au 5 [xI,xI]]
def DO {β:Type}(g:St->β):I9 β:=C2.unc g
def ajX:PT St:=pS [sI 0,sP 2,sP 4,sP 5,sI 6,sI 7,sl 22 (aV false [(cD dB)])] [au 2 [xI,xI],au 4 [xI,xI],au 5 [xI,xI]]
def tx {β:Type}(g:St->β):Int->Int->Int->Bool->I6 β:=ajX.unc g
def qF:ah:=ah.sub [1,1,1,1,0,0,0] (emb Yc)
def pJ (α:Type)(c b a d e g h:Int)(kn:I6 (Op α))(k1:Int->Int->Bool->I4 (Op α)):Op α:=
 cK (c != b)
 (cK (c != a)
 (Ds α d e g h
 (fun i j=>cK (decide ((w64 (Int.tdiv (w64 (b+a)) 2))<=c))
 (kn (w64 (Int.tdiv (w64 (b+a)) 2)) a i j g h)
 (kn b (w64 (Int.tdiv (w64 (b+a)) 2)) d e i j)))
 (k1 b a (c != a) d e g h))
 (k1 b a false d e g h)
def lZ (α:Type)(a:Int)(k1:Int->Int->Bool->I4 (Op α)):Nat->I6 (Op α)
 | 0,_,_,_,_,_,_=>none
 | n+1,b,c,d,e,g,h=>pJ α a b c d e g h (lZ α a k1 n) k1
def HC (α:Type)(a:Int)(k1:Int->Int->Bool->I4 (Op α))(b c d e g h:Int):Op α:=lZ α a k1 aE b c d e g h
abbrev GI:Type 1:=(α:Type)->Int->(Int->Int->Bool->I4 (Op α))->I6 (Op α)
def vt:GI:=sld HC
def ML (v:GI)(α:Type)(K:KT α):I9 (Op α):=fun a b c d e g h i j=>v α a (fun l m o p q r s=>tx (K (.exit 0)) a l m o d e p q r s) b c g h i j
theorem afs (α:Type)(K:KT α)(Kn:SK α)(a b c i j d e g h:Int):DO (fun σ=>az Pg Ek4 M5 qF (bI (fun σ=>br o8 σ Kn) K) σ) a b c i j d e g h=pJ α a b c d e g h (fun b c d e g h=>DO Kn a b c i j d e g h) (fun l m o p q r s=>tx (K (.exit 0)) a l m o i j p q r s):=by kernel_rfl
theorem aha (α:Type)(K:KT α):∀ (n:Nat) (a b c i j d e g h:Int),lZ α a (fun l m o p q r s=>tx (K (.exit 0)) a l m o i j p q r s) n b c d e g h=DO (aJ (az Pg Ek4 M5 qF) o8 K n) a b c i j d e g h:=by
 intro n
 induction n with
 | zero=>intros;rfl
 | succ n ih=>intro a b c i j d e g h;exact (congrArg (fun kn=>pJ α a b c d e g h kn (fun l m o p q r s=>tx (K (.exit 0)) a l m o i j p q r s)) (funext fun b=>funext fun c=>funext fun d=>funext fun e=>funext fun g=>funext fun h=>ih a b c i j d e g h)).trans (afs α K (aJ (az Pg Ek4 M5 qF) o8 K n) a b c i j d e g h).symm
theorem aiy:∀ (α:Type) (K:KT α),ML vt α K=C2.unc fun σ=>aJ (az Pg Ek4 M5 qF) o8 K aE σ:=aZ (fun α K=>funext fun a=>funext fun b=>funext fun c=>funext fun d=>funext fun e=>funext fun g=>funext fun h=>funext fun i=>funext fun j=>aha α K aE a b c d e g h i j)
def Y3 (α:Type)(a:Int)(k1:Int->Int->Op α):Op α:=
 eG α 2251799813685248
 (fun b=>vt α a
 (fun c i j d e g h=>cK (a == c)
 (k1 d e)
 (k1 g h)) 0 524288 67108864 0 b b)
def kT:dN:=sld Y3
def Zs (v:dN)(α:Type)(k:RT α):Int->Op α:=fun a=>v α a (fun b c=>bv k b c)
def ap0:ah:=(ah.put (.m [⟨C2,ML vt⟩]) [1,1,1,1,0,0] (emb Yc))
theorem aqn:ak Pg 282 42 ⟨aU,Zs kT⟩:=iZ ek4 (ag Tryz.func282 (by kernel_rfl)) M5 ap0 ((am _ _).trans (aA _)) (aW (td:=o8) (by kernel_rfl) (aD Yc) ⟨aiy,trivial⟩) fun _ _=>by kernel_rfl
def az7:TG:=[tT 0 [0,1,2],tT 1 [2,7,8],tT 2 [2,7,8,22],tT 3 [6],tT 4 [9,10],tT 5 [9,10,32],tT 6 [6],tT 7 [9,34],tT 8 [9],tT 9 [6]]
def aH7:aq:=aw Pg Tryz.f226 az7 aC
def Wa (α:Type)(d e b:Int)(k1:Int->Op α):Op α:=
 xA α (IntKind.wrap .u64 (d)) (IntKind.wrap .u64 (e))
 (fun c g=>cK (decide ((IntKind.wrap .u64 (b))<=c))
 (k1 2147483647)
 (xU α c g (IntKind.wrap .u64 (b))
 (fun a h=>cK (decide (2147483647<=a))
 (k1 2147483647)
 (cK (h != 0)
 (k1 (w64 ((IntKind.wrap .u64 (a+1)))))
 (k1 (w64 (a)))))))
def BL:qi:=sld Wa
def YS (v:qi)(α:Type)(k:RT α):Int->Int->Int->Op α:=fun a b c=>v α a b c (fun d=>aR k d)
theorem aoA:ak Pg 226 39 ⟨eY,YS BL⟩:=iP ek4 aH7 (ag Tryz.func226 (by kernel_rfl)) aO fun _ _=>by kernel_rfl
def aGe:TG:=[tT 0 [0,1,2],tT 1 [0,2,8,9],tT 2 [0,2,8,9,24],tT 3 [6,7],tT 4 [0,2,10,11],tT 5 [0,2,10,11,34],tT 6 [6,7],tT 7 [0,2,6,7,11],tT 8 [0,6,7,54],tT 9 [0,6,7],tT 10 [6,7,58],tT 11 [6,7],tT 12 [6,7]]
def ala:aq:=aw Pg Tryz.f200 aGe aC
def D0:PT St:=pS [sI 0,sI 2,sI 6,sl 7 (aV false [(cD dB)]),sl 11 (aV false [(cD (dI .u64))])] []
def aEu {β:Type}(g:St->β):Int->Int->Int->Bool->Int->β:=D0.unc g
def aku:PT St:=pS [sI 0,sI 6,sl 7 (aV false [(cD dB)]),sl 54 (aV false [(cD dB)])] []
def agi {β:Type}(g:St->β):Int->Int->Bool->Bool->β:=aku.unc g
def abf:ah:=ah.sub [1,1,1,1,1,1,0,0] (emb ala)
def Hr (α:Type)(c a b:Int)(k1:Bool->Op α):Op α:=
 cK (decide ((IntKind.wrap .u64 (a)) < (IntKind.wrap .u64 (2*b))))
 (k1 true)
 (cK (decide (0<=c))
 (k1 ((IntKind.wrap .u64 (2*b)) == (IntKind.wrap .u64 (a))))
 (k1 false))
def pX:cg:=sld Hr
def Mj (v:cg)(α:Type)(K:KT α):Int->Int->Int->Bool->Int->Op α:=fun a b c d e=>v α a b e (fun g=>agi (K .normal) a c d g)
theorem adY:∀ (α:Type) (K:KT α),Mj pX α K=D0.unc fun σ=>az Pg Ek4 aO abf K σ:=aZ (fun α K=>by kernel_rfl)
abbrev Uf:Type 1:=(α:Type)->Int->Int->Int->(Int->Bool->Op α)->Op α
def WM (α:Type)(c g d:Int)(k1:Int->Bool->Op α):Op α:=
 oR α c
 (fun h=>xA α (IntKind.wrap .u64 (h)) (IntKind.wrap .u64 (g))
 (fun e i=>cK (decide ((IntKind.wrap .u64 (d))<=e))
 (k1 2147483647 false)
 (xU α e i (IntKind.wrap .u64 (d))
 (fun a b=>cK (decide (2147483647 < a))
 (k1 2147483647 false)
 (pX α c d b
 (fun j=>cK j
 (cK (decide (c < 0))
 (k1 (w64 (0 - (w64 ((w64 (a))+1)))) (b != 0))
 (k1 (w64 ((w64 (a))+1)) (b != 0)))
 (cK (decide (c < 0))
 (k1 (w64 (0 - (w64 (a)))) (b != 0))
 (k1 (w64 (a)) (b != 0)))))))))
def mO:Uf:=sld WM
def YU (v:Uf)(α:Type)(k:RT α):Int->Int->Int->Op α:=fun a b c=>v α a b c (fun d e=>qv k d e)
def arF:ah:=(ah.put (.m [⟨D0,Mj pX⟩]) [1,1,1,1,1,1,0] (emb ala))
theorem auN:ak Pg 200 63 ⟨eY,YU mO⟩:=iZ ek4 (ag Tryz.func200 (by kernel_rfl)) aO arF ((am _ _).trans (aA _)) (aM (by kernel_rfl) (aD ala) ⟨adY,trivial⟩) fun _ _=>by kernel_rfl
def aBP:TG:=[tT 0 [1],tT 1 [2]]
def aCp:aq:=aw Pg Tryz.f204 aBP aC
def YY (α:Type)(a b:Int)(k1:Int->Op α):Op α:=
 jT α a b
 (fun c=>p7 α c
 (fun d=>k1 d))
def nb:bB:=sld YY
def To (v:bB)(α:Type)(k:RT α):Int->Int->Op α:=fun a b=>v α a b (fun c=>aR k c)
theorem ap2:ak Pg 204 6 ⟨ba,To nb⟩:=iP ek4 aCp (ag Tryz.func204 (by kernel_rfl)) av4 fun _ _=>by kernel_rfl
def pM:SG:=[(16,[.flt .f64,.flt .f64]),(25,[.flt .f64,.flt .f64])]
def aEh:TG:=[tT 0 [0,1,4],tT 1 [0,1,4,6],tT 2 [0,1,4,6,16,17],tT 3 [0,1,4,6,16,17,18],tT 4 [0,1,4,6,8,16,17],tT 5 [0,1,4,6,16,17,22],tT 6 [4,5],tT 7 [0,1,4,6,16,17],tT 8 [0,1,4,25,26],tT 9 [0,1,4,25,26,27],tT 10 [0,1,4,10,25,26],tT 11 [0,1,4,25,26,32],tT 12 [4,5],tT 13 [0,1,4,25,26],tT 14 [4,5]]
def aEY:TG:=[tT 3 [0,1,4,6,16,17],tT 9 [0,1,4,25,26]]
def y4:aq:=aw Pg Tryz.f202 aEh aEY
def ua:OT:=tdC (ah.sub [1,1,0,1,0] (emb y4))
def nY:OT:=tdC (ah.sub [1,1,1,0,1,0] (emb y4))
def wK:PT St:=pS [sl 0 (aV false [(cD (dX .f64))]),sl 1 (aV false [(cD (dF .f64))]),sP 4,sP 6,sl 16 (aV true [(cD (dF .f64)),(cD (dF .f64))]),sI 17,sl 18 (aV false [(cD dB)])] [au 4 [xI,xI],au 6 [(cD (dF .f64)),(cD (dF .f64))]]
def vT {β:Type}(g:St->β):Nat->Nat->Nat->Nat->Nat->Int->Bool->Int->Int->Nat->Nat->β:=wK.unc g
def agZ:PT St:=pS [sl 0 (aV false [(cD (dX .f64))]),sl 1 (aV false [(cD (dF .f64))]),sP 4,sP 6,sl 8 (aV false [(cD (dF .f64))]),sl 16 (aV true [(cD (dF .f64)),(cD (dF .f64))]),sI 17] [au 4 [xI,xI],au 6 [(cD (dF .f64)),(cD (dF .f64))]]
def aip {β:Type}(g:St->β):Nat->Nat->Nat->Nat->Nat->Nat->Int->Int->Int->Nat->Nat->β:=agZ.unc g
def Dj:PT St:=pS [sl 0 (aV false [(cD (dX .f64))]),sl 1 (aV false [(cD (dF .f64))]),sP 4,sP 6,sl 16 (aV true [(cD (dF .f64)),(cD (dF .f64))]),sI 17] [au 4 [xI,xI],au 6 [(cD (dF .f64)),(cD (dF .f64))]]
def Cr {β:Type}(g:St->β):Nat->Nat->Nat->Nat->Nat->Int->Int->Int->Nat->Nat->β:=Dj.unc g
def aib:PT St:=pS [sP 4,sI 5] [au 4 [xI,xI]]
def iA {β:Type}(g:St->β):Int->Int->Int->β:=aib.unc g
def vo:PT St:=pS [sl 0 (aV false [(cD (dX .f64))]),sl 1 (aV false [(cD (dF .f64))]),sP 4,sl 25 (aV true [(cD (dF .f64)),(cD (dF .f64))]),sI 26,sl 27 (aV false [(cD dB)])] [au 4 [xI,xI]]
def uI {β:Type}(g:St->β):Nat->Nat->Nat->Nat->Nat->Int->Bool->Int->Int->β:=vo.unc g
def aiw:PT St:=pS [sl 0 (aV false [(cD (dX .f64))]),sl 1 (aV false [(cD (dF .f64))]),sP 4,sl 10 (aV false [(cD (dF .f64))]),sl 25 (aV true [(cD (dF .f64)),(cD (dF .f64))]),sI 26] [au 4 [xI,xI]]
def afW {β:Type}(g:St->β):Nat->Nat->Nat->Nat->Nat->Nat->Int->Int->Int->β:=aiw.unc g
def BC:PT St:=pS [sl 0 (aV false [(cD (dX .f64))]),sl 1 (aV false [(cD (dF .f64))]),sP 4,sl 25 (aV true [(cD (dF .f64)),(cD (dF .f64))]),sI 26] [au 4 [xI,xI]]
def Df {β:Type}(g:St->β):Nat->Nat->Nat->Nat->Nat->Int->Int->Int->β:=BC.unc g
def aav:ah:=ah.sub [1,1,1,0,1,0,0,1,1,0,0,0] (emb y4)
abbrev yw:Type 1:=(α:Type)->Nat->Nat->Int->(Nat->Op α)->Op α
def yG (α:Type)(b c:Nat)(a:Int)(k1:Nat->Op α):Op α:=
 cK (a == 1)
 (k1 c)
 (cK (a == 0)
 (k1 b)
 (none))
def fE:yw:=sld yG
def EE (v:yw)(α:Type)(K:KT α):Nat->Nat->Nat->Nat->Nat->Int->Bool->Int->Int->Op α:=fun d e g a b c l h i=>v α a b c (fun j=>afW (K .normal) d e g j a b c h i)
theorem ama:∀ (α:Type) (K:KT α),EE fE α K=vo.unc fun σ=>az Pg Ek4 pM aav K σ:=aZ (fun α K=>by kernel_rfl)
def re:ah:=ah.sub [1,1,1,0,1,0,0] (ah.put (.m [⟨vo,EE fE⟩]) [1,1,1,0,1,0,0,1,1,0,0] (emb y4))
def wv (α:Type)(b c d:Nat)(a:Int)(kn:Int->Op α)(k1:Op α)(k2:Int->Bool->Op α):Op α:=
 cK (decide (a < 2))
 (fE α c d a
 (fun e=>yF α e
 (fun g=>cK ((FloatKind.format .f64).order g b == some Ordering.gt)
 (k1)
 (kn (w64 (a+1))))))
 (k2 a (decide (a < 2)))
def tL (α:Type)(a b c:Nat)(k1:Op α)(k2:Int->Bool->Op α):Nat->Int->Op α
 | 0,_=>none
 | n+1,d=>wv α a b c d (tL α a b c k1 k2 n) k1 k2
def Gg (α:Type)(a b c:Nat)(k1:Op α)(k2:Int->Bool->Op α)(d:Int):Op α:=tL α a b c k1 k2 aE d
abbrev G5:Type 1:=(α:Type)->Nat->Nat->Nat->(Op α)->(Int->Bool->Op α)->Int->Op α
def s8:G5:=sld Gg
def OH (v:G5)(α:Type)(K:KT α):Nat->Nat->Nat->Nat->Nat->Int->Int->Int->Op α:=fun d e a b c g h i=>v α a b c (iA (K .ret) 2 0 0) (fun j l=>uI (K (.exit 2)) d e a b c j l h i) g
theorem akg (α:Type)(K:KT α)(Kn:SK α)(e g a b c:Nat)(d h i:Int):Df (fun σ=>az Pg Ek4 pM re (bI (fun σ=>br nY σ Kn) K) σ) e g a b c d h i=wv α a b c d (fun d=>Df Kn e g a b c d h i) (iA (K .ret) 2 0 0) (fun j l=>uI (K (.exit 2)) e g a b c j l h i):=by kernel_rfl
theorem adw (α:Type)(K:KT α):∀ (n:Nat) (e g a b c:Nat) (d h i:Int),tL α a b c (iA (K .ret) 2 0 0) (fun j l=>uI (K (.exit 2)) e g a b c j l h i) n d=Df (aJ (az Pg Ek4 pM re) nY K n) e g a b c d h i:=by
 intro n
 induction n with
 | zero=>intros;rfl
 | succ n ih=>intro e g a b c d h i;exact (congrArg (fun kn=>wv α a b c d kn (iA (K .ret) 2 0 0) (fun j l=>uI (K (.exit 2)) e g a b c j l h i)) (funext fun d=>ih e g a b c d h i)).trans (akg α K (aJ (az Pg Ek4 pM re) nY K n) e g a b c d h i).symm
theorem aji:∀ (α:Type) (K:KT α),OH s8 α K=BC.unc fun σ=>aJ (az Pg Ek4 pM re) nY K aE σ:=aZ (fun α K=>funext fun a=>funext fun b=>funext fun c=>funext fun d=>funext fun e=>funext fun g=>funext fun h=>funext fun i=>adw α K aE a b c d e g h i)
def ZH:ah:=ah.sub [1,1,0,1,0,0,1,1,0,0,0] (emb y4)
def BJ (v:yw)(α:Type)(K:KT α):Nat->Nat->Nat->Nat->Nat->Int->Bool->Int->Int->Nat->Nat->Op α:=fun d e g a b c o h i j l=>v α a b c (fun m=>aip (K .normal) d e g m a b c h i j l)
theorem ajG:∀ (α:Type) (K:KT α),BJ fE α K=wK.unc fun σ=>az Pg Ek4 pM ZH K σ:=aZ (fun α K=>by kernel_rfl)
def v6:ah:=ah.sub [1,1,0,1,0,0] (ah.put (.m [⟨wK,BJ fE⟩]) [1,1,0,1,0,0,1,1,0,0] (emb y4))
def wM (α:Type)(b c:Nat)(a:Int)(kn:Int->Op α)(k1:Op α)(k2:Int->Bool->Op α):Op α:=
 cK (decide (a < 2))
 (fE α b c a
 (fun d=>Ba α d
 (fun e=>cK (!e)
 (k1)
 (kn (w64 (a+1))))))
 (k2 a (decide (a < 2)))
def vu (α:Type)(a b:Nat)(k1:Op α)(k2:Int->Bool->Op α):Nat->Int->Op α
 | 0,_=>none
 | n+1,c=>wM α a b c (vu α a b k1 k2 n) k1 k2
def Ho (α:Type)(a b:Nat)(k1:Op α)(k2:Int->Bool->Op α)(c:Int):Op α:=vu α a b k1 k2 aE c
abbrev GD:Type 1:=(α:Type)->Nat->Nat->(Op α)->(Int->Bool->Op α)->Int->Op α
def tH:GD:=sld Ho
def NK (v:GD)(α:Type)(K:KT α):Nat->Nat->Nat->Nat->Nat->Int->Int->Int->Nat->Nat->Op α:=fun c d e a b g h i j l=>v α a b (iA (K .ret) 27 0 0) (fun m o=>vT (K (.exit 0)) c d e a b m o h i j l) g
theorem akn (α:Type)(K:KT α)(Kn:SK α)(d e g a b:Nat)(c h i:Int)(j l:Nat):Cr (fun σ=>az Pg Ek4 pM v6 (bI (fun σ=>br ua σ Kn) K) σ) d e g a b c h i j l=wM α a b c (fun c=>Cr Kn d e g a b c h i j l) (iA (K .ret) 27 0 0) (fun m o=>vT (K (.exit 0)) d e g a b m o h i j l):=by kernel_rfl
theorem adS (α:Type)(K:KT α):∀ (n:Nat) (d e g a b:Nat) (c h i:Int) (j l:Nat),vu α a b (iA (K .ret) 27 0 0) (fun m o=>vT (K (.exit 0)) d e g a b m o h i j l) n c=Cr (aJ (az Pg Ek4 pM v6) ua K n) d e g a b c h i j l:=by
 intro n
 induction n with
 | zero=>intros;rfl
 | succ n ih=>intro d e g a b c h i j l;exact (congrArg (fun kn=>wM α a b c kn (iA (K .ret) 27 0 0) (fun m o=>vT (K (.exit 0)) d e g a b m o h i j l)) (funext fun c=>ih d e g a b c h i j l)).trans (akn α K (aJ (az Pg Ek4 pM v6) ua K n) d e g a b c h i j l).symm
theorem adh:∀ (α:Type) (K:KT α),NK tH α K=Dj.unc fun σ=>aJ (az Pg Ek4 pM v6) ua K aE σ:=aZ (fun α K=>funext fun a=>funext fun b=>funext fun c=>funext fun d=>funext fun e=>funext fun g=>funext fun h=>funext fun i=>funext fun j=>funext fun l=>adS α K aE a b c d e g h i j l)
abbrev Vh:Type 1:=(α:Type)->Nat->Nat->Nat->(Int->Int->Int->Op α)->Op α
def WL (α:Type)(a b c:Nat)(k1:Int->Int->Int->Op α):Op α:=
 tH α a b
 (k1 0 0 27)
 (fun g h=>s8 α c a b
 (k1 0 0 2)
 (fun i j=>Ku α a b
 (fun d e=>k1 d e 0)) 0) 0
def BT:Vh:=sld WL
def TD:PT (List DV):=pA [pV false [(dX .f64)],pV false [(dF .f64)]]
def QT (v:Vh)(α:Type)(k:RT α):Nat->Nat->Nat->Op α:=fun a b c=>v α a b c (fun d e g=>jk k d e g)
def apZ:ah:=(ah.put (.m [⟨Dj,NK tH⟩]) [1,1,0,1,0] (ah.put (.m [⟨wK,BJ fE⟩]) [1,1,0,1,0,0,1,1,0,0] (ah.put (.m [⟨BC,OH s8⟩]) [1,1,1,0,1,0] (ah.put (.m [⟨vo,EE fE⟩]) [1,1,1,0,1,0,0,1,1,0,0] (emb y4)))))
theorem amX:ak Pg 202 37 ⟨TD,QT BT⟩:=iZ ek4 (ag Tryz.func202 (by kernel_rfl)) pM apZ ((am _ _).trans ((am _ _).trans ((am _ _).trans ((am _ _).trans (aA _))))) (aW (td:=ua) (by kernel_rfl) (aM (by kernel_rfl) (aW (td:=nY) (by kernel_rfl) (aM (by kernel_rfl) (aD y4) ⟨ama,trivial⟩) ⟨aji,trivial⟩) ⟨ajG,trivial⟩) ⟨adh,trivial⟩) fun _ _=>by kernel_rfl
def aEF:TG:=[tT 0 [0,1,4],tT 1 [0,1,4,15],tT 2 [4,5],tT 3 [4,6,7],tT 4 [4,5]]
def aIi:aq:=aw Pg Tryz.f229 aEF aC
abbrev fX:Type 1:=(α:Type)->Int->Int->(Nat->Nat->Int->Int->Op α)->Op α
def TX (α:Type)(a b:Int)(k1:Nat->Nat->Int->Int->Op α):Op α:=
 jy α a 1000000000
 (fun c=>cK (!c)
 (k1 0 0 0 2)
 (kU α b 1 1000000000
 (fun d=>cK (!d)
 (k1 0 0 0 2)
 (nh α (w64 (a*1048576)) b
 (fun e g=>jV α g
 (fun h=>gn α e 0 h
 (fun i j l m=>k1 i j l m)))))))
def Ce:fX:=sld TX
def U5 (v:fX)(α:Type)(k:RT α):Int->Int->Op α:=fun a b=>v α a b (fun c d e g=>bE k c d e g)
theorem atP:ak Pg 229 32 ⟨bt,U5 Ce⟩:=iP ek4 aIi (ag Tryz.func229 (by kernel_rfl)) aO fun _ _=>by kernel_rfl
def awe:SG:=[(7,iT),(12,iT),(19,iT),(21,iT),(25,iT),(27,iT),(33,iT)]
def aFj:TG:=[tT 0 [1,2],tT 1 [1,2,5],tT 2 [2,3],tT 3 [1,2,17],tT 4 [2,3],tT 5 [1,2,4],tT 6 [2,3]]
def akq:aq:=aw Pg Tryz.f193 aFj aC
def BK:PT St:=pS [sP 1,sP 2] [au 1 [xI,xI],au 2 [(cD (dX .f64)),xI]]
def aHU {β:Type}(g:St->β):Int->Int->Nat->Nat->Int->β:=BK.unc g
def adI:PT St:=pS [sP 1,sP 2,sl 5 (aV false [(cD dB)])] [au 1 [xI,xI],au 2 [(cD (dX .f64)),xI]]
def aiA {β:Type}(g:St->β):Bool->Int->Int->Nat->Nat->Int->β:=adI.unc g
def adr:ah:=ah.sub [1,0,0,0] (emb akq)
def FN (α:Type)(a b:Int)(k1:Bool->Op α):Op α:=
 jy α a 67108864
 (fun c=>cK (!c)
 (k1 true)
 (jy α b 67108864
 (fun d=>k1 (!d))))
def tQ:cY:=sld FN
def LJ (v:cY)(α:Type)(K:KT α):Int->Int->Nat->Nat->Int->Op α:=fun a b c d e=>v α a b (fun g=>aiA (K .normal) g a b c d e)
theorem afi:∀ (α:Type) (K:KT α),LJ tQ α K=BK.unc fun σ=>az Pg Ek4 awe adr K σ:=aZ (fun α K=>by kernel_rfl)
def Zk (α:Type)(b a:Int)(k1:Nat->Nat->Int->Int->Op α):Op α:=
 tQ α b a
 (fun d=>cK d
 (k1 0 0 0 2)
 (cK (decide (a < b))
 (k1 0 0 0 10)
 (gT α (w64 (b+a)) 2
 (fun c=>gn α c 0 (w64 (a - c))
 (fun e g h i=>k1 e g h i)))))
def mu:fX:=sld Zk
def Um (v:fX)(α:Type)(k:RT α):Int->Int->Op α:=fun a b=>v α a b (fun c d e g=>bE k c d e g)
def aqt:ah:=(ah.put (.m [⟨BK,LJ tQ⟩]) [1,0,0] (emb akq))
theorem am9:ak Pg 193 40 ⟨ba,Um mu⟩:=iZ ek4 (ag Tryz.func193 (by kernel_rfl)) awe aqt ((am _ _).trans (aA _)) (aM (by kernel_rfl) (aD akq) ⟨afi,trivial⟩) fun _ _=>by kernel_rfl
def abr:SG:=[(9,iT),(13,iS 2),(19,iT),(23,iS 2),(29,[.sl]),(33,[.sl]),(38,iS 5),(39,iS 5),(43,iT),(49,iT),(56,iT),(63,iT),(69,iT),(78,iT),(81,iT),(86,iT),(89,iT),(97,iT),(103,iT)]
def aLq:TG:=[tT 0 [1],tT 1 [1,11],tT 2 [2,3],tT 3 [1,4],tT 4 [1,4,16],tT 5 [2,3],tT 6 [1,21],tT 7 [2,3],tT 8 [1,5],tT 9 [1,5,26],tT 10 [2,3],tT 11 [1,31],tT 12 [2,3],tT 13 [1,33,34,35],tT 14 [1,33,34,35,36],tT 15 [1,6,7,33,34,35],tT 16 [1,6,7,33,34,35,40],tT 17 [2,3],tT 18 [1,6,33,34,35,75],tT 19 [2,3],tT 20 [1,33,34,35],tT 21 [106],tT 22 [2,3],tT 23 [2,3]]
def aJ7:TG:=[(14,⟨[1,33,34,35],true,[⟨false,33,0,20033,5⟩,⟨true,1,6,30106,5⟩],[]⟩)]
def alY:aq:=aw Pg Tryz.f93 aLq aJ7
def tj:OT:=tdC (ah.sub [1,1,1,1,1,1,0,1,0] (emb alY))
def z4:PT St:=pS [sP 1,sI 6,sP 7,sl 33 (aV false [(cD dL)]),sI 34,sI 35] [au 1 [xI,xI,xI,xI,xI,xI,(cD dL),xI,xI],au 7 (xs 5)]
def aIy {β:Type}(g:St->β):Int->ae->Int->Int->Int->Int->Int->Int->Int->Int->ae->I7 β:=z4.unc g
def aoQ:PT St:=pS [sP 1,sI 6,sP 7,sl 33 (aV false [(cD dL)]),sI 34,sI 35,sl 40 (aV false [(cD dB)])] [au 1 [xI,xI,xI,xI,xI,xI,(cD dL),xI,xI],au 7 (xs 5)]
def apN {β:Type}(g:St->β):Int->ae->Int->Int->Bool->Int->Int->Int->Int->Int->Int->ae->I7 β:=aoQ.unc g
def Ko:PT St:=pS [sP 1,sl 33 (aV false [(cD dL)]),sI 34,sI 35] [au 1 [xI,xI,xI,xI,xI,xI,(cD dL),xI,xI]]
def La {β:Type}(g:St->β):ae->Int->Int->Int->Int->Int->Int->Int->Int->ae->Int->Int->β:=Ko.unc g
def aq9:PT St:=pS [sP 1,sl 33 (aV false [(cD dL)]),sI 34,sI 35,sl 36 (aV false [(cD dB)])] [au 1 [xI,xI,xI,xI,xI,xI,(cD dL),xI,xI]]
def Aa {β:Type}(g:St->β):ae->Int->Int->Bool->Int->Int->Int->Int->Int->Int->ae->Int->Int->β:=aq9.unc g
def aiq:ah:=ah.sub [1,1,1,1,1,1,0,1,0,0,1,1,0,0,1,0,0] (emb alY)
abbrev MT:Type 1:=(α:Type)->Int->Int->Int->Int->Int->(Bool->Op α)->Op α
def NX (α:Type)(a b c d e:Int)(k1:Bool->Op α):Op α:=
 ro α a
 (fun g=>cK (!g)
 (k1 true)
 (ro α b
 (fun h=>cK (!h)
 (k1 true)
 (CM α c
 (fun i=>cK (!i)
 (k1 true)
 (CM α d
 (fun j=>cK (!j)
 (k1 true)
 (y8 α e
 (fun l=>k1 (!l))))))))))
def qw:MT:=sld NX
def Jy (v:MT)(α:Type)(K:KT α):Int->ae->Int->Int->Int->Int->Int->Int->Int->Int->ae->I7 (Op α):=fun g h i j l m o p q r s t w a b c d e=>v α a b c d e (fun z=>apN (K .normal) g h i j z l m o p q r s t w a b c d e)
theorem aqH:∀ (α:Type) (K:KT α),Jy qw α K=z4.unc fun σ=>az Pg Ek4 abr aiq K σ:=aZ (fun α K=>by kernel_rfl)
def vH:ah:=ah.sub [1,1,1,1,1,1,0,1,0,0] (ah.put (.m [⟨z4,Jy qw⟩]) [1,1,1,1,1,1,0,1,0,0,1,1,0,0,1,0] (emb alY))
def uE (α:Type)(h:ae)(b a:Int)(kn:Int->Op α)(k1:Int->Int->Op α)(k2:Int->Bool->Op α):Op α:=
 cK (decide (a < b))
 (dT h a [.int .i64,.int .i64,.int .i64,.int .i64,.int .i64]
 (fun c d e g i=>qw α c d e g i
 (fun j=>cK j
 (k1 (w64 (a+1)) 2)
 (cK (decide (d < c))
 (k1 (w64 (a+1)) 10)
 (cK (decide (g < e))
 (k1 (w64 (a+1)) 10)
 (kn (w64 (a+1))))))))
 (k2 a (decide (a < b)))
def p9 (α:Type)(a:ae)(b:Int)(k1:Int->Int->Op α)(k2:Int->Bool->Op α):Nat->Int->Op α
 | 0,_=>none
 | n+1,c=>uE α a b c (p9 α a b k1 k2 n) k1 k2
def Ov (α:Type)(a:ae)(b:Int)(k1:Int->Int->Op α)(k2:Int->Bool->Op α)(c:Int):Op α:=p9 α a b k1 k2 aE c
abbrev wQ:Type 1:=(α:Type)->ae->Int->(Int->Int->Op α)->(Int->Bool->Op α)->Int->Op α
def zN:wQ:=sld Ov
def Yp (v:wQ)(α:Type)(K:KT α):ae->Int->Int->Int->Int->Int->Int->Int->Int->ae->Int->Int->Op α:=fun c d e g h i j l m o p q=>v α c d (fun a b=>fV (K .ret) a b) (fun a b=>Aa (K (.exit 0)) c d a b g h i j l m o p q) e
theorem ap7 (α:Type)(K:KT α)(Kn:SK α)(a:ae)(b c d e g h i j:Int)(l:ae)(m o:Int):La (fun σ=>az Pg Ek4 abr vH (bI (fun σ=>br tj σ Kn) K) σ) a b c d e g h i j l m o=uE α a b c (fun c=>La Kn a b c d e g h i j l m o) (fun p q=>fV (K .ret) p q) (fun p q=>Aa (K (.exit 0)) a b p q d e g h i j l m o):=by kernel_rfl
theorem auR (α:Type)(K:KT α):∀ (n:Nat) (a:ae) (b c g h i j l m:Int) (o:ae) (p q:Int),p9 α a b (fun d e=>fV (K .ret) d e) (fun d e=>Aa (K (.exit 0)) a b d e g h i j l m o p q) n c=La (aJ (az Pg Ek4 abr vH) tj K n) a b c g h i j l m o p q:=by
 intro n
 induction n with
 | zero=>intros;rfl
 | succ n ih=>intro a b c g h i j l m o p q;exact (congrArg (fun kn=>uE α a b c kn (fun d e=>fV (K .ret) d e) (fun d e=>Aa (K (.exit 0)) a b d e g h i j l m o p q)) (funext fun c=>ih a b c g h i j l m o p q)).trans (ap7 α K (aJ (az Pg Ek4 abr vH) tj K n) a b c g h i j l m o p q).symm
theorem aqm:∀ (α:Type) (K:KT α),Yp zN α K=Ko.unc fun σ=>aJ (az Pg Ek4 abr vH) tj K aE σ:=aZ (fun α K=>funext fun a=>funext fun b=>funext fun c=>funext fun d=>funext fun e=>funext fun g=>funext fun h=>funext fun i=>funext fun j=>funext fun l=>funext fun m=>funext fun o=>auR α K aE a b c d e g h i j l m o)
abbrev aev:Type 1:=(α:Type)->Int->Int->Int->Int->Int->Int->ae->Int->Int->(Int->Int->Op α)->Op α
def agn (α:Type)(d e g h i j:Int)(a:ae)(l m:Int)(k1:Int->Int->Op α):Op α:=
 ro α d
 (fun o=>cK (!o)
 (k1 0 2)
 (ES α e g
 (fun b=>cK (b != 0)
 (k1 0 b)
 (ov α h 0 1
 (fun p=>cK (!p)
 (k1 0 11)
 (Es α i j
 (fun c=>cK (c != 0)
 (k1 0 c)
 (cK (decide (40 < ((List.length a:Nat):Int)))
 (k1 0 8)
 (zN α a ((List.length a:Nat):Int)
 (fun q r=>k1 q r)
 (fun w z=>ro α l
 (fun s=>cK (!s)
 (k1 0 2)
 (y8 α m
 (fun t=>cK (!t)
 (k1 0 2)
 (k1 0 0))))) 0)))))))))
def Fu:aev:=sld agn
def akP (v:aev)(α:Type)(k:RT α):Int->Int->Int->Int->Int->Int->ae->Int->Int->Op α:=fun a b c d e g h i j=>v α a b c d e g h i j (fun l m=>fw k l m)
def ayT:ah:=(ah.put (.m [⟨Ko,Yp zN⟩]) [1,1,1,1,1,1,0,1,0] (ah.put (.m [⟨z4,Jy qw⟩]) [1,1,1,1,1,1,0,1,0,0,1,1,0,0,1,0] (emb alY)))
theorem azt:ak Pg 93 107 ⟨eV,akP Fu⟩:=iZ ek4 (ag Tryz.func93 (by kernel_rfl)) abr ayT ((am _ _).trans ((am _ _).trans (aA _))) (aW (td:=tj) (by kernel_rfl) (aM (by kernel_rfl) (aD alY) ⟨aqH,trivial⟩) ⟨aqm,trivial⟩) fun _ _=>by kernel_rfl
def ace:SG:=[(20,iS 9),(21,iS 9),(22,iS 9)]
def aKv:TG:=[tT 0 [0],tT 1 [0,7],tT 2 [2,3],tT 3 [0,11],tT 4 [2,3],tT 5 [15,16,17],tT 6 [15,16,17,18],tT 7 [4,5,15,16,17],tT 8 [4,6,15,16,17],tT 9 [4,6,15,16,17,25],tT 10 [2,3],tT 11 [15,16,17],tT 12 [2,3]]
def aJo:TG:=[(6,⟨[15,16,17],true,[⟨false,15,0,20015,9⟩],[]⟩)]
def atF:aq:=aw Pg Tryz.f92 aKv aJo
def uO:OT:=tdC (ah.sub [1,1,0,1,0] (emb atF))
def Jz:PT St:=pS [sl 15 (aV false [(cD dL)]),sI 16,sI 17] []
def JP {β:Type}(g:St->β):ae->Int->Int->β:=Jz.unc g
def aqE:PT St:=pS [sl 15 (aV false [(cD dL)]),sI 16,sI 17,sl 18 (aV false [(cD dB)])] []
def Ab {β:Type}(g:St->β):ae->Int->Int->Bool->β:=aqE.unc g
def wt:ah:=ah.sub [1,1,0,1,0,0] (emb atF)
def tz (α:Type)(d:ae)(b a:Int)(kn:Int->Op α)(k1:Int->Int->Op α)(k2:Int->Bool->Op α):Op α:=
 cK (decide (a < b))
 (dT d a [.int .i64,.int .i64,.int .i64,.int .i64,.int .i64,.int .i64,.int .i64,.int .i64,.int .i64]
 (fun e g h i j l m o p=>Bi α e g h i j l m o p
 (fun c=>cK (c != 0)
 (k1 a c)
 (kn (w64 (a+1))))))
 (k2 a (decide (a < b)))
def qb (α:Type)(a:ae)(b:Int)(k1:Int->Int->Op α)(k2:Int->Bool->Op α):Nat->Int->Op α
 | 0,_=>none
 | n+1,c=>tz α a b c (qb α a b k1 k2 n) k1 k2
def Lx (α:Type)(a:ae)(b:Int)(k1:Int->Int->Op α)(k2:Int->Bool->Op α)(c:Int):Op α:=qb α a b k1 k2 aE c
def A6:wQ:=sld Lx
def P3 (v:wQ)(α:Type)(K:KT α):ae->Int->Int->Op α:=fun c d e=>v α c d (fun a b=>fV (K .ret) a b) (fun a b=>Ab (K (.exit 1)) c d a b) e
theorem at6 (α:Type)(K:KT α)(Kn:SK α)(a:ae)(b c:Int):JP (fun σ=>az Pg Ek4 ace wt (bI (fun σ=>br uO σ Kn) K) σ) a b c=tz α a b c (fun c=>JP Kn a b c) (fun d e=>fV (K .ret) d e) (fun d e=>Ab (K (.exit 1)) a b d e):=by kernel_rfl
theorem arC (α:Type)(K:KT α):∀ (n:Nat) (a:ae) (b c:Int),qb α a b (fun d e=>fV (K .ret) d e) (fun d e=>Ab (K (.exit 1)) a b d e) n c=JP (aJ (az Pg Ek4 ace wt) uO K n) a b c:=by
 intro n
 induction n with
 | zero=>intros;rfl
 | succ n ih=>intro a b c;exact (congrArg (fun kn=>tz α a b c kn (fun d e=>fV (K .ret) d e) (fun d e=>Ab (K (.exit 1)) a b d e)) (funext fun c=>ih a b c)).trans (at6 α K (aJ (az Pg Ek4 ace wt) uO K n) a b c).symm
theorem aqR:∀ (α:Type) (K:KT α),P3 A6 α K=Jz.unc fun σ=>aJ (az Pg Ek4 ace wt) uO K aE σ:=aZ (fun α K=>funext fun a=>funext fun b=>funext fun c=>arC α K aE a b c)
def PA (α:Type)(a:ae)(k1:Int->Int->Op α):Op α:=
 cK (((List.length a:Nat):Int) == 0)
 (k1 0 12)
 (cK (decide (8 < ((List.length a:Nat):Int)))
 (k1 0 8)
 (A6 α a ((List.length a:Nat):Int)
 (fun b c=>k1 b c)
 (fun d e=>k1 0 0) 0))
def H2:Iq:=sld PA
def aey (v:Iq)(α:Type)(k:RT α):ae->Op α:=fun a=>v α a (fun b c=>fw k b c)
def axa:ah:=(ah.put (.m [⟨Jz,P3 A6⟩]) [1,1,0,1,0] (emb atF))
theorem ayu:ak Pg 92 29 ⟨pE,aey H2⟩:=iZ ek4 (ag Tryz.func92 (by kernel_rfl)) ace axa ((am _ _).trans (aA _)) (aW (td:=uO) (by kernel_rfl) (aD atF) ⟨aqR,trivial⟩) fun _ _=>by kernel_rfl
def xJ:SG:=[(16,[.sl]),(20,[.sl]),(24,iS 3),(25,iS 3),(27,iT),(32,iT),(38,iT),(44,[.sl]),(47,[.sl]),(51,[.sl]),(55,iS 2),(56,iS 2),(57,iS 2),(64,iT),(68,[.sl]),(73,iS 2),(74,iS 2),(76,[.sl]),(78,iS 3),(79,iS 3),(82,iT),(84,iT),(86,iS 2),(88,iT),(95,[.sl]),(97,[.sl]),(101,iT)]
def aKs:TG:=[tT 0 [1],tT 1 [1,18],(2,⟨[2,3],true,[⟨false,2,0,20002,5⟩],[]⟩),tT 3 [1,20,21,22],tT 4 [1,20,21,22,23],tT 5 [1,5,20,21,22],tT 6 [1,20,21,22,41],(7,⟨[2,3],true,[⟨false,2,0,20002,5⟩],[]⟩),tT 8 [1,20,21,22],tT 9 [1,49],(10,⟨[2,3],true,[⟨false,2,0,20002,5⟩],[]⟩),tT 11 [1,51,52,53],tT 12 [1,51,52,53,54],tT 13 [1,7,51,52,53],tT 14 [1,8,51,52,53],tT 15 [1,8,51,52,53,60],(16,⟨[2,3],true,[⟨false,2,0,20002,5⟩],[]⟩),tT 17 [1,51,52,53],tT 18 [1,66],(19,⟨[2,3],true,[⟨false,2,0,20002,5⟩],[]⟩),tT 20 [1,9],tT 21 [1,9,68,69,70],tT 22 [1,9,68,69,70,71],tT 23 [1,9,10,11,68,69,70],tT 24 [1,9,11,12,68,69,70],tT 25 [1,9,68,69,70],tT 26 [1,9,68,69,70],tT 27 [9,13,14],tT 28 [9,13,14,106],(29,⟨[2,3],true,[⟨false,2,0,20002,5⟩],[]⟩),(30,⟨[2,3],true,[⟨false,2,0,20002,5⟩],[]⟩)]
def aLf:TG:=[(4,⟨[1,20,21,22],true,[⟨false,20,0,20020,3⟩,⟨true,1,0,30100,3⟩,⟨true,1,1,30101,2⟩,⟨true,1,3,30103,9⟩],[]⟩),(12,⟨[1,51,52,53],true,[⟨false,51,0,20051,2⟩,⟨true,1,0,30100,3⟩,⟨true,1,1,30101,2⟩,⟨true,1,3,30103,9⟩],[]⟩),(22,⟨[1,9,68,69,70],true,[⟨false,9,0,20009,5⟩,⟨false,68,0,20068,2⟩,⟨true,1,0,30100,3⟩,⟨true,1,1,30101,2⟩,⟨true,1,3,30103,9⟩],[]⟩)]
def LG:aq:=aw Pg Tryz.f14 aKs aLf
def vG:OT:=tdC (ah.sub [1,1,0,1,0] (emb LG))
def uX:OT:=tdC (ah.sub [1,1,1,1,0,1,0] (emb LG))
def sZ:OT:=tdC (ah.sub [1,1,1,1,1,1,1,0,1,0] (emb LG))
def H7:PT St:=pS [sP 1,sl 20 (aV false [(cD dL)]),sI 21,sI 22] [au 1 [(cD dL),(cD dL),xI,(cD dL),xI,xI]]
def IB {β:Type}(g:St->β):ae->Int->Int->ae->ae->Int->ae->Int->Int->β:=H7.unc g
def aot:PT St:=pS [sP 1,sl 20 (aV false [(cD dL)]),sI 21,sI 22,sl 23 (aV false [(cD dB)])] [au 1 [(cD dL),(cD dL),xI,(cD dL),xI,xI]]
def AW {β:Type}(g:St->β):ae->Int->Int->Bool->ae->ae->Int->ae->Int->Int->β:=aot.unc g
def IL:PT St:=pS [sP 1,sl 51 (aV false [(cD dL)]),sI 52,sI 53] [au 1 [(cD dL),(cD dL),xI,(cD dL),xI,xI]]
def Jt {β:Type}(g:St->β):ae->Int->Int->ae->ae->Int->ae->Int->Int->β:=IL.unc g
def asy:PT St:=pS [sP 1,sl 51 (aV false [(cD dL)]),sI 52,sI 53,sl 54 (aV false [(cD dB)])] [au 1 [(cD dL),(cD dL),xI,(cD dL),xI,xI]]
def AE {β:Type}(g:St->β):ae->Int->Int->Bool->ae->ae->Int->ae->Int->Int->β:=asy.unc g
def K3:PT St:=pS [sP 1,sl 9 (aV false [(dG 20009)]),sl 68 (aV false [(cD dL)]),sI 69,sI 70] [au 1 [(cD dL),(cD dL),xI,(cD dL),xI,xI],dE 20009 5]
def Jv {β:Type}(g:St->β):ae->Int->Int->ae->ae->Int->ae->Int->Int->ae->β:=K3.unc g
def aqz:PT St:=pS [sP 1,sl 9 (aV false [(dG 20009)]),sl 68 (aV false [(cD dL)]),sI 69,sI 70,sl 71 (aV false [(cD dB)])] [au 1 [(cD dL),(cD dL),xI,(cD dL),xI,xI],dE 20009 5]
def A2 {β:Type}(g:St->β):ae->Int->Int->Bool->ae->ae->Int->ae->Int->Int->ae->β:=aqz.unc g
def tc:ah:=ah.sub [1,1,1,1,1,1,1,0,1,0,0] (emb LG)
def tn (α:Type)(i:ae)(d:Int)(j:ae)(a:Int)(c:ae)(kn:Int->ae->Op α)(k1:Int->Bool->ae->Op α):Op α:=
 cK (decide (a < d))
 (dT i a [.int .i64,.int .i64]
 (fun e g=>dT j a [.int .i64,.int .i64,.int .i64]
 (fun b h l=>gK (dH 5 40 c [[DC.v (.int .i64 b),DC.v (.int .i64 b),DC.v (.int .i64 e),DC.v (.int .i64 g),DC.v (.int .i64 h)]]) (kn (w64 (a+1)) (c++[[DC.v (.int .i64 b),DC.v (.int .i64 b),DC.v (.int .i64 e),DC.v (.int .i64 g),DC.v (.int .i64 h)]])))))
 (k1 a (decide (a < d)) c)
def m8 (α:Type)(a:ae)(b:Int)(c:ae)(k1:Int->Bool->ae->Op α):Nat->Int->ae->Op α
 | 0,_,_=>none
 | n+1,d,e=>tn α a b c d e (m8 α a b c k1 n) k1
def NH (α:Type)(a:ae)(b:Int)(c:ae)(k1:Int->Bool->ae->Op α)(d:Int)(e:ae):Op α:=m8 α a b c k1 aE d e
abbrev L0:Type 1:=(α:Type)->ae->Int->ae->(Int->Bool->ae->Op α)->Int->ae->Op α
def z8:L0:=sld NH
def XF (v:L0)(α:Type)(K:KT α):ae->Int->Int->ae->ae->Int->ae->Int->Int->ae->Op α:=fun a b d c e g h i j l=>v α a b c (fun m o p=>A2 (K (.exit 4)) a b m o c e g h i j p) d l
theorem an2 (α:Type)(K:KT α)(Kn:SK α)(a:ae)(b c:Int)(d g:ae)(h:Int)(i:ae)(j l:Int)(e:ae):Jv (fun σ=>az Pg Ek4 xJ tc (bI (fun σ=>br sZ σ Kn) K) σ) a b c d g h i j l e=tn α a b d c e (fun c e=>Jv Kn a b c d g h i j l e) (fun m o p=>A2 (K (.exit 4)) a b m o d g h i j l p):=by kernel_rfl
theorem amw (α:Type)(K:KT α):∀ (n:Nat) (a:ae) (b d:Int) (c g:ae) (h:Int) (i:ae) (j l:Int) (e:ae),m8 α a b c (fun m o p=>A2 (K (.exit 4)) a b m o c g h i j l p) n d e=Jv (aJ (az Pg Ek4 xJ tc) sZ K n) a b d c g h i j l e:=by
 intro n
 induction n with
 | zero=>intros;rfl
 | succ n ih=>intro a b d c g h i j l e;exact (congrArg (fun kn=>tn α a b c d e kn (fun m o p=>A2 (K (.exit 4)) a b m o c g h i j l p)) (funext fun d=>funext fun e=>ih a b d c g h i j l e)).trans (an2 α K (aJ (az Pg Ek4 xJ tc) sZ K n) a b d c g h i j l e).symm
theorem as2:∀ (α:Type) (K:KT α),XF z8 α K=K3.unc fun σ=>aJ (az Pg Ek4 xJ tc) sZ K aE σ:=aZ (fun α K=>funext fun a=>funext fun b=>funext fun c=>funext fun d=>funext fun e=>funext fun g=>funext fun h=>funext fun i=>funext fun j=>funext fun l=>amw α K aE a b c d e g h i j l)
def v9:ah:=ah.sub [1,1,1,1,0,1,0,0] (emb LG)
def uu (α:Type)(d:ae)(b a:Int)(kn:Int->Op α)(k1:Int->Op α)(k2:Int->Bool->Op α):Op α:=
 cK (decide (a < b))
 (dT d a [.int .i64,.int .i64]
 (fun e g=>ND α e g 0 1000000
 (fun c=>cK (c != 0)
 (k1 c)
 (kn (w64 (a+1))))))
 (k2 a (decide (a < b)))
def qh (α:Type)(a:ae)(b:Int)(k1:Int->Op α)(k2:Int->Bool->Op α):Nat->Int->Op α
 | 0,_=>none
 | n+1,c=>uu α a b c (qh α a b k1 k2 n) k1 k2
def M7 (α:Type)(a:ae)(b:Int)(k1:Int->Op α)(k2:Int->Bool->Op α)(c:Int):Op α:=qh α a b k1 k2 aE c
abbrev OK:Type 1:=(α:Type)->ae->Int->(Int->Op α)->(Int->Bool->Op α)->Int->Op α
def Ap:OK:=sld M7
def Y1 (v:OK)(α:Type)(K:KT α):ae->Int->Int->ae->ae->Int->ae->Int->Int->Op α:=fun b c d e g h i j l=>v α b c (fun a=>db (K .ret) a ([]:ae)) (fun a m=>AE (K (.exit 2)) b c a m e g h i j l) d
theorem atw (α:Type)(K:KT α)(Kn:SK α)(a:ae)(b c:Int)(d e:ae)(g:Int)(h:ae)(i j:Int):Jt (fun σ=>az Pg Ek4 xJ v9 (bI (fun σ=>br uX σ Kn) K) σ) a b c d e g h i j=uu α a b c (fun c=>Jt Kn a b c d e g h i j) (fun l=>db (K .ret) l ([]:ae)) (fun l m=>AE (K (.exit 2)) a b l m d e g h i j):=by kernel_rfl
theorem asq (α:Type)(K:KT α):∀ (n:Nat) (a:ae) (b c:Int) (e g:ae) (h:Int) (i:ae) (j l:Int),qh α a b (fun d=>db (K .ret) d ([]:ae)) (fun d m=>AE (K (.exit 2)) a b d m e g h i j l) n c=Jt (aJ (az Pg Ek4 xJ v9) uX K n) a b c e g h i j l:=by
 intro n
 induction n with
 | zero=>intros;rfl
 | succ n ih=>intro a b c e g h i j l;exact (congrArg (fun kn=>uu α a b c kn (fun d=>db (K .ret) d ([]:ae)) (fun d m=>AE (K (.exit 2)) a b d m e g h i j l)) (funext fun c=>ih a b c e g h i j l)).trans (atw α K (aJ (az Pg Ek4 xJ v9) uX K n) a b c e g h i j l).symm
theorem am7:∀ (α:Type) (K:KT α),Y1 Ap α K=IL.unc fun σ=>aJ (az Pg Ek4 xJ v9) uX K aE σ:=aZ (fun α K=>funext fun a=>funext fun b=>funext fun c=>funext fun d=>funext fun e=>funext fun g=>funext fun h=>funext fun i=>funext fun j=>asq α K aE a b c d e g h i j)
def ub:ah:=ah.sub [1,1,0,1,0,0] (emb LG)
def ud (α:Type)(c:ae)(b a:Int)(kn:Int->Op α)(k1:Op α)(k2:Int->Bool->Op α):Op α:=
 cK (decide (a < b))
 (dT c a [.int .i64,.int .i64,.int .i64]
 (fun d e g=>lD α d 5000 80000
 (fun h=>cK (!h)
 (k1)
 (lD α e 0 80000
 (fun i=>cK (!i)
 (k1)
 (lD α g 0 1000000
 (fun j=>cK (!j)
 (k1)
 (kn (w64 (a+1))))))))))
 (k2 a (decide (a < b)))
def qc (α:Type)(a:ae)(b:Int)(k1:Op α)(k2:Int->Bool->Op α):Nat->Int->Op α
 | 0,_=>none
 | n+1,c=>ud α a b c (qc α a b k1 k2 n) k1 k2
def Mm (α:Type)(a:ae)(b:Int)(k1:Op α)(k2:Int->Bool->Op α)(c:Int):Op α:=qc α a b k1 k2 aE c
def AJ:wS:=sld Mm
def Qi (v:wS)(α:Type)(K:KT α):ae->Int->Int->ae->ae->Int->ae->Int->Int->Op α:=fun a b c d e g h i j=>v α a b (db (K .ret) 2 ([]:ae)) (fun l m=>AW (K (.exit 0)) a b l m d e g h i j) c
theorem as4 (α:Type)(K:KT α)(Kn:SK α)(a:ae)(b c:Int)(d e:ae)(g:Int)(h:ae)(i j:Int):IB (fun σ=>az Pg Ek4 xJ ub (bI (fun σ=>br vG σ Kn) K) σ) a b c d e g h i j=ud α a b c (fun c=>IB Kn a b c d e g h i j) (db (K .ret) 2 ([]:ae)) (fun l m=>AW (K (.exit 0)) a b l m d e g h i j):=by kernel_rfl
theorem aof (α:Type)(K:KT α):∀ (n:Nat) (a:ae) (b c:Int) (d e:ae) (g:Int) (h:ae) (i j:Int),qc α a b (db (K .ret) 2 ([]:ae)) (fun l m=>AW (K (.exit 0)) a b l m d e g h i j) n c=IB (aJ (az Pg Ek4 xJ ub) vG K n) a b c d e g h i j:=by
 intro n
 induction n with
 | zero=>intros;rfl
 | succ n ih=>intro a b c d e g h i j;exact (congrArg (fun kn=>ud α a b c kn (db (K .ret) 2 ([]:ae)) (fun l m=>AW (K (.exit 0)) a b l m d e g h i j)) (funext fun c=>ih a b c d e g h i j)).trans (as4 α K (aJ (az Pg Ek4 xJ ub) vG K n) a b c d e g h i j).symm
theorem anF:∀ (α:Type) (K:KT α),Qi AJ α K=H7.unc fun σ=>aJ (az Pg Ek4 xJ ub) vG K aE σ:=aZ (fun α K=>funext fun a=>funext fun b=>funext fun c=>funext fun d=>funext fun e=>funext fun g=>funext fun h=>funext fun i=>funext fun j=>aof α K aE a b c d e g h i j)
def ajV (α:Type)(a b:ae)(c:Int)(k1:ae->Int->Op α):Op α:=
 cK (decide (40 < ((List.length a:Nat):Int)))
 (k1 ([]:ae) 8)
 (AJ α a ((List.length a:Nat):Int)
 (k1 ([]:ae) 2)
 (fun j l=>cK (decide (((List.length a:Nat):Int) < ((List.length b:Nat):Int)))
 (k1 ([]:ae) 12)
 (Ap α b ((List.length b:Nat):Int)
 (fun h=>k1 ([]:ae) h)
 (fun m o=>lD α c 0 1000
 (fun i=>cK (!i)
 (k1 ([]:ae) 2)
 (z8 α b ((List.length b:Nat):Int) a
 (fun p q d=>gK (decide ((0:Int)<=((List.length b:Nat):Int)/\((List.length b:Nat):Int)<=(((List.length a:Nat):Int):Int)/\(((List.length a:Nat):Int):Int)<=((List.length a:Nat):Int)/\eS 3 a=true)) (Nb α (List.drop (Int.toNat ((List.length b:Nat):Int)) (List.take (Int.toNat ((List.length a:Nat):Int)) a)) c
 (fun e g=>cK (g != 0)
 (k1 ([]:ae) g)
 (gK (dH 5 40 d e) (k1 (d++e) 0))))) 0 ([]:ae)))) 0)) 0)
def Hg:It:=sld ajV
def af8 (v:It)(α:Type)(k:RT α):ae->ae->Int->ae->Int->Int->Op α:=fun a b c g h i=>v α a b c (fun d e=>BS k d e)
def axW:ah:=(ah.put (.m [⟨H7,Qi AJ⟩]) [1,1,0,1,0] (ah.put (.m [⟨IL,Y1 Ap⟩]) [1,1,1,1,0,1,0] (ah.put (.m [⟨K3,XF z8⟩]) [1,1,1,1,1,1,1,0,1,0] (emb LG))))
theorem ayU:ak Pg 14 111 ⟨eN,af8 Hg⟩:=iZ ek4 (ag Tryz.func14 (by kernel_rfl)) xJ axW ((am _ _).trans ((am _ _).trans ((am _ _).trans (aA _)))) (aW (td:=vG) (by kernel_rfl) (aW (td:=uX) (by kernel_rfl) (aW (td:=sZ) (by kernel_rfl) (aD LG) ⟨as2,trivial⟩) ⟨am7,trivial⟩) ⟨anF,trivial⟩) fun _ _=>by kernel_rfl
end
end Go.AM.K
