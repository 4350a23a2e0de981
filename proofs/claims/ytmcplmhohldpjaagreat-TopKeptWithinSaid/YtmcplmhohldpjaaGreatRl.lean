/- Printed by KGen. -/
import Derived.Test.YtmcplmhohldpjaaGreatRw
namespace Go.AM.K
open Go.Proofs
set_option maxRecDepth 100000
set_option linter.unusedVariables false
noncomputable section
abbrev nt3:Nat:=175
def sh3:SG:=[(22,[.sl,.sl,.int .i64,.int .i64]),(26,[.sl,.sl,.int .i64,.int .i64]),(40,[.sl]),(54,iS 5),(56,iS 2),(58,iT),(62,iS 5),(64,iS 2),(66,iT),(68,iS 5),(70,iS 5),(74,[.sl]),(80,[.sl]),(82,iS 9),(83,iS 9),(85,iS 2),(87,iT),(90,iS 2),(92,iT),(97,iT),(101,iT),(103,iT),(106,iT),(108,iT),(112,iT),(113,iS 2),(115,iT),(116,iS 2),(120,iS 2),(127,iS 6),(129,iT),(132,iT),(135,iT),(140,iT),(143,iT),(148,iT),(151,iT),(156,iT),(159,iT)]
def tr3:TG:=[tT 0 [2,3],tT 1 [2,3,21],tT 2 [4],tT 3 [2,3,24],tT 4 [4],tT 5 [2,3,5,7,8],tT 6 [2,3,5,7,38],tT 7 [4],tT 8 [2,3,5,7,9],tT 9 [2,3,5,7,9,10],tT 10 [2,3,5,7,9,10,45],tT 12 [2,3,5,7,9,10],tT 11 [2,3,5,7,9,10],tT 13 [2,3,5,7,9,11],tT 14 [2,3,5,7,9,11,76],tT 16 [2,3,5,7,9,11,12],tT 17 [2,3,5,7,9,11,12,13,14],tT 18 [2,3,5,7,9,11,12,13,14,95],tT 19 [2,3,5,7,9,11,12,13,14,99],tT 20 [2,3,5,7,9,11,12,13,14],tT 21 [2,3,5,7,9,11,12,15,16],tT 22 [2,3,5,7,9,11,12,15,126],tT 23 [2,3,5,7,9,11,12,17],tT 24 [2,3,5,7,9,11,12,17,18],tT 25 [2,3,5,7,9,11,18,19],tT 26 [2,3,5,7,9,11,174],tT 27 [4],tT 15 [2,3,5,7,9,11],tT 28 [4]]
def tl3:TG:=[(10,⟨[2,3,5,7,9,10],true,[⟨false,9,0,20009,5⟩,⟨true,2,0,30200,9⟩,⟨true,2,1,30201,5⟩],[]⟩),(14,⟨[2,3,5,7,9,11],true,[⟨false,9,0,20009,5⟩,⟨true,2,0,30200,9⟩,⟨true,2,1,30201,5⟩],[]⟩)]
def ac3:ACode:=codeF Pg Tryz.f3 tr3 tl3
def td3_29:OT:=tdC (MCode.sub [1,1,1,1,1,1,0,1,0] (emb ac3))
def td3_42:OT:=tdC (MCode.sub [1,1,1,1,1,1,1,0,1,0] (emb ac3))
def p3_0_0:PT St:=pS [sP 2,sP 3,sI 5,sP 7,sl 9 (aV false [(cRef 20009)]),sI 10] [eBox 2 [(cD dL),(cD dL),xI,xI],eBox 3 (xs 4),eBox 7 (xs 3),eOwn 20009 5]
def u3_0_0 {β:Type}(g:St->β):Int->Int->Rows->Rows->Int->Int->Int->Int->Int->Int->Int->Int->Int->Rows->β:=p3_0_0.unc g
def p3_0_1:PT St:=pS [sP 2,sP 3,sI 5,sP 7,sl 9 (aV false [(cRef 20009)]),sI 10,sY 45 dB] [eBox 2 [(cD dL),(cD dL),xI,xI],eBox 3 (xs 4),eBox 7 (xs 3),eOwn 20009 5]
def u3_0_1 {β:Type}(g:St->β):Int->Int->Bool->Rows->Rows->Int->Int->Int->Int->Int->Int->Int->Int->Int->Rows->β:=p3_0_1.unc g
def p3_0_2:PT St:=pS [sP 2,sP 3,sI 5,sP 7,sl 9 (aV false [(cRef 20009)]),sI 11,sP 12,sP 13,sP 14] [eBox 2 [(cD dL),(cD dL),xI,xI],eBox 3 (xs 4),eBox 7 (xs 3),eOwn 20009 5,eBox 12 (xs 9),eBox 13 [xI,xI],eBox 14 [xI,xI]]
def u3_0_2 {β:Type}(g:St->β):Int->Int->Rows->Rows->Int->Int->Int->Int->Int->Int->Int->Int->Int->Rows->I13 β:=p3_0_2.unc g
def p3_0_3:PT St:=pS [sP 2,sP 3,sI 5,sP 7,sl 9 (aV false [(cRef 20009)]),sI 11,sP 12,sP 13,sP 14,sY 99 dB] [eBox 2 [(cD dL),(cD dL),xI,xI],eBox 3 (xs 4),eBox 7 (xs 3),eOwn 20009 5,eBox 12 (xs 9),eBox 13 [xI,xI],eBox 14 [xI,xI]]
def u3_0_3 {β:Type}(g:St->β):Int->Int->Bool->Rows->Rows->Int->Int->Int->Int->Int->Int->Int->Int->Int->Rows->I13 β:=p3_0_3.unc g
def p3_0_4:PT St:=pS [sP 2,sP 3,sI 5,sP 7,sl 9 (aV false [(cRef 20009)]),sI 11,sP 12,sP 13,sP 14,sY 95 dB] [eBox 2 [(cD dL),(cD dL),xI,xI],eBox 3 (xs 4),eBox 7 (xs 3),eOwn 20009 5,eBox 12 (xs 9),eBox 13 [xI,xI],eBox 14 [xI,xI]]
def u3_0_4 {β:Type}(g:St->β):Int->Int->Bool->Rows->Rows->Int->Int->Int->Int->Int->Int->Int->Int->Int->Rows->I13 β:=p3_0_4.unc g
def p3_0_5:PT St:=pS [sP 2,sP 3,sI 5,sP 7,sl 9 (aV false [(cRef 20009)]),sI 11,sP 12,sP 17] [eBox 2 [(cD dL),(cD dL),xI,xI],eBox 3 (xs 4),eBox 7 (xs 3),eOwn 20009 5,eBox 12 (xs 9),eBox 17 [xI,xI]]
def u3_0_5 {β:Type}(g:St->β):Int->Int->Rows->Rows->Int->Int->Int->Int->Int->Int->Int->Int->Int->Rows->I11 β:=p3_0_5.unc g
def p3_0_6:PT St:=pS [sP 2,sP 3,sI 5,sP 7,sl 9 (aV false [(cRef 20009)]),sI 11,sP 12,sP 17,sY 18 dB] [eBox 2 [(cD dL),(cD dL),xI,xI],eBox 3 (xs 4),eBox 7 (xs 3),eOwn 20009 5,eBox 12 (xs 9),eBox 17 [xI,xI]]
def u3_0_6 {β:Type}(g:St->β):Int->Int->Bool->Rows->Rows->Int->Int->Int->Int->Int->Int->Int->Int->Int->Rows->I11 β:=p3_0_6.unc g
def p3_0_7:PT St:=pS [sP 2,sP 3,sI 5,sP 7,sl 9 (aV false [(cRef 20009)]),sI 11,sY 18 dB,sY 19 dB] [eBox 2 [(cD dL),(cD dL),xI,xI],eBox 3 (xs 4),eBox 7 (xs 3),eOwn 20009 5]
def u3_0_7 {β:Type}(g:St->β):Int->Int->Bool->Bool->Rows->Rows->Int->Int->Int->Int->Int->Int->Int->Int->Int->Rows->β:=p3_0_7.unc g
def p3_0_8:PT St:=pS [sP 2,sP 3,sI 5,sP 7,sl 9 (aV false [(cRef 20009)]),sI 11,sY 174 dB] [eBox 2 [(cD dL),(cD dL),xI,xI],eBox 3 (xs 4),eBox 7 (xs 3),eOwn 20009 5]
def u3_0_8 {β:Type}(g:St->β):Int->Int->Bool->Rows->Rows->Int->Int->Int->Int->Int->Int->Int->Int->Int->Rows->β:=p3_0_8.unc g
def p3_0_9:PT St:=pS [sP 2,sP 3,sI 5,sP 7,sl 9 (aV false [(cRef 20009)]),sI 11,sY 76 dB] [eBox 2 [(cD dL),(cD dL),xI,xI],eBox 3 (xs 4),eBox 7 (xs 3),eOwn 20009 5]
def u3_0_9 {β:Type}(g:St->β):Int->Int->Bool->Rows->Rows->Int->Int->Int->Int->Int->Int->Int->Int->Int->Rows->β:=p3_0_9.unc g
def p3_0_10:PT St:=pS [sP 2,sP 3,sI 5,sP 7,sl 9 (aV false [(cRef 20009)]),sI 11,sP 12,sP 15,sY 126 dB] [eBox 2 [(cD dL),(cD dL),xI,xI],eBox 3 (xs 4),eBox 7 (xs 3),eOwn 20009 5,eBox 12 (xs 9),eBox 15 (xs 6)]
def u3_0_10 {β:Type}(g:St->β):Int->Int->Bool->Rows->Rows->Int->Int->Int->Int->Int->Int->Int->Int->Int->Rows->I15 β:=p3_0_10.unc g
def p3_0_11:PT St:=pS [sY 4 dB] []
def u3_0_11 {β:Type}(g:St->β):Bool->β:=p3_0_11.unc g
def p3_0_12:PT St:=pS [sP 2,sP 3,sI 5,sP 7,sl 9 (aV false [(cRef 20009)]),sI 11] [eBox 2 [(cD dL),(cD dL),xI,xI],eBox 3 (xs 4),eBox 7 (xs 3),eOwn 20009 5]
def u3_0_12 {β:Type}(g:St->β):Int->Int->Rows->Rows->Int->Int->Int->Int->Int->Int->Int->Int->Int->Rows->β:=p3_0_12.unc g
def E3_0:EnvK:=EnvK.of [⟨6,nt6,[⟨pa6_0,Fn6_0 f6_0⟩]⟩,⟨7,nt7,[⟨pa7_0,Fn7_0 f7_0⟩]⟩,⟨9,nt9,[⟨pa7_0,Fn9_0 f9_0⟩]⟩,⟨8,nt8,[⟨pa7_0,Fn8_0 f8_0⟩]⟩,⟨10,nt10,[⟨pa10_0,Fn10_0 f10_0⟩]⟩,⟨11,nt11,[⟨pa181_0,Fn11_0 f11_0⟩]⟩,⟨12,nt12,[⟨pa70_0,Fn12_0 f12_0⟩]⟩,⟨13,nt13,[⟨pa13_0,Fn13_0 f13_0⟩]⟩] noSeq
theorem eo3_0:E3_0.Ok Pg:=EnvK.of_ok noSeq_ok ⟨⟨io6_0,TT⟩,⟨io7_0,TT⟩,⟨io9_0,TT⟩,⟨io8_0,TT⟩,⟨io10_0,TT⟩,⟨io11_0,TT⟩,⟨io12_0,TT⟩,⟨io13_0,TT⟩,TT⟩
def c3_0_74:MCode:=MCode.sub [1,1,1,1,1,1,1,0,1,0,0,1,0,0,1,1,1,1,1,1,1,1,0] (emb ac3)
abbrev TJ3_0_4:Type 1:=(α:Type)->Int->Bool->Bool->(Bool->Op α)->Op α
def J3_0_4g (α:Type)(a:Int)(c b:Bool)(k1:Bool->Op α):Op α:=
 cK (a == 2)
 (cK c
 (k1 true)
 (cK (a == 0)
 (k1 b)
 (k1 false)))
 (cK (a == 0)
 (k1 b)
 (k1 false))
def J3_0_4:TJ3_0_4:=sld J3_0_4g
def F3_0_4 (v:TJ3_0_4)(α:Type)(K:KT α):Int->Int->Bool->Bool->Rows->Rows->Int->Int->Int->Int->Int->Int->Int->Int->Int->Rows->Op α:=fun a b c d e g h i j l m o p q r s=>v α a c d (fun t=>u3_0_8 (K .normal) a b t e g h i j l m o p q r s)
theorem m3_0_4:∀ (α:Type) (K:KT α),F3_0_4 J3_0_4 α K=p3_0_7.unc fun σ=>runM Pg E3_0 sh3 c3_0_74 K σ:=sld0 (fun α K=>by kernel_rfl)
def c3_0_72:MCode:=MCode.sub [1,1,1,1,1,1,1,0,1,0,0,1,0,0,1,1,1,1,1,1,1,0] (emb ac3)
def J3_0_3g (α:Type)(a b c d:Int)(k1:Bool->Op α):Op α:=
 cK (decide ((w64 (a*1048576))<=(w64 (c*10000))))
 (k1 (decide ((w64 (d*10000))<=(w64 (b*1048576)))))
 (k1 false)
def J3_0_3:Tf159_0:=sld J3_0_3g
def F3_0_3 (v:Tf159_0)(α:Type)(K:KT α):Int->Int->Bool->Rows->Rows->Int->Int->Int->Int->Int->Int->Int->Int->Int->Rows->I11 (Op α):=fun a b c d e g h i j l m o p q r B C D F G H I s t w z=>v α s t w z (fun A=>u3_0_7 (K .normal) a b c A d e g h i j l m o p q r)
theorem m3_0_3:∀ (α:Type) (K:KT α),F3_0_3 J3_0_3 α K=p3_0_6.unc fun σ=>runM Pg E3_0 sh3 c3_0_72 K σ:=sld0 (fun α K=>by kernel_rfl)
def c3_0_70:MCode:=MCode.sub [1,1,1,1,1,1,1,0,1,0,0,1,0,0,1,1,1,1,1,1,0] (emb ac3)
def J3_0_2g (α:Type)(a b c d:Int)(k1:Bool->Op α):Op α:=
 cK (decide ((w64 (d*10000)) < (w64 (a*1048576))))
 (k1 true)
 (k1 (decide ((w64 (b*1048576)) < (w64 (c*10000)))))
def J3_0_2:Tf159_0:=sld J3_0_2g
def F3_0_2 (v:Tf159_0)(α:Type)(K:KT α):Int->Int->Rows->Rows->Int->Int->Int->Int->Int->Int->Int->Int->Int->Rows->I11 (Op α):=fun e g h i j l m o p q r s t w z A B C D F G a b c d=>v α a b c d (fun H=>u3_0_6 (K .normal) e g H h i j l m o p q r s t w z A B C D F G a b c d)
theorem m3_0_2:∀ (α:Type) (K:KT α),F3_0_2 J3_0_2 α K=p3_0_5.unc fun σ=>runM Pg E3_0 sh3 c3_0_70 K σ:=sld0 (fun α K=>by kernel_rfl)
def c3_0_53:MCode:=MCode.sub [1,1,1,1,1,1,1,0,1,0,0,1,0,0,1,1,0] (emb ac3)
abbrev TJ3_0_1:Type 1:=(α:Type)->Int->Int->Int->(Bool->Op α)->(Op α)->(Bool->Op α)->Op α
def J3_0_1g (α:Type)(a b c:Int)(k1:Bool->Op α)(k2:Op α)(k3:Bool->Op α):Op α:=
 cK (a == 0)
 (cK (c != b)
 (k1 (c != b))
 (k2))
 (k3 (a == 0))
def J3_0_1:TJ3_0_1:=sld J3_0_1g
def F3_0_1 (v:TJ3_0_1)(α:Type)(K:KT α):Int->Int->Rows->Rows->Int->Int->Int->Int->Int->Int->Int->Int->Int->Rows->I13 (Op α):=fun c d g h i j l m o p e a b q r s t w z A B C D G H I J=>v α c d e (fun F=>u3_0_3 (K (.exit 3)) c d F g h i j l m o p e a b q r s t w z A B C D G H I J) (u3_0_2 (K .normal) c d g h i j l m o p e a b q r s t w z A B C D a a b b) (fun F=>u3_0_4 (K .normal) c d F g h i j l m o p e a b q r s t w z A B C D G H I J)
theorem m3_0_1:∀ (α:Type) (K:KT α),F3_0_1 J3_0_1 α K=p3_0_2.unc fun σ=>runM Pg E3_0 sh3 c3_0_53 K σ:=sld0 (fun α K=>by kernel_rfl)
def c3_0_47:MCode:=MCode.sub [1,1,1,1,1,1,1,0,1,0,0,1,0] (MCode.put (.m [⟨p3_0_2,F3_0_1 J3_0_1⟩]) [1,1,1,1,1,1,1,0,1,0,0,1,0,0,1,1] (MCode.put (.m [⟨p3_0_5,F3_0_2 J3_0_2⟩]) [1,1,1,1,1,1,1,0,1,0,0,1,0,0,1,1,1,1,1,1] (MCode.put (.m [⟨p3_0_6,F3_0_3 J3_0_3⟩]) [1,1,1,1,1,1,1,0,1,0,0,1,0,0,1,1,1,1,1,1,1] (MCode.put (.m [⟨p3_0_7,F3_0_4 J3_0_4⟩]) [1,1,1,1,1,1,1,0,1,0,0,1,0,0,1,1,1,1,1,1,1,1] (emb ac3)))))
abbrev TJ3_0_5:Type 1:=(α:Type)->Int->Int->Rows->Int->Int->Int->Int->Int->Int->Int->Rows->(Bool->I13 (Op α))->(Bool->I15 (Op α))->(Op α)->(Bool->Op α)->Op α
def J3_0_5g (α:Type)(l m:Int)(a0:Rows)(o p a1 a2 a3 q r:Int)(s:Rows)(k1:Bool->I13 (Op α))(k2:Bool->I15 (Op α))(k3:Op α)(k4:Bool->Op α):Op α:=
 rowK a0 m [.int .i64,.int .i64,.int .i64,.int .i64,.int .i64,.int .i64,.int .i64,.int .i64,.int .i64]
 (fun c d e g h i j a b=>f11_0 α i j a1
 (fun t w=>f11_0 α g h a2
 (fun z A=>J3_0_1 α l m a3
 (fun a4=>k1 a4 c d e g h i j a b t w z A)
 (f10_0 α s
 (fun B=>flatK [B]
 (f12_0 α e r r d q q B o p
 (fun C D F G H I J=>cK (J != 0)
 (k2 (J != 0) c d e g h i j a b C D F G H I)
 (f13_0 α C D F G H I c
 (fun L M=>J3_0_2 α a b L M
 (fun a5=>J3_0_3 α a b L M
 (fun a6=>J3_0_4 α l a5 a6
 (fun N=>cK N
 (k3)
 (k4 N))))))))))
 (fun a9=>f10_0 α s
 (fun O=>flatK [O]
 (f12_0 α e z A d t w O o p
 (fun P Q R T U V W=>cK (W != 0)
 (k2 (W != 0) c d e g h i j a b P Q R T U V)
 (f13_0 α P Q R T U V c
 (fun X Y=>J3_0_2 α a b X Y
 (fun a7=>J3_0_3 α a b X Y
 (fun a8=>J3_0_4 α l a7 a8
 (fun Z=>cK Z
 (k3)
 (k4 Z)))))))))))))
def J3_0_5:TJ3_0_5:=sld J3_0_5g
def F3_0_5 (v:TJ3_0_5)(α:Type)(K:KT α):Int->Int->Bool->Rows->Rows->Int->Int->Int->Int->Int->Int->Int->Int->Int->Rows->Op α:=fun b c N d p e g h i q r j l m o=>v α b c d e g h i j l m o (fun a s t w z A B C D F G H I J=>u3_0_3 (K .normal) b c a d p e g h i q r j l m o s t w z A B C D F G H I J) (fun a s t w z A B C D F G H I J L M=>u3_0_10 (K .normal) b c a d p e g h i q r j l m o s t w z A B C D F G H I J L M) (u3_0_11 (K .ret) false) (fun a=>u3_0_8 (K .normal) b c a d p e g h i q r j l m o)
theorem m3_0_5:∀ (α:Type) (K:KT α),F3_0_5 J3_0_5 α K=p3_0_9.unc fun σ=>runM Pg E3_0 sh3 c3_0_47 K σ:=sld0 (fun α K=>by kernel_rfl)
def c3_0_42:MCode:=MCode.sub [1,1,1,1,1,1,1,0,1,0,0] (MCode.put (.m [⟨p3_0_9,F3_0_5 J3_0_5⟩]) [1,1,1,1,1,1,1,0,1,0,0,1] (MCode.put (.m [⟨p3_0_2,F3_0_1 J3_0_1⟩]) [1,1,1,1,1,1,1,0,1,0,0,1,0,0,1,1] (MCode.put (.m [⟨p3_0_5,F3_0_2 J3_0_2⟩]) [1,1,1,1,1,1,1,0,1,0,0,1,0,0,1,1,1,1,1,1] (MCode.put (.m [⟨p3_0_6,F3_0_3 J3_0_3⟩]) [1,1,1,1,1,1,1,0,1,0,0,1,0,0,1,1,1,1,1,1,1] (MCode.put (.m [⟨p3_0_7,F3_0_4 J3_0_4⟩]) [1,1,1,1,1,1,1,0,1,0,0,1,0,0,1,1,1,1,1,1,1,1] (emb ac3))))))
def S3_0_6 (α:Type)(c:Int)(b:Rows)(d e g h i j l:Int)(m:Rows)(a:Int)(kn:Int->Op α)(k1:Op α)(k2:Int->Bool->Op α):Op α:=
 cK (decide (a < ((List.length b:Nat):Int)))
 (J3_0_5 α c a b d e g h i j l m
 (fun o p q r s t w z A B C D F G=>kn (w64 (a+1)))
 (fun H I J L M N O P Q R T U V W X Y=>kn (w64 (a+1)))
 (k1)
 (fun Z=>kn (w64 (a+1))))
 (k2 a (decide (a < ((List.length b:Nat):Int))))
def R3_0_6 (α:Type)(a:Int)(b:Rows)(c d e g h i j:Int)(l:Rows)(k1:Op α)(k2:Int->Bool->Op α):Nat->Int->Op α
 | 0,_=>none
 | n+1,m=>S3_0_6 α a b c d e g h i j l m (R3_0_6 α a b c d e g h i j l k1 k2 n) k1 k2
def L3_0_6g (α:Type)(a:Int)(b:Rows)(c d e g h i j:Int)(l:Rows)(k1:Op α)(k2:Int->Bool->Op α)(m:Int):Op α:=R3_0_6 α a b c d e g h i j l k1 k2 fuel m
abbrev TL3_0_6:Type 1:=(α:Type)->Int->Rows->Int->Int->Int->Int->Int->Int->Int->Rows->(Op α)->(Int->Bool->Op α)->Int->Op α
def L3_0_6:TL3_0_6:=sld L3_0_6g
def F3_0_6 (v:TL3_0_6)(α:Type)(K:KT α):Int->Int->Rows->Rows->Int->Int->Int->Int->Int->Int->Int->Int->Int->Rows->Op α:=fun a m b o c d e g p q h i j l=>v α a b c d e g h i j l (u3_0_11 (K .ret) false) (fun r s=>u3_0_9 (K (.exit 2)) a r s b o c d e g p q h i j l) m
theorem r3_0_6 (α:Type)(K:KT α)(Kn:SK α)(a b:Int)(c o:Rows)(d e g h p q i j l:Int)(m:Rows):u3_0_12 (fun σ=>runM Pg E3_0 sh3 c3_0_42 (thenK (fun σ=>tidyK td3_42 σ Kn) K) σ) a b c o d e g h p q i j l m=S3_0_6 α a c d e g h i j l m b (fun b=>u3_0_12 Kn a b c o d e g h p q i j l m) (u3_0_11 (K .ret) false) (fun r s=>u3_0_9 (K (.exit 2)) a r s c o d e g h p q i j l m):=by kernel_rfl
theorem t3_0_6 (α:Type)(K:KT α):∀ (n:Nat) (a m:Int) (b o:Rows) (c d e g p q h i j:Int) (l:Rows),R3_0_6 α a b c d e g h i j l (u3_0_11 (K .ret) false) (fun r s=>u3_0_9 (K (.exit 2)) a r s b o c d e g p q h i j l) n m=u3_0_12 (loopT (runM Pg E3_0 sh3 c3_0_42) td3_42 K n) a m b o c d e g p q h i j l:=by
 intro n
 induction n with
 | zero=>intros;rfl
 | succ n ih=>intro a m b o c d e g p q h i j l;exact (congrArg (fun kn=>S3_0_6 α a b c d e g h i j l m kn (u3_0_11 (K .ret) false) (fun r s=>u3_0_9 (K (.exit 2)) a r s b o c d e g p q h i j l)) (funext fun m=>ih a m b o c d e g p q h i j l)).trans (r3_0_6 α K (loopT (runM Pg E3_0 sh3 c3_0_42) td3_42 K n) a m b o c d e g p q h i j l).symm
theorem m3_0_6:∀ (α:Type) (K:KT α),F3_0_6 L3_0_6 α K=p3_0_12.unc fun σ=>loopT (runM Pg E3_0 sh3 c3_0_42) td3_42 K fuel σ:=sld0 (fun α K=>funext fun a=>funext fun b=>funext fun c=>funext fun d=>funext fun e=>funext fun g=>funext fun h=>funext fun i=>funext fun j=>funext fun l=>funext fun m=>funext fun o=>funext fun p=>funext fun q=>t3_0_6 α K fuel a b c d e g h i j l m o p q)
def c3_0_29:MCode:=MCode.sub [1,1,1,1,1,1,0,1,0,0] (emb ac3)
def S3_0_0 (α:Type)(e g a:Int)(b:Rows)(kn:Int->Rows->Op α)(k1:Int->Bool->Rows->Op α):Op α:=
 cK (decide (a < ((List.length b:Nat):Int)))
 (ixK b a 5
 (ldK b (Int.toNat a) 0 [.int .i64,.int .i64]
 (fun h i=>f11_0 α h i e
 (fun c d=>ixK b a 5
 (ldK b (Int.toNat a) 2 [.int .i64,.int .i64]
 (fun j l=>f11_0 α j l g
 (fun m o=>ixK b a 5
 (stK b (Int.toNat a) 0 2
 (ixK (List.set b (Int.toNat a) (splice (rowAt b (Int.toNat a)) 0 [DC.v (.int .i64 c),DC.v (.int .i64 d)])) a 5
 (stK (List.set b (Int.toNat a) (splice (rowAt b (Int.toNat a)) 0 [DC.v (.int .i64 c),DC.v (.int .i64 d)])) (Int.toNat a) 2 2
 (kn (w64 (a+1)) (List.set (List.set b (Int.toNat a) (splice (rowAt b (Int.toNat a)) 0 [DC.v (.int .i64 c),DC.v (.int .i64 d)])) (Int.toNat a) (splice (rowAt (List.set b (Int.toNat a) (splice (rowAt b (Int.toNat a)) 0 [DC.v (.int .i64 c),DC.v (.int .i64 d)])) (Int.toNat a)) 2 [DC.v (.int .i64 m),DC.v (.int .i64 o)])))))))))))))
 (k1 a (decide (a < ((List.length b:Nat):Int))) b)
def R3_0_0 (α:Type)(a b:Int)(k1:Int->Bool->Rows->Op α):Nat->Int->Rows->Op α
 | 0,_,_=>none
 | n+1,c,d=>S3_0_0 α a b c d (R3_0_0 α a b k1 n) k1
def L3_0_0g (α:Type)(a b:Int)(k1:Int->Bool->Rows->Op α)(c:Int)(d:Rows):Op α:=R3_0_0 α a b k1 fuel c d
abbrev TL3_0_0:Type 1:=(α:Type)->Int->Int->(Int->Bool->Rows->Op α)->Int->Rows->Op α
def L3_0_0:TL3_0_0:=sld L3_0_0g
def F3_0_0 (v:TL3_0_0)(α:Type)(K:KT α):Int->Int->Rows->Rows->Int->Int->Int->Int->Int->Int->Int->Int->Int->Rows->Op α:=fun c d e g h i j l a b m o p q=>v α a b (fun r s t=>u3_0_1 (K (.exit 0)) c r s e g h i j l a b m o p t) d q
theorem r3_0_0 (α:Type)(K:KT α)(Kn:SK α)(e a:Int)(g h:Rows)(i j l m b c o p q:Int)(d:Rows):u3_0_0 (fun σ=>runM Pg E3_0 sh3 c3_0_29 (thenK (fun σ=>tidyK td3_29 σ Kn) K) σ) e a g h i j l m b c o p q d=S3_0_0 α b c a d (fun a d=>u3_0_0 Kn e a g h i j l m b c o p q d) (fun r s t=>u3_0_1 (K (.exit 0)) e r s g h i j l m b c o p q t):=by kernel_rfl
theorem t3_0_0 (α:Type)(K:KT α):∀ (n:Nat) (e c:Int) (g h:Rows) (i j l m a b o p q:Int) (d:Rows),R3_0_0 α a b (fun r s t=>u3_0_1 (K (.exit 0)) e r s g h i j l m a b o p q t) n c d=u3_0_0 (loopT (runM Pg E3_0 sh3 c3_0_29) td3_29 K n) e c g h i j l m a b o p q d:=by
 intro n
 induction n with
 | zero=>intros;rfl
 | succ n ih=>intro e c g h i j l m a b o p q d;exact (congrArg (fun kn=>S3_0_0 α a b c d kn (fun r s t=>u3_0_1 (K (.exit 0)) e r s g h i j l m a b o p q t)) (funext fun c=>funext fun d=>ih e c g h i j l m a b o p q d)).trans (r3_0_0 α K (loopT (runM Pg E3_0 sh3 c3_0_29) td3_29 K n) e c g h i j l m a b o p q d).symm
theorem m3_0_0:∀ (α:Type) (K:KT α),F3_0_0 L3_0_0 α K=p3_0_0.unc fun σ=>loopT (runM Pg E3_0 sh3 c3_0_29) td3_29 K fuel σ:=sld0 (fun α K=>funext fun a=>funext fun b=>funext fun c=>funext fun d=>funext fun e=>funext fun g=>funext fun h=>funext fun i=>funext fun j=>funext fun l=>funext fun m=>funext fun o=>funext fun p=>funext fun q=>t3_0_0 α K fuel a b c d e g h i j l m o p q)
abbrev Tf3_0:Type 1:=(α:Type)->Rows->Rows->Int->Int->Int->Int->Int->Int->(Bool->Op α)->Op α
def f3_0g (α:Type)(a b:Rows)(c d g h i j:Int)(k1:Bool->Op α):Op α:=
 f6_0 α
 (f7_0 α a b
 (fun l=>cK (!l)
 (k1 true)
 (f9_0 α a b
 (fun m o=>f8_0 α m o c d
 (fun e z p q r s=>cK (s != 0)
 (k1 true)
 (cK (e == 1)
 (k1 true)
 (f10_0 α b
 (fun t=>L3_0_0 α i j
 (fun A B w=>L3_0_6 α e a c d g h p q r w
 (k1 false)
 (fun C D=>k1 true) 0) 0 t))))))))
def f3_0:Tf3_0:=sld f3_0g
def pa3_0:PT (List DV):=pA [pV true [dL,dL,(dI .i64),(dI .i64)],pV true [(dI .i64),(dI .i64),(dI .i64),(dI .i64)]]
def Fn3_0 (v:Tf3_0)(α:Type)(k:RT α):Rows->Rows->I6 (Op α):=fun a b c d e g h i=>v α a b c d e g h i (fun j=>ur161_0_0 k j)
def cm3_0:MCode:=(MCode.put (.m [⟨p3_0_0,F3_0_0 L3_0_0⟩]) [1,1,1,1,1,1,0,1,0] (MCode.put (.m [⟨p3_0_12,F3_0_6 L3_0_6⟩]) [1,1,1,1,1,1,1,0,1,0] (MCode.put (.m [⟨p3_0_9,F3_0_5 J3_0_5⟩]) [1,1,1,1,1,1,1,0,1,0,0,1] (MCode.put (.m [⟨p3_0_2,F3_0_1 J3_0_1⟩]) [1,1,1,1,1,1,1,0,1,0,0,1,0,0,1,1] (MCode.put (.m [⟨p3_0_5,F3_0_2 J3_0_2⟩]) [1,1,1,1,1,1,1,0,1,0,0,1,0,0,1,1,1,1,1,1] (MCode.put (.m [⟨p3_0_6,F3_0_3 J3_0_3⟩]) [1,1,1,1,1,1,1,0,1,0,0,1,0,0,1,1,1,1,1,1,1] (MCode.put (.m [⟨p3_0_7,F3_0_4 J3_0_4⟩]) [1,1,1,1,1,1,1,0,1,0,0,1,0,0,1,1,1,1,1,1,1,1] (emb ac3))))))))
theorem io3_0:InstOk Pg 3 nt3 ⟨pa3_0,Fn3_0 f3_0⟩:=inst_s eo3_0 followsTry (codeF_is Tryz.func3 (by kernel_rfl)) sh3 cm3_0 ((put_erase _ _).trans ((put_erase _ _).trans ((put_erase _ _).trans ((put_erase _ _).trans ((put_erase _ _).trans ((put_erase _ _).trans ((put_erase _ _).trans (emb_erase _)))))))) (put_loop (td:=td3_29) (by kernel_rfl) (put_loop (td:=td3_42) (by kernel_rfl) (put_seq (by kernel_rfl) (put_seq (by kernel_rfl) (put_seq (by kernel_rfl) (put_seq (by kernel_rfl) (put_seq (by kernel_rfl) (emb_good ac3) ⟨m3_0_4,TT⟩) ⟨m3_0_3,TT⟩) ⟨m3_0_2,TT⟩) ⟨m3_0_1,TT⟩) ⟨m3_0_5,TT⟩) ⟨m3_0_6,TT⟩) ⟨m3_0_0,TT⟩) fun _ _=>by kernel_rfl
end
end Go.AM.K
