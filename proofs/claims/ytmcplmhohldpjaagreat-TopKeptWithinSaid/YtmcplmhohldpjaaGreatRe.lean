/- Printed by KGen. -/
import Derived.Test.YtmcplmhohldpjaaGreatRd
namespace Go.AM.K
open Go.Proofs
set_option maxRecDepth 100000
set_option linter.unusedVariables false
noncomputable section
abbrev nt32:Nat:=96
def sh32:SG:=[(26,[.sl]),(34,[.cpx .f64,.int .i64]),(39,[.cpx .f64,.int .i64]),(40,[.cpx .f64,.int .i64]),(47,[.cpx .f64,.int .i64]),(52,[.cpx .f64,.int .i64]),(53,[.cpx .f64,.int .i64]),(59,[.cpx .f64,.int .i64]),(60,[.cpx .f64,.int .i64]),(65,[.cpx .f64,.int .i64]),(66,[.cpx .f64,.int .i64]),(78,[.cpx .f64,.int .i64]),(79,[.cpx .f64,.int .i64]),(81,[.cpx .f64,.int .i64]),(83,[.cpx .f64,.int .i64]),(91,[.cpx .f64,.int .i64]),(92,[.cpx .f64,.int .i64]),(94,[.cpx .f64,.int .i64])]
def tr32:TG:=[tT 0 [0,1,4],tT 1 [0,1,4,5],tT 2 [0,1,4,5,6,7],tT 3 [0,1,4,5,6,7,8],tT 4 [0,1,4,5,6,7,8,9],tT 5 [0,1,4,5,7,9,10],tT 6 [0,1,4,5,7,10,11],tT 7 [0,1,4,5,7,10,11,12],tT 8 [0,4,5,7,10,11,12,68],tT 9 [0,4],tT 10 [0,4]]
def ac32:ACode:=codeF Pg Tryz.f32 tr32 tl13
def E32_0:EnvK:=EnvK.ofIO [⟨34,nt34,[⟨pa82_0,Fn34_0 f34_0⟩]⟩,⟨74,nt74,[⟨pa74_0,Fn74_0 f74_0⟩]⟩,⟨76,nt76,[⟨pa78_0,Fn76_0 f76_0⟩]⟩,⟨75,nt75,[⟨pa78_0,Fn75_0 f75_0⟩]⟩,⟨77,nt77,[⟨pa78_0,Fn77_0 f77_0⟩]⟩,⟨78,nt78,[⟨pa78_0,Fn78_0 f78_0⟩]⟩] noSeq [(34,[0]),(74,[0]),(75,[0]),(76,[0]),(77,[0]),(78,[0])]
theorem eo32_0:E32_0.Ok Pg:=EnvK.ofIO_ok noSeq_ok ⟨⟨io34_0,TT⟩,⟨io74_0,TT⟩,⟨io76_0,TT⟩,⟨io75_0,TT⟩,⟨io77_0,TT⟩,⟨io78_0,TT⟩,TT⟩
abbrev Tf32_0:Type 1:=(α:Type)->Int->Int->Int->Int->Int->Int->Int->Rows->Int->Int->Bool->(Nat->Nat->Int->Int->Op α)->Op α
def f32_0g (α:Type)(G b c d e H I:Int)(a:Rows)(g h:Int)(m:Bool)(k1:Nat->Nat->Int->Int->Op α):Op α:=
 f34_0 α G b c d e a g h 0
 (fun i j l J=>f74_0 α J b c d e H I a g h m
 (fun L M N O P Q R T U V W X Y Z a0 a1=>f34_0 α a1 b c d e a g h (w64 (((List.length a:Nat):Int)+1))
 (fun o p q a2=>f76_0 α a2 O P Q o p q
 (fun a3 a4 a5 a6=>f75_0 α a6 L M N a3 a4 a5
 (fun a7 a8 a9 b0=>f76_0 α b0 V W X o p q
 (fun b1 b2 b3 b4=>f75_0 α b4 R T U b1 b2 b3
 (fun r s t b5=>f76_0 α b5 i j l a7 a8 a9
 (fun w z A b6=>f75_0 α b6 w z A r s t
 (fun B C D F=>cK m
 (f75_0 α F i j l i j l
 (fun b7 b8 b9 c0=>f76_0 α c0 b7 b8 b9 Y Z a0
 (fun c1 c2 c3 c4=>f77_0 α c4 c1 c2 c3 B C D
 (fun c5 c6 c7 c8=>k1 c5 c6 c7 c8))))
 (f78_0 α F w z A r s t
 (fun c9 d0 d1 d2=>f77_0 α d2 c9 d0 d1 B C D
 (fun d3 d4 d5 d6=>k1 d3 d4 d5 d6))))))))))))
def f32_0:Tf32_0:=sld f32_0g
def Fn32_0 (v:Tf32_0)(α:Type)(k:RT α):Int->Int->Int->Int->Int->Int->Int->Rows->Int->Int->Bool->Op α:=fun l a b c d e g h i j m=>v α l a b c d e g h i j m (fun o p q r=>ur83_0_0 k o p q r a b c d e g h i j)
def cm32_0:MCode:=(emb ac32)
theorem io32_0:InstOk Pg 32 nt32 ⟨pa74_0,Fn32_0 f32_0⟩:=inst_s eo32_0 followsTry (codeF_is Tryz.func32 (by kernel_rfl)) sh32 cm32_0 (emb_erase _) (emb_good ac32) fun _ _=>by kernel_rfl
abbrev nt12:Nat:=123
def sh12:SG:=[(17,[.int .i64,.int .i64,.int .i64,.int .i64,.int .i64,.int .i64,.sl,.int .i64,.int .i64]),(30,[.sl]),(58,iT),(65,iT),(67,iT),(71,[.cpx .f64,.int .i64]),(80,[.cpx .f64,.int .i64]),(88,iS 2),(90,iS 2),(93,iT),(95,iT),(98,iT),(101,iT),(103,iT),(106,iT),(117,iS 2),(119,iS 2),(122,iS 6)]
def tr12:TG:=[tT 0 [1,2],tT 1 [1,2,4,5],tT 2 [1,2,4,5,22],tT 3 [2,3],tT 4 [1,2,4,6],tT 5 [1,2,4,6,7],tT 6 [2,4,6,7,8],tT 7 [2,4,6,7,8,9,10],tT 8 [2,4,6,7,9,10,12],tT 9 [2,4,6,7,9,10,12,59],tT 10 [2,3],tT 11 [2,4,6,7,9,10,12,68],tT 12 [2,3],tT 13 [2,4,5,7,9,10,12,13],tT 14 [2,4,5,7,9,10,12,13,76],tT 15 [2,3],tT 16 [2,4,5,9,10,12,13,14],tT 17 [2,4,5,9,10,12,13,14,85],tT 18 [2,3],tT 19 [2,4,9,10,12,13,14],tT 20 [2,4,12,15],tT 21 [2,4,15,111],tT 22 [2,4,15],tT 23 [2,15,115],tT 24 [2,15],tT 25 [2,3]]
def ac12:ACode:=codeF Pg Tryz.f12 tr12 tl13
def p12_0_0:PT St:=pS [sP 2,sl 4 (aV false [(cPtr 18 0)]),sY 12 dB,sP 15] [eBox 2 (xs 6),eBox 18 [xI,xI,xI,xI,xI,xI,xI,(cD dL),xI,xI],eBox 15 (xs 6)]
def u12_0_0 {β:Type}(g:St->β):Bool->Int->Int->Int->Int->Int->Int->Int->Int->Int->Int->Int->Int->Int->Rows->I8 β:=p12_0_0.unc g
def p12_0_1:PT St:=pS [sP 2,sl 4 (aV false [(cPtr 18 0)]),sP 15] [eBox 2 (xs 6),eBox 18 [xI,xI,xI,xI,xI,xI,xI,(cD dL),xI,xI],eBox 15 (xs 6)]
def u12_0_1 {β:Type}(g:St->β):Int->Int->Int->Int->Int->Int->Int->Int->Int->Int->Int->Int->Int->Rows->I8 β:=p12_0_1.unc g
def p12_0_2:PT St:=pS [sP 2,sl 4 (aV false [(cPtr 18 0)]),sP 15,sY 111 dB] [eBox 2 (xs 6),eBox 18 [xI,xI,xI,xI,xI,xI,xI,(cD dL),xI,xI],eBox 15 (xs 6)]
def u12_0_2 {β:Type}(g:St->β):Bool->Int->Int->Int->Int->Int->Int->Int->Int->Int->Int->Int->Int->Int->Rows->I8 β:=p12_0_2.unc g
def pr12_0_0:PT (List RV):=pRs [pR true [rD (dI .i64),rD (dI .i64),rD (dI .i64),rD (dI .i64),rD (dI .i64),rD (dI .i64)],wI]
def ur12_0_0 {β:Type}(g:List RV->β):I7 β:=pr12_0_0.unc g
def E12_0:EnvK:=EnvK.ofIO [⟨31,nt31,[⟨pa70_0,Fn31_0 f31_0⟩]⟩,⟨32,nt32,[⟨pa74_0,Fn32_0 f32_0⟩]⟩,⟨34,nt34,[⟨pa82_0,Fn34_0 f34_0⟩]⟩,⟨33,nt33,[⟨pa33_0,Fn33_0 f33_0⟩]⟩,⟨35,nt35,[⟨pa82_0,Fn35_0 f35_0⟩]⟩,⟨36,nt36,[⟨pa86_0,Fn36_0 f36_0⟩]⟩,⟨37,nt37,[⟨pa161_0,Fn37_0 f37_0⟩]⟩,⟨38,nt38,[⟨pa161_0,Fn38_0 f38_0⟩]⟩,⟨39,nt39,[⟨pa19_0,Fn39_0 f39_0⟩]⟩,⟨40,nt40,[⟨pa19_0,Fn40_0 f40_0⟩]⟩,⟨41,nt41,[⟨pa41_0,Fn41_0 f41_0⟩]⟩,⟨42,nt42,[⟨pa42_0,Fn42_0 f42_0⟩]⟩] noSeq [(32,[0]),(33,[0]),(34,[0]),(35,[0]),(41,[0])]
theorem eo12_0:E12_0.Ok Pg:=EnvK.ofIO_ok noSeq_ok ⟨⟨io31_0,TT⟩,⟨io32_0,TT⟩,⟨io34_0,TT⟩,⟨io33_0,TT⟩,⟨io35_0,TT⟩,⟨io36_0,TT⟩,⟨io37_0,TT⟩,⟨io38_0,TT⟩,⟨io39_0,TT⟩,⟨io40_0,TT⟩,⟨io41_0,TT⟩,⟨io42_0,TT⟩,TT⟩
def c12_0_53:MCode:=MCode.sub [1,1,1,1,1,1,1,1,1,1,1,1,1,1,1,1,0] (emb ac12)
abbrev TJ12_0_0:Type 1:=(α:Type)->Bool->(Op α)->(Op α)->Op α
def J12_0_0g (α:Type)(a:Bool)(k1:Op α)(k2:Op α):Op α:=
 cK a
 (k1)
 (k2)
def J12_0_0:TJ12_0_0:=sld J12_0_0g
def F12_0_0 (v:TJ12_0_0)(α:Type)(K:KT α):Bool->Int->Int->Int->Int->Int->Int->Int->Int->Int->Int->Int->Int->Int->Rows->I8 (Op α):=fun a b c d e g h i j l m o p q r s t w z C D A B=>v α a (u12_0_1 (K .normal) b c d e g h i j l m o p q r s t w z 0 0 A B) (u12_0_2 (K .normal) a b c d e g h i j l m o p q r s t w z C D A B)
theorem m12_0_0:∀ (α:Type) (K:KT α),F12_0_0 J12_0_0 α K=p12_0_0.unc fun σ=>runM Pg E12_0 sh12 c12_0_53 K σ:=sld0 (fun α K=>by kernel_rfl)
abbrev Tf12_0:Type 1:=(α:Type)->Int->Int->Int->Int->Int->Int->Rows->Int->Int->(I7 (Op α))->Op α
def f12_0g (α:Type)(b e g j l m:Int)(a:Rows)(c d:Int)(k1:I7 (Op α)):Op α:=
 f31_0 α b e g j l m a c d
 (fun q=>cK (q != 0)
 (k1 0 0 0 0 0 0 q)
 (f32_0 α 0 b e g j l m a c d false
 (fun z A B C=>f32_0 α C b e g j l m a c d true
 (fun D F G H=>f34_0 α H b e g j a c d (w64 (((List.length a:Nat):Int)+1))
 (fun I J L M=>f33_0 α M I J L
 (fun N O b2 b3 P=>f34_0 α P b e g j a c d 0
 (fun Q R T U=>f33_0 α U Q R T
 (fun r V b4 b5 W=>f35_0 α W b e g a c d (w64 (((List.length a:Nat):Int)+1))
 (fun b6 b7 b8 X s=>cK (s != 0)
 (k1 0 0 0 0 0 0 s)
 (cK (decide (r<=0))
 (k1 0 0 0 0 0 0 9)
 (f36_0 α z A B
 (fun Y Z t=>cK (t != 0)
 (k1 0 0 0 0 0 0 t)
 (f36_0 α D F G
 (fun a0 a1 w=>cK (w != 0)
 (k1 0 0 0 0 0 0 w)
 (f37_0 α N O
 (fun a2 a3=>f38_0 α Y Z
 (fun h i=>f39_0 α (w64 (a2*a0)) V
 (fun a4=>f40_0 α (w64 (a3*a1)) r
 (fun a5=>f38_0 α a4 a5
 (fun o p=>J12_0_0 α X
 (f41_0 α b a c d
 (fun a6=>cK a6
 (f42_0 α h i 0 0
 (fun a7 a8=>k1 h i 0 0 a7 a8 0))
 (k1 h i 0 0 0 0 0)))
 (f41_0 α b a c d
 (fun a9=>cK a9
 (f42_0 α h i o p
 (fun b0 b1=>k1 h i o p b0 b1 0))
 (k1 h i o p 0 0 0)))))))))))))))))))))))
def f12_0:Tf12_0:=sld f12_0g
def Fn12_0 (v:Tf12_0)(α:Type)(k:RT α):Int->Int->Int->Int->Int->Int->Rows->Int->Int->Op α:=fun a b c d e g h i j=>v α a b c d e g h i j (fun l m o p q r s=>ur12_0_0 k l m o p q r s)
def cm12_0:MCode:=(MCode.put (.m [⟨p12_0_0,F12_0_0 J12_0_0⟩]) [1,1,1,1,1,1,1,1,1,1,1,1,1,1,1,1] (emb ac12))
theorem io12_0:InstOk Pg 12 nt12 ⟨pa70_0,Fn12_0 f12_0⟩:=inst_s eo12_0 followsTry (codeF_is Tryz.func12 (by kernel_rfl)) sh12 cm12_0 ((put_erase _ _).trans (emb_erase _)) (put_seq (by kernel_rfl) (emb_good ac12) ⟨m12_0_0,TT⟩) fun _ _=>by kernel_rfl
abbrev nt160:Nat:=33
def sh160:SG:=[(10,[.sl,.sl,.int .i64,.int .i64]),(12,iS 9),(13,iS 4),(23,iS 2),(25,iS 2),(27,iS 2),(31,iT)]
def tr160:TG:=[tT 0 [2,3,4],tT 1 [2,4,6,7],tT 2 [2,4,6,7,19],tT 3 [4,5],tT 4 [4,5]]
def ac160:ACode:=codeF Pg Tryz.f160 tr160 tl13
def E160_0:EnvK:=EnvK.of [⟨71,nt71,[⟨pa71_0,Fn71_0 f71_0⟩]⟩,⟨12,nt12,[⟨pa70_0,Fn12_0 f12_0⟩]⟩] noSeq
theorem eo160_0:E160_0.Ok Pg:=EnvK.of_ok noSeq_ok ⟨⟨io71_0,TT⟩,⟨io12_0,TT⟩,TT⟩
abbrev Tf160_0:Type 1:=(α:Type)->Rows->Int->Int->Int->Int->Int->Int->Int->Int->Int->(Int->Int->Int->Op α)->Op α
def f160_0g (α:Type)(c:Rows)(d e a g h i j l m:Int)(k1:Int->Int->Int->Op α):Op α:=
 f71_0 α
 (f12_0 α h l m g i j c d e
 (fun o p q r s t b=>cK (b != 0)
 (k1 0 0 b)
 (cK (a == 2)
 (k1 s t 0)
 (cK (a == 1)
 (k1 q r 0)
 (cK (a == 0)
 (k1 o p 0)
 (none))))))
def f160_0:Tf160_0:=sld f160_0g
def pa160_0:PT (List DV):=pA [pV true [dL,dL,(dI .i64),(dI .i64),(dI .i64),(dI .i64),(dI .i64),(dI .i64),(dI .i64),(dI .i64),(dI .i64),(dI .i64),(dI .i64)],pV true [(dI .i64),(dI .i64),(dI .i64),(dI .i64)]]
def Fn160_0 (v:Tf160_0)(α:Type)(k:RT α):Rows->Rows->I15 (Op α):=fun q a b c d e g r s t w z A h i j l=>v α a b c d e g h i j l (fun m o p=>ur165_0_0 k m o p)
def cm160_0:MCode:=(emb ac160)
theorem io160_0:InstOk Pg 160 nt160 ⟨pa160_0,Fn160_0 f160_0⟩:=inst_s eo160_0 followsTry (codeF_is Tryz.func160 (by kernel_rfl)) sh160 cm160_0 (emb_erase _) (emb_good ac160) fun _ _=>by kernel_rfl
abbrev nt118:Nat:=52
def sh118:SG:=[(12,[.sl,.sl,.int .i64,.int .i64,.int .i64,.int .i64,.int .i64,.int .i64,.int .i64,.int .i64,.int .i64,.int .i64,.int .i64]),(13,iS 4),(18,iT),(21,iT),(25,iT),(29,iT)]
def tr118:TG:=[tT 0 [2,3],tT 1 [2,5,6],tT 2 [6,7,8,9,10],tT 3 [7,8,9,10,31],tT 4 [4],tT 5 [7,8,9,10,34],tT 6 [4],tT 7 [43],tT 8 [4],tT 9 [4]]
def ac118:ACode:=codeF Pg Tryz.f118 tr118 tl13
def p118_0_0:PT St:=pS [sI 7,sI 8,sI 9,sI 10,sY 31 dB] []
def u118_0_0 {β:Type}(g:St->β):Int->Int->Int->Int->Bool->β:=p118_0_0.unc g
def p118_0_1:PT St:=pS [sI 7,sI 8,sI 9,sI 10,sY 34 dB] []
def u118_0_1 {β:Type}(g:St->β):Int->Int->Int->Int->Bool->β:=p118_0_1.unc g
def E118_0:EnvK:=EnvK.of [⟨160,nt160,[⟨pa160_0,Fn160_0 f160_0⟩]⟩] noSeq
theorem eo118_0:E118_0.Ok Pg:=EnvK.of_ok noSeq_ok ⟨⟨io160_0,TT⟩,TT⟩
def c118_0_14:MCode:=MCode.sub [1,1,1,0,0,1,1,0] (emb ac118)
def J118_0_0g (α:Type)(a b c d:Int)(k1:Bool->Op α):Op α:=
 cK (decide (c<=a))
 (k1 (decide (b<=d)))
 (k1 false)
def J118_0_0:Tf159_0:=sld J118_0_0g
def F118_0_0 (v:Tf159_0)(α:Type)(K:KT α):I4 (Bool->Op α):=fun a b c d g=>v α a b c d (fun e=>u118_0_1 (K .normal) a b c d e)
theorem m118_0_0:∀ (α:Type) (K:KT α),F118_0_0 J118_0_0 α K=p118_0_0.unc fun σ=>runM Pg E118_0 sh118 c118_0_14 K σ:=sld0 (fun α K=>by kernel_rfl)
abbrev Tf118_0:Type 1:=(α:Type)->Rows->Int->Int->Int->Int->Int->Int->Int->Int->Int->Int->Int->(Int->Op α)->Op α
def f118_0g (α:Type)(e:Rows)(g h i j l a b m o p q:Int)(k1:Int->Op α):Op α:=
 f160_0 α e g h i j l m o p q
 (fun c d r=>cK (r != 0)
 (k1 1)
 (J118_0_0 α (w64 (c*10000)) (w64 (d*10000)) (w64 (a*1048576)) (w64 (b*1048576))
 (fun s=>cK s
 (k1 2)
 (cK (decide ((w64 (d*10000)) < (w64 (a*1048576))))
 (k1 0)
 (cK (decide ((w64 (b*1048576)) < (w64 (c*10000))))
 (k1 0)
 (k1 1))))))
def f118_0:Tf118_0:=sld f118_0g
def Fn118_0 (v:Tf118_0)(α:Type)(k:RT α):Rows->Rows->I15 (Op α):=fun q a b c d e g r s t w h i j l m o=>v α a b c d e g h i j l m o (fun p=>ur19_0_0 k p)
def cm118_0:MCode:=(MCode.put (.m [⟨p118_0_0,F118_0_0 J118_0_0⟩]) [1,1,1,0,0,1,1] (emb ac118))
theorem io118_0:InstOk Pg 118 nt118 ⟨pa160_0,Fn118_0 f118_0⟩:=inst_s eo118_0 followsTry (codeF_is Tryz.func118 (by kernel_rfl)) sh118 cm118_0 ((put_erase _ _).trans (emb_erase _)) (put_seq (by kernel_rfl) (emb_good ac118) ⟨m118_0_0,TT⟩) fun _ _=>by kernel_rfl
abbrev nt73:Nat:=89
def sh73:SG:=[(14,[.sl,.sl,.int .i64,.int .i64,.int .i64,.int .i64,.int .i64,.int .i64,.int .i64,.int .i64,.int .i64,.int .i64,.int .i64]),(15,iS 4),(22,[.sl]),(28,iS 2),(31,iS 2),(37,[.sl,.sl,.int .i64,.int .i64,.int .i64,.int .i64,.int .i64,.int .i64,.int .i64,.int .i64,.int .i64,.int .i64,.int .i64]),(39,iT),(41,iT),(48,iS 4),(63,[.sl]),(70,iS 4),(77,iS 4),(84,iS 4)]
def tr73:TG:=[tT 0 [0,2,4],tT 1 [0,2,4,17],tT 2 [0],tT 3 [0,6],tT 4 [0,2,4,7],tT 5 [0,2,4,7,44],tT 6 [0],tT 7 [0,6],tT 8 [0,2,4,8],tT 9 [0,2,4,8,55],tT 10 [0],tT 11 [0,6],tT 12 [0,2,4,8],tT 13 [0,2,9],tT 14 [0,6]]
def ac73:ACode:=codeF Pg Tryz.f73 tr73 tl13
def p73_5_0:PT St:=pSv [(0,500000000,0)] [sl 0 (aV false [(cPtr 500000000 0)]),sI 2,sP 4,sI 8] [eBox 500000000 [(cD dL),(cD dL),xI,xI,xI,xI,xI,xI,xI,xI,xI,xI,xI,(cRef 500000014),(cD dNP),(cD dB)],eOwn 500000014 1,eBox 4 (xs 4)]
def u73_5_0 {β:Type}(g:St->β):Int->Int->Rows->Rows->Int->Int->Int->Int->Int->Int->Int->Int->Int->Int->Int->Bool->Rows->I4 β:=p73_5_0.unc g
def p73_5_1:PT St:=pSv [(0,500000000,0)] [sl 0 (aV false [(cPtr 500000000 0)]),sI 2,sP 4,sI 8,sY 55 dB] [eBox 500000000 [(cD dL),(cD dL),xI,xI,xI,xI,xI,xI,xI,xI,xI,xI,xI,(cRef 500000014),(cD dNP),(cD dB)],eOwn 500000014 1,eBox 4 (xs 4)]
def u73_5_1 {β:Type}(g:St->β):Int->Int->Bool->Rows->Rows->Int->Int->Int->Int->Int->Int->Int->Int->Int->Int->Int->Bool->Rows->I4 β:=p73_5_1.unc g
def pr73_5_0:PT (List RV):=pRs [pR false [rD dB],pR true [rD dL,rD dL,rD (dI .i64),rD (dI .i64),rD (dI .i64),rD (dI .i64),rD (dI .i64),rD (dI .i64),rD (dI .i64),rD (dI .i64),rD (dI .i64),rD (dI .i64),rD (dI .i64),rO 1,rD dNP,rD dB]]
def ur73_5_0 {β:Type}(g:List RV->β):Bool->Rows->Rows->Int->Int->Int->Int->Int->Int->Int->Int->Int->Int->Int->Rows->Bool->β:=pr73_5_0.unc g
def pr73_5_1:PT (List RV):=pRs [pR false [rD dB],pR true [rD dL,rD dL,rD (dI .i64),rD (dI .i64),rD (dI .i64),rD (dI .i64),rD (dI .i64),rD (dI .i64),rD (dI .i64),rD (dI .i64),rD (dI .i64),rD (dI .i64),rD (dI .i64),rO 1,rD (dP [(dI .i64),(dI .i64)] 0),rD dB]]
def ur73_5_1 {β:Type}(g:List RV->β):Bool->Rows->Rows->Int->Int->Int->Int->Int->Int->Int->Int->Int->Int->Int->Rows->Int->Int->Bool->β:=pr73_5_1.unc g
def E73_5:EnvK:=EnvK.of [⟨118,nt118,[⟨pa160_0,Fn118_0 f118_0⟩]⟩,⟨119,nt119,[⟨pa161_0,Fn119_0 f119_0⟩]⟩,⟨120,nt120,[⟨pa19_0,Fn120_0 f120_0⟩]⟩,⟨121,nt121,[⟨pa121_0,Fn121_0 f121_0⟩]⟩,⟨122,nt122,[⟨pa122_0,Fn122_0 f122_0⟩]⟩] noSeq
theorem eo73_5:E73_5.Ok Pg:=EnvK.of_ok noSeq_ok ⟨⟨io118_0,TT⟩,⟨io119_0,TT⟩,⟨io120_0,TT⟩,⟨io121_0,TT⟩,⟨io122_0,TT⟩,TT⟩
def c73_5_24:MCode:=MCode.sub [1,1,1,1,0,0] (emb ac73)
def J73_5_0g (α:Type)(a b:Int)(k1:Bool->Op α):Op α:=
 cK (a == 5)
 (k1 true)
 (k1 (b == 0))
def J73_5_0:Tf161_0:=sld J73_5_0g
def F73_5_0 (v:Tf161_0)(α:Type)(K:KT α):Int->Int->Rows->Rows->Int->Int->Int->Int->Int->Int->Int->Int->Int->Int->Int->Bool->Rows->I4 (Op α):=fun a b c d e g h i j l m o p q r s t w z A B=>v α a b (fun C=>u73_5_1 (K .normal) a b C c d e g h i j l m o p q r s t w z A B)
theorem m73_5_0:∀ (α:Type) (K:KT α),F73_5_0 J73_5_0 α K=p73_5_0.unc fun σ=>runM Pg E73_5 sh73 c73_5_24 K σ:=sld0 (fun α K=>by kernel_rfl)
abbrev Tf73_5:Type 1:=(α:Type)->Rows->Int->Int->Int->Int->Int->Int->Int->Rows->Bool->Int->Int->Int->Int->Int->(Rows->Bool->Op α)->(Int->Int->Op α)->Op α
def f73_5g (α:Type)(j:Rows)(l m o p q r s:Int)(a:Rows)(t:Bool)(b c d e w:Int)(k1:Rows->Bool->Op α)(k2:Int->Int->Op α):Op α:=
 f118_0 α j l m o p q r s b c d e
 (fun z=>cK (z == 2)
 (gK (apOk 1 8 a [[DC.v (.int .i64 0)]]) (k1 (a++[[DC.v (.int .i64 0)]]) t))
 (f119_0 α b c
 (fun g=>f119_0 α d e
 (fun h=>f120_0 α
 (f118_0 α j l m o p q r s g g h h
 (fun A=>cK (A == 0)
 (k2 g h)
 (f121_0 α b c d e
 (fun i=>J73_5_0 α w i
 (fun B=>cK B
 (k1 a true)
 (gK (apOk 1 8 a [[DC.v (.int .i64 i)]]) (f122_0 α b c d e i
 (fun C D F G H=>none))))))))))))
def f73_5:Tf73_5:=sld f73_5g
def pa73_5:PT (List DV):=pA [pV false [(dMr [dL,dL,(dI .i64),(dI .i64),(dI .i64),(dI .i64),(dI .i64),(dI .i64),(dI .i64),(dI .i64),(dI .i64),(dI .i64),(dI .i64),(dOs 1),dNP,dB] 0)],pV true [(dI .i64),(dI .i64),(dI .i64),(dI .i64)],vI]
def Fn73_5 (v:Tf73_5)(α:Type)(k:RT α):Rows->Rows->Int->Int->Int->Int->Int->Int->Int->Int->Int->Int->Int->Rows->Bool->I5 (Op α):=fun m a b c d e g o p q r h i s t w z A B C=>v α a b c d e g h i s t w z A B C (fun j l=>ur73_5_0 k true m a b c d e g o p q r h i j l) (fun j l=>ur73_5_1 k false m a b c d e g o p q r h i s j l t)
def cm73_5:MCode:=(MCode.put (.m [⟨p73_5_0,F73_5_0 J73_5_0⟩]) [1,1,1,1,0] (emb ac73))
theorem io73_5:InstOk Pg 73 nt73 ⟨pa73_5,Fn73_5 f73_5⟩:=inst_s eo73_5 followsTry (codeF_is Tryz.func73 (by kernel_rfl)) sh73 cm73_5 ((put_erase _ _).trans (emb_erase _)) (put_seq (by kernel_rfl) (emb_good ac73) ⟨m73_5_0,TT⟩) fun _ _=>by kernel_rfl
def E73_4:EnvK:=EnvK.ofIO [⟨118,nt118,[⟨pa160_0,Fn118_0 f118_0⟩]⟩,⟨119,nt119,[⟨pa161_0,Fn119_0 f119_0⟩]⟩,⟨120,nt120,[⟨pa19_0,Fn120_0 f120_0⟩]⟩,⟨121,nt121,[⟨pa121_0,Fn121_0 f121_0⟩]⟩,⟨122,nt122,[⟨pa122_0,Fn122_0 f122_0⟩]⟩,⟨73,nt73,[⟨pa73_5,Fn73_5 f73_5⟩]⟩] noSeq [(73,[0])]
theorem eo73_4:E73_4.Ok Pg:=EnvK.ofIO_ok noSeq_ok ⟨⟨io118_0,TT⟩,⟨io119_0,TT⟩,⟨io120_0,TT⟩,⟨io121_0,TT⟩,⟨io122_0,TT⟩,⟨io73_5,TT⟩,TT⟩
def c73_4_24:MCode:=MCode.sub [1,1,1,1,0,0] (emb ac73)
def J73_4_0g (α:Type)(a b:Int)(k1:Bool->Op α):Op α:=
 cK (a == 5)
 (k1 true)
 (k1 (b == 0))
def J73_4_0:Tf161_0:=sld J73_4_0g
def F73_4_0 (v:Tf161_0)(α:Type)(K:KT α):Int->Int->Rows->Rows->Int->Int->Int->Int->Int->Int->Int->Int->Int->Int->Int->Bool->Rows->I4 (Op α):=fun a b c d e g h i j l m o p q r s t w z A B=>v α a b (fun C=>u73_5_1 (K .normal) a b C c d e g h i j l m o p q r s t w z A B)
theorem m73_4_0:∀ (α:Type) (K:KT α),F73_4_0 J73_4_0 α K=p73_5_0.unc fun σ=>runM Pg E73_4 sh73 c73_4_24 K σ:=sld0 (fun α K=>by kernel_rfl)
abbrev Tf73_4:Type 1:=(α:Type)->Rows->Int->Int->Int->Int->Int->Int->Int->Rows->Bool->Int->Int->Int->Int->Int->(Rows->Bool->Op α)->(Rows->Int->Int->Bool->Op α)->Op α
def f73_4g (α:Type)(h:Rows)(i j l m o p q:Int)(a:Rows)(r:Bool)(b c d e s:Int)(k1:Rows->Bool->Op α)(k2:Rows->Int->Int->Bool->Op α):Op α:=
 f118_0 α h i j l m o p q b c d e
 (fun B=>cK (B == 2)
 (gK (apOk 1 8 a [[DC.v (.int .i64 0)]]) (k1 (a++[[DC.v (.int .i64 0)]]) r))
 (f119_0 α b c
 (fun t=>f119_0 α d e
 (fun w=>f120_0 α
 (f118_0 α h i j l m o p q t t w w
 (fun C=>cK (C == 0)
 (k2 a t w r)
 (f121_0 α b c d e
 (fun g=>J73_4_0 α s g
 (fun D=>cK D
 (k1 a true)
 (gK (apOk 1 8 a [[DC.v (.int .i64 g)]]) (f122_0 α b c d e g
 (fun F G H I Q=>f73_5 α h i j l m o p q (a++[[DC.v (.int .i64 g)]]) r b F d G (w64 (s+1))
 (fun z A=>f73_5 α h i j l m o p q z A H c I e (w64 (s+1))
 (fun J L=>k1 J L)
 (fun M N=>k2 z M N A))
 (fun O P=>k2 (a++[[DC.v (.int .i64 g)]]) O P r)))))))))))))
def f73_4:Tf73_4:=sld f73_4g
def Fn73_4 (v:Tf73_4)(α:Type)(k:RT α):Rows->Rows->Int->Int->Int->Int->Int->Int->Int->Int->Int->Int->Int->Rows->Bool->I5 (Op α):=fun m a b c d e g o p q r h i s t w z A B C=>v α a b c d e g h i s t w z A B C (fun j l=>ur73_5_0 k true m a b c d e g o p q r h i j l) (fun j l D F=>ur73_5_1 k false m a b c d e g o p q r h i j l D F)
def cm73_4:MCode:=(MCode.put (.m [⟨p73_5_0,F73_4_0 J73_4_0⟩]) [1,1,1,1,0] (emb ac73))
theorem io73_4:InstOk Pg 73 nt73 ⟨pa73_5,Fn73_4 f73_4⟩:=inst_s eo73_4 followsTry (codeF_is Tryz.func73 (by kernel_rfl)) sh73 cm73_4 ((put_erase _ _).trans (emb_erase _)) (put_seq (by kernel_rfl) (emb_good ac73) ⟨m73_4_0,TT⟩) fun _ _=>by kernel_rfl
def E73_3:EnvK:=EnvK.ofIO [⟨118,nt118,[⟨pa160_0,Fn118_0 f118_0⟩]⟩,⟨119,nt119,[⟨pa161_0,Fn119_0 f119_0⟩]⟩,⟨120,nt120,[⟨pa19_0,Fn120_0 f120_0⟩]⟩,⟨121,nt121,[⟨pa121_0,Fn121_0 f121_0⟩]⟩,⟨122,nt122,[⟨pa122_0,Fn122_0 f122_0⟩]⟩,⟨73,nt73,[⟨pa73_5,Fn73_4 f73_4⟩]⟩] noSeq [(73,[0])]
theorem eo73_3:E73_3.Ok Pg:=EnvK.ofIO_ok noSeq_ok ⟨⟨io118_0,TT⟩,⟨io119_0,TT⟩,⟨io120_0,TT⟩,⟨io121_0,TT⟩,⟨io122_0,TT⟩,⟨io73_4,TT⟩,TT⟩
def c73_3_24:MCode:=MCode.sub [1,1,1,1,0,0] (emb ac73)
def J73_3_0g (α:Type)(a b:Int)(k1:Bool->Op α):Op α:=
 cK (a == 5)
 (k1 true)
 (k1 (b == 0))
def J73_3_0:Tf161_0:=sld J73_3_0g
def F73_3_0 (v:Tf161_0)(α:Type)(K:KT α):Int->Int->Rows->Rows->Int->Int->Int->Int->Int->Int->Int->Int->Int->Int->Int->Bool->Rows->I4 (Op α):=fun a b c d e g h i j l m o p q r s t w z A B=>v α a b (fun C=>u73_5_1 (K .normal) a b C c d e g h i j l m o p q r s t w z A B)
theorem m73_3_0:∀ (α:Type) (K:KT α),F73_3_0 J73_3_0 α K=p73_5_0.unc fun σ=>runM Pg E73_3 sh73 c73_3_24 K σ:=sld0 (fun α K=>by kernel_rfl)
def f73_3g (α:Type)(g:Rows)(h i j l m o p:Int)(a:Rows)(r:Bool)(b c d e s:Int)(k1:Rows->Bool->Op α)(k2:Rows->Int->Int->Bool->Op α):Op α:=
 f118_0 α g h i j l m o p b c d e
 (fun z=>cK (z == 2)
 (gK (apOk 1 8 a [[DC.v (.int .i64 0)]]) (k1 (a++[[DC.v (.int .i64 0)]]) r))
 (f119_0 α b c
 (fun t=>f119_0 α d e
 (fun w=>f120_0 α
 (f118_0 α g h i j l m o p t t w w
 (fun A=>cK (A == 0)
 (k2 a t w r)
 (f121_0 α b c d e
 (fun q=>J73_3_0 α s q
 (fun B=>cK B
 (k1 a true)
 (gK (apOk 1 8 a [[DC.v (.int .i64 q)]]) (f122_0 α b c d e q
 (fun C D F G V=>f73_4 α g h i j l m o p (a++[[DC.v (.int .i64 q)]]) r b C d D (w64 (s+1))
 (fun H I=>f73_4 α g h i j l m o p H I F c G e (w64 (s+1))
 (fun J L=>k1 J L)
 (fun M N O P=>k2 M N O P))
 (fun Q R T U=>k2 Q R T U)))))))))))))
def f73_3:Tf73_4:=sld f73_3g
def Fn73_3 (v:Tf73_4)(α:Type)(k:RT α):Rows->Rows->Int->Int->Int->Int->Int->Int->Int->Int->Int->Int->Int->Rows->Bool->I5 (Op α):=fun m a b c d e g o p q r h i s t w z A B C=>v α a b c d e g h i s t w z A B C (fun j l=>ur73_5_0 k true m a b c d e g o p q r h i j l) (fun j l D F=>ur73_5_1 k false m a b c d e g o p q r h i j l D F)
def cm73_3:MCode:=(MCode.put (.m [⟨p73_5_0,F73_3_0 J73_3_0⟩]) [1,1,1,1,0] (emb ac73))
theorem io73_3:InstOk Pg 73 nt73 ⟨pa73_5,Fn73_3 f73_3⟩:=inst_s eo73_3 followsTry (codeF_is Tryz.func73 (by kernel_rfl)) sh73 cm73_3 ((put_erase _ _).trans (emb_erase _)) (put_seq (by kernel_rfl) (emb_good ac73) ⟨m73_3_0,TT⟩) fun _ _=>by kernel_rfl
def E73_2:EnvK:=EnvK.ofIO [⟨118,nt118,[⟨pa160_0,Fn118_0 f118_0⟩]⟩,⟨119,nt119,[⟨pa161_0,Fn119_0 f119_0⟩]⟩,⟨120,nt120,[⟨pa19_0,Fn120_0 f120_0⟩]⟩,⟨121,nt121,[⟨pa121_0,Fn121_0 f121_0⟩]⟩,⟨122,nt122,[⟨pa122_0,Fn122_0 f122_0⟩]⟩,⟨73,nt73,[⟨pa73_5,Fn73_3 f73_3⟩]⟩] noSeq [(73,[0])]
theorem eo73_2:E73_2.Ok Pg:=EnvK.ofIO_ok noSeq_ok ⟨⟨io118_0,TT⟩,⟨io119_0,TT⟩,⟨io120_0,TT⟩,⟨io121_0,TT⟩,⟨io122_0,TT⟩,⟨io73_3,TT⟩,TT⟩
def c73_2_24:MCode:=MCode.sub [1,1,1,1,0,0] (emb ac73)
def J73_2_0g (α:Type)(a b:Int)(k1:Bool->Op α):Op α:=
 cK (a == 5)
 (k1 true)
 (k1 (b == 0))
def J73_2_0:Tf161_0:=sld J73_2_0g
def F73_2_0 (v:Tf161_0)(α:Type)(K:KT α):Int->Int->Rows->Rows->Int->Int->Int->Int->Int->Int->Int->Int->Int->Int->Int->Bool->Rows->I4 (Op α):=fun a b c d e g h i j l m o p q r s t w z A B=>v α a b (fun C=>u73_5_1 (K .normal) a b C c d e g h i j l m o p q r s t w z A B)
theorem m73_2_0:∀ (α:Type) (K:KT α),F73_2_0 J73_2_0 α K=p73_5_0.unc fun σ=>runM Pg E73_2 sh73 c73_2_24 K σ:=sld0 (fun α K=>by kernel_rfl)
def f73_2g (α:Type)(g:Rows)(h i j l m o p:Int)(a:Rows)(r:Bool)(b c d e s:Int)(k1:Rows->Bool->Op α)(k2:Rows->Int->Int->Bool->Op α):Op α:=
 f118_0 α g h i j l m o p b c d e
 (fun z=>cK (z == 2)
 (gK (apOk 1 8 a [[DC.v (.int .i64 0)]]) (k1 (a++[[DC.v (.int .i64 0)]]) r))
 (f119_0 α b c
 (fun t=>f119_0 α d e
 (fun w=>f120_0 α
 (f118_0 α g h i j l m o p t t w w
 (fun A=>cK (A == 0)
 (k2 a t w r)
 (f121_0 α b c d e
 (fun q=>J73_2_0 α s q
 (fun B=>cK B
 (k1 a true)
 (gK (apOk 1 8 a [[DC.v (.int .i64 q)]]) (f122_0 α b c d e q
 (fun C D F G V=>f73_3 α g h i j l m o p (a++[[DC.v (.int .i64 q)]]) r b C d D (w64 (s+1))
 (fun H I=>f73_3 α g h i j l m o p H I F c G e (w64 (s+1))
 (fun J L=>k1 J L)
 (fun M N O P=>k2 M N O P))
 (fun Q R T U=>k2 Q R T U)))))))))))))
def f73_2:Tf73_4:=sld f73_2g
def Fn73_2 (v:Tf73_4)(α:Type)(k:RT α):Rows->Rows->Int->Int->Int->Int->Int->Int->Int->Int->Int->Int->Int->Rows->Bool->I5 (Op α):=fun m a b c d e g o p q r h i s t w z A B C=>v α a b c d e g h i s t w z A B C (fun j l=>ur73_5_0 k true m a b c d e g o p q r h i j l) (fun j l D F=>ur73_5_1 k false m a b c d e g o p q r h i j l D F)
def cm73_2:MCode:=(MCode.put (.m [⟨p73_5_0,F73_2_0 J73_2_0⟩]) [1,1,1,1,0] (emb ac73))
theorem io73_2:InstOk Pg 73 nt73 ⟨pa73_5,Fn73_2 f73_2⟩:=inst_s eo73_2 followsTry (codeF_is Tryz.func73 (by kernel_rfl)) sh73 cm73_2 ((put_erase _ _).trans (emb_erase _)) (put_seq (by kernel_rfl) (emb_good ac73) ⟨m73_2_0,TT⟩) fun _ _=>by kernel_rfl
def E73_1:EnvK:=EnvK.ofIO [⟨118,nt118,[⟨pa160_0,Fn118_0 f118_0⟩]⟩,⟨119,nt119,[⟨pa161_0,Fn119_0 f119_0⟩]⟩,⟨120,nt120,[⟨pa19_0,Fn120_0 f120_0⟩]⟩,⟨121,nt121,[⟨pa121_0,Fn121_0 f121_0⟩]⟩,⟨122,nt122,[⟨pa122_0,Fn122_0 f122_0⟩]⟩,⟨73,nt73,[⟨pa73_5,Fn73_2 f73_2⟩]⟩] noSeq [(73,[0])]
theorem eo73_1:E73_1.Ok Pg:=EnvK.ofIO_ok noSeq_ok ⟨⟨io118_0,TT⟩,⟨io119_0,TT⟩,⟨io120_0,TT⟩,⟨io121_0,TT⟩,⟨io122_0,TT⟩,⟨io73_2,TT⟩,TT⟩
def c73_1_24:MCode:=MCode.sub [1,1,1,1,0,0] (emb ac73)
def J73_1_0g (α:Type)(a b:Int)(k1:Bool->Op α):Op α:=
 cK (a == 5)
 (k1 true)
 (k1 (b == 0))
def J73_1_0:Tf161_0:=sld J73_1_0g
def F73_1_0 (v:Tf161_0)(α:Type)(K:KT α):Int->Int->Rows->Rows->Int->Int->Int->Int->Int->Int->Int->Int->Int->Int->Int->Bool->Rows->I4 (Op α):=fun a b c d e g h i j l m o p q r s t w z A B=>v α a b (fun C=>u73_5_1 (K .normal) a b C c d e g h i j l m o p q r s t w z A B)
theorem m73_1_0:∀ (α:Type) (K:KT α),F73_1_0 J73_1_0 α K=p73_5_0.unc fun σ=>runM Pg E73_1 sh73 c73_1_24 K σ:=sld0 (fun α K=>by kernel_rfl)
def f73_1g (α:Type)(g:Rows)(h i j l m o p:Int)(a:Rows)(r:Bool)(b c d e s:Int)(k1:Rows->Bool->Op α)(k2:Rows->Int->Int->Bool->Op α):Op α:=
 f118_0 α g h i j l m o p b c d e
 (fun z=>cK (z == 2)
 (gK (apOk 1 8 a [[DC.v (.int .i64 0)]]) (k1 (a++[[DC.v (.int .i64 0)]]) r))
 (f119_0 α b c
 (fun t=>f119_0 α d e
 (fun w=>f120_0 α
 (f118_0 α g h i j l m o p t t w w
 (fun A=>cK (A == 0)
 (k2 a t w r)
 (f121_0 α b c d e
 (fun q=>J73_1_0 α s q
 (fun B=>cK B
 (k1 a true)
 (gK (apOk 1 8 a [[DC.v (.int .i64 q)]]) (f122_0 α b c d e q
 (fun C D F G V=>f73_2 α g h i j l m o p (a++[[DC.v (.int .i64 q)]]) r b C d D (w64 (s+1))
 (fun H I=>f73_2 α g h i j l m o p H I F c G e (w64 (s+1))
 (fun J L=>k1 J L)
 (fun M N O P=>k2 M N O P))
 (fun Q R T U=>k2 Q R T U)))))))))))))
def f73_1:Tf73_4:=sld f73_1g
def Fn73_1 (v:Tf73_4)(α:Type)(k:RT α):Rows->Rows->Int->Int->Int->Int->Int->Int->Int->Int->Int->Int->Int->Rows->Bool->I5 (Op α):=fun m a b c d e g o p q r h i s t w z A B C=>v α a b c d e g h i s t w z A B C (fun j l=>ur73_5_0 k true m a b c d e g o p q r h i j l) (fun j l D F=>ur73_5_1 k false m a b c d e g o p q r h i j l D F)
def cm73_1:MCode:=(MCode.put (.m [⟨p73_5_0,F73_1_0 J73_1_0⟩]) [1,1,1,1,0] (emb ac73))
theorem io73_1:InstOk Pg 73 nt73 ⟨pa73_5,Fn73_1 f73_1⟩:=inst_s eo73_1 followsTry (codeF_is Tryz.func73 (by kernel_rfl)) sh73 cm73_1 ((put_erase _ _).trans (emb_erase _)) (put_seq (by kernel_rfl) (emb_good ac73) ⟨m73_1_0,TT⟩) fun _ _=>by kernel_rfl
def p73_0_0:PT St:=pSv [(0,500000000,0)] [sl 0 (aV false [(cPtr 500000000 0)]),sI 2,sP 4,sI 8] [eBox 500000000 [(cD dL),(cD dL),xI,xI,xI,xI,xI,xI,xI,xI,xI,xI,xI,cNil,(cD dNP),(cD dB)],eBox 4 (xs 4)]
def u73_0_0 {β:Type}(g:St->β):Int->Int->Rows->Rows->Int->Int->Int->Int->Int->Int->Int->Int->Int->Int->Int->Bool->I4 β:=p73_0_0.unc g
def p73_0_1:PT St:=pSv [(0,500000000,0)] [sl 0 (aV false [(cPtr 500000000 0)]),sI 2,sP 4,sI 8,sY 55 dB] [eBox 500000000 [(cD dL),(cD dL),xI,xI,xI,xI,xI,xI,xI,xI,xI,xI,xI,cNil,(cD dNP),(cD dB)],eBox 4 (xs 4)]
def u73_0_1 {β:Type}(g:St->β):Int->Int->Bool->Rows->Rows->Int->Int->Int->Int->Int->Int->Int->Int->Int->Int->Int->Bool->I4 β:=p73_0_1.unc g
def pr73_0_1:PT (List RV):=pRs [pR false [rD dB],pR true [rD dL,rD dL,rD (dI .i64),rD (dI .i64),rD (dI .i64),rD (dI .i64),rD (dI .i64),rD (dI .i64),rD (dI .i64),rD (dI .i64),rD (dI .i64),rD (dI .i64),rD (dI .i64),rD dL,rD (dP [(dI .i64),(dI .i64)] 0),rD dB]]
def ur73_0_1 {β:Type}(g:List RV->β):Bool->Rows->Rows->Int->Int->Int->Int->Int->Int->Int->Int->Int->Int->Int->Rows->Int->Int->Bool->β:=pr73_0_1.unc g
def pr73_0_2:PT (List RV):=pRs [pR false [rD dB],pR true [rD dL,rD dL,rD (dI .i64),rD (dI .i64),rD (dI .i64),rD (dI .i64),rD (dI .i64),rD (dI .i64),rD (dI .i64),rD (dI .i64),rD (dI .i64),rD (dI .i64),rD (dI .i64),rD dL,rD dNP,rD dB]]
def ur73_0_2 {β:Type}(g:List RV->β):Bool->Rows->Rows->Int->Int->Int->Int->Int->Int->Int->Int->Int->Int->Int->Rows->Bool->β:=pr73_0_2.unc g
def E73_0:EnvK:=EnvK.ofIO [⟨118,nt118,[⟨pa160_0,Fn118_0 f118_0⟩]⟩,⟨119,nt119,[⟨pa161_0,Fn119_0 f119_0⟩]⟩,⟨120,nt120,[⟨pa19_0,Fn120_0 f120_0⟩]⟩,⟨121,nt121,[⟨pa121_0,Fn121_0 f121_0⟩]⟩,⟨122,nt122,[⟨pa122_0,Fn122_0 f122_0⟩]⟩,⟨73,nt73,[⟨pa73_5,Fn73_1 f73_1⟩]⟩] noSeq [(73,[0])]
theorem eo73_0:E73_0.Ok Pg:=EnvK.ofIO_ok noSeq_ok ⟨⟨io118_0,TT⟩,⟨io119_0,TT⟩,⟨io120_0,TT⟩,⟨io121_0,TT⟩,⟨io122_0,TT⟩,⟨io73_1,TT⟩,TT⟩
def c73_0_24:MCode:=MCode.sub [1,1,1,1,0,0] (emb ac73)
def J73_0_0g (α:Type)(a b:Int)(k1:Bool->Op α):Op α:=
 cK (a == 5)
 (k1 true)
 (k1 (b == 0))
def J73_0_0:Tf161_0:=sld J73_0_0g
def F73_0_0 (v:Tf161_0)(α:Type)(K:KT α):Int->Int->Rows->Rows->Int->Int->Int->Int->Int->Int->Int->Int->Int->Int->Int->Bool->I4 (Op α):=fun a b c d e g h i j l m o p q r s t w z A=>v α a b (fun B=>u73_0_1 (K .normal) a b B c d e g h i j l m o p q r s t w z A)
theorem m73_0_0:∀ (α:Type) (K:KT α),F73_0_0 J73_0_0 α K=p73_0_0.unc fun σ=>runM Pg E73_0 sh73 c73_0_24 K σ:=sld0 (fun α K=>by kernel_rfl)
abbrev Tf73_0:Type 1:=(α:Type)->Rows->Int->Int->Int->Int->Int->Int->Int->Bool->Int->Int->Int->Int->Int->(Rows->Bool->Op α)->(Int->Int->Op α)->(Op α)->(Rows->Int->Int->Bool->Op α)->Op α
def f73_0g (α:Type)(e:Rows)(g h i j l m o:Int)(t:Bool)(a b c d p:Int)(k1:Rows->Bool->Op α)(k2:Int->Int->Op α)(k3:Op α)(k4:Rows->Int->Int->Bool->Op α):Op α:=
 f118_0 α e g h i j l m o a b c d
 (fun w=>cK (w == 2)
 (k1 [[DC.v (.int .i64 0)]] t)
 (f119_0 α a b
 (fun q=>f119_0 α c d
 (fun r=>f120_0 α
 (f118_0 α e g h i j l m o q q r r
 (fun z=>cK (z == 0)
 (k2 q r)
 (f121_0 α a b c d
 (fun s=>J73_0_0 α p s
 (fun A=>cK A
 (k3)
 (f122_0 α a b c d s
 (fun B C D F U=>f73_1 α e g h i j l m o [[DC.v (.int .i64 s)]] t a B c C (w64 (p+1))
 (fun G H=>f73_1 α e g h i j l m o G H D b F d (w64 (p+1))
 (fun I J=>k1 I J)
 (fun L M N O=>k4 L M N O))
 (fun P Q R T=>k4 P Q R T))))))))))))
def f73_0:Tf73_0:=sld f73_0g
def pa73_0:PT (List DV):=pA [pV false [(dMr [dL,dL,(dI .i64),(dI .i64),(dI .i64),(dI .i64),(dI .i64),(dI .i64),(dI .i64),(dI .i64),(dI .i64),(dI .i64),(dI .i64),dON,dNP,dB] 0)],pV true [(dI .i64),(dI .i64),(dI .i64),(dI .i64)],vI]
def Fn73_0 (v:Tf73_0)(α:Type)(k:RT α):Rows->Rows->Int->Int->Int->Int->Int->Int->Int->Int->Int->Int->Int->Bool->I5 (Op α):=fun m a b c d e g o p q r h i s t w z A B=>v α a b c d e g h i s t w z A B (fun j l=>ur73_5_0 k true m a b c d e g o p q r h i j l) (fun j l=>ur73_0_1 k false m a b c d e g o p q r h i ([]:Rows) j l s) (ur73_0_2 k true m a b c d e g o p q r h i ([]:Rows) true) (fun j l C D=>ur73_5_1 k false m a b c d e g o p q r h i j l C D)
def cm73_0:MCode:=(MCode.put (.m [⟨p73_0_0,F73_0_0 J73_0_0⟩]) [1,1,1,1,0] (emb ac73))
theorem io73_0:InstOk Pg 73 nt73 ⟨pa73_0,Fn73_0 f73_0⟩:=inst_s eo73_0 followsTry (codeF_is Tryz.func73 (by kernel_rfl)) sh73 cm73_0 ((put_erase _ _).trans (emb_erase _)) (put_seq (by kernel_rfl) (emb_good ac73) ⟨m73_0_0,TT⟩) fun _ _=>by kernel_rfl
abbrev nt30:Nat:=65
def sh30:SG:=[(11,[.sl]),(16,iS 9),(17,iS 9),(18,[.sl,.sl,.int .i64,.int .i64]),(19,iS 9),(24,iS 9),(39,iT),(46,iT),(51,[.bool]),(56,[.sl])]
def tr30:TG:=[tT 0 [1,4],tT 1 [1,4,5],tT 2 [1,4,5,6],tT 3 [1,4,5,6,11,12,13],tT 4 [1,4,5,6,11,12,13,14],tT 5 [1,4,5,6,7,8,11,12,13],tT 6 [1,4,5,6,7,8,9,11,12,13],tT 7 [1,4,5,6,7,9,11,12,13],tT 8 [1,4,5,6,7,9,11,12,13,31],(9,⟨[2,3,4],true,[],[3]⟩),tT 10 [1,4,5,6,9,11,12,13,51],tT 11 [1,4,5,6,9,11,12,13],tT 12 [1,4,5,6,11,12,13],tT 13 [1,4,5,6,11,12,13],tT 14 [4,5,6,61],tT 15 [4,5,6],(16,⟨[2,3,4],true,[],[3]⟩)]
def tl30:TG:=[(4,⟨[1,4,5,6,11,12,13],true,[⟨false,5,0,20005,1⟩,⟨false,11,0,20011,9⟩,⟨true,1,0,30100,9⟩,⟨true,1,1,30101,5⟩,⟨true,22,0,32200,9⟩,⟨true,22,1,32201,5⟩,⟨true,22,13,32213,1⟩],[]⟩)]
def ac30:ACode:=codeF Pg Tryz.f30 tr30 tl30
def td30_11:OT:=tdC (MCode.sub [1,1,1,0,1,0] (emb ac30))
def p30_0_0:PT St:=pS [sP 1,sP 4,sl 5 (aV false [(cRef 20005)]),sI 6,sI 7,sP 8,sl 9 (aV false [(cPtr 22 0)]),sY 11 dL,sI 12,sI 13] [eBox 1 [(cD dL),(cD dL),xI,xI],eBox 4 (xs 3),eOwn 20005 1,eBox 8 (xs 9),eBox 22 [(cD dL),(cD dL),xI,xI,xI,xI,xI,xI,xI,xI,xI,xI,xI,cNil,(cD dNP),(cD dB)]]
def u30_0_0 {β:Type}(g:St->β):Int->Int->Rows->Int->Int->Rows->Rows->Int->Int->Int->Int->Int->Rows->Int->Int->Int->Int->Int->Int->Int->Int->Int->Rows->Rows->Int->Int->Int->Int->Int->Int->Int->Int->Int->Int->Int->Bool->β:=p30_0_0.unc g
def p30_0_1:PT St:=pS [sP 1,sP 4,sl 5 (aV false [(cRef 20005)]),sI 6,sI 7,sl 9 (aV false [(cPtr 22 0)]),sY 11 dL,sI 12,sI 13] [eBox 1 [(cD dL),(cD dL),xI,xI],eBox 4 (xs 3),eOwn 20005 1,eBox 22 [(cD dL),(cD dL),xI,xI,xI,xI,xI,xI,xI,xI,xI,xI,xI,(cRef 770026),(cD dNP),(cD dB)],eOwn 770026 1]
def u30_0_1 {β:Type}(g:St->β):Int->Int->Rows->Int->Int->Rows->Rows->Int->Int->Int->Int->Int->Rows->Rows->Rows->Int->Int->Int->Int->Int->Int->Int->Int->Int->Int->Int->Bool->Rows->β:=p30_0_1.unc g
def p30_0_2:PT St:=pS [sP 1,sP 4,sl 5 (aV false [(cRef 20005)]),sI 6,sI 7,sl 9 (aV false [(cPtr 22 0)]),sY 11 dL,sI 12,sI 13] [eBox 1 [(cD dL),(cD dL),xI,xI],eBox 4 (xs 3),eOwn 20005 1,eBox 22 [(cD dL),(cD dL),xI,xI,xI,xI,xI,xI,xI,xI,xI,xI,xI,(cD dL),(cD (dP [(dI .i64),(dI .i64)] 0)),(cD dB)]]
def u30_0_2 {β:Type}(g:St->β):Int->Int->Rows->Int->Int->Rows->Rows->Int->Int->Int->Int->Int->Rows->Rows->Rows->Int->Int->Int->Int->Int->Int->Int->Int->Int->Int->Int->Rows->Int->Int->Bool->β:=p30_0_2.unc g
def p30_0_3:PT St:=pS [sP 1,sP 4,sl 5 (aV false [(cRef 20005)]),sI 6,sI 7,sl 9 (aV false [(cPtr 22 0)]),sY 11 dL,sI 12,sI 13] [eBox 1 [(cD dL),(cD dL),xI,xI],eBox 4 (xs 3),eOwn 20005 1,eBox 22 [(cD dL),(cD dL),xI,xI,xI,xI,xI,xI,xI,xI,xI,xI,xI,(cD dL),(cD dNP),(cD dB)]]
def u30_0_3 {β:Type}(g:St->β):Int->Int->Rows->Int->Int->Rows->Rows->Int->Int->Int->Int->Int->Rows->Rows->Rows->Int->Int->Int->Int->Int->Int->Int->Int->Int->Int->Int->Rows->Bool->β:=p30_0_3.unc g
def p30_0_4:PT St:=pS [sP 1,sP 4,sl 5 (aV false [(cRef 20005)]),sI 6,sI 7,sl 9 (aV false [(cPtr 22 0)]),sY 11 dL,sI 12,sI 13] [eBox 1 [(cD dL),(cD dL),xI,xI],eBox 4 (xs 3),eOwn 20005 1,eBox 22 [(cD dL),(cD dL),xI,xI,xI,xI,xI,xI,xI,xI,xI,xI,xI,(cRef 770026),(cD (dP [(dI .i64),(dI .i64)] 0)),(cD dB)],eOwn 770026 1]
def u30_0_4 {β:Type}(g:St->β):Int->Int->Rows->Int->Int->Rows->Rows->Int->Int->Int->Int->Int->Rows->Rows->Rows->Int->Int->Int->Int->Int->Int->Int->Int->Int->Int->Int->Int->Int->Bool->Rows->β:=p30_0_4.unc g
def p30_0_5:PT St:=pS [sP 1,sP 4,sl 5 (aV false [(cRef 20005)]),sI 6,sI 7,sl 9 (aV false [(cPtr 22 0)]),sY 11 dL,sI 12,sI 13,sY 31 dB] [eBox 1 [(cD dL),(cD dL),xI,xI],eBox 4 (xs 3),eOwn 20005 1,eBox 22 [(cD dL),(cD dL),xI,xI,xI,xI,xI,xI,xI,xI,xI,xI,xI,(cRef 770026),(cD dNP),(cD dB)],eOwn 770026 1]
def u30_0_5 {β:Type}(g:St->β):Int->Int->Rows->Int->Int->Bool->Rows->Rows->Int->Int->Int->Int->Int->Rows->Rows->Rows->Int->Int->Int->Int->Int->Int->Int->Int->Int->Int->Int->Bool->Rows->β:=p30_0_5.unc g
def p30_0_6:PT St:=pS [sP 1,sP 4,sl 5 (aV false [(cRef 20005)]),sI 6,sl 9 (aV false [(cPtr 22 0)]),sY 11 dL,sI 12,sI 13] [eBox 1 [(cD dL),(cD dL),xI,xI],eBox 4 (xs 3),eOwn 20005 1,eBox 22 [(cD dL),(cD dL),xI,xI,xI,xI,xI,xI,xI,xI,xI,xI,xI,(cRef 770026),(cD dNP),(cD dB)],eOwn 770026 1]
def u30_0_6 {β:Type}(g:St->β):Int->Rows->Int->Int->Rows->Rows->Int->Int->Int->Int->Int->Rows->Rows->Rows->Int->Int->Int->Int->Int->Int->Int->Int->Int->Int->Int->Bool->Rows->β:=p30_0_6.unc g
def p30_0_7:PT St:=pS [sP 1,sP 4,sl 5 (aV false [(cRef 20005)]),sI 6,sl 9 (aV false [(cPtr 22 0)]),sY 11 dL,sI 12,sI 13,sY 51 dB] [eBox 1 [(cD dL),(cD dL),xI,xI],eBox 4 (xs 3),eOwn 20005 1,eBox 22 [(cD dL),(cD dL),xI,xI,xI,xI,xI,xI,xI,xI,xI,xI,xI,(cRef 770026),(cD dNP),(cD dB)],eOwn 770026 1]
def u30_0_7 {β:Type}(g:St->β):Int->Rows->Int->Int->Bool->Rows->Rows->Int->Int->Int->Int->Int->Rows->Rows->Rows->Int->Int->Int->Int->Int->Int->Int->Int->Int->Int->Int->Bool->Rows->β:=p30_0_7.unc g
def p30_0_8:PT St:=pS [sP 1,sP 4,sl 5 (aV false [(cRef 20005)]),sI 6,sY 11 dL,sI 12,sI 13] [eBox 1 [(cD dL),(cD dL),xI,xI],eBox 4 (xs 3),eOwn 20005 1]
def u30_0_8 {β:Type}(g:St->β):Int->Rows->Int->Int->Rows->Rows->Int->Int->Int->Int->Int->Rows->β:=p30_0_8.unc g
def p30_0_9:PT St:=pS [sI 2,sY 3 dL,sP 4] [eBox 4 (xs 3)]
def u30_0_9 {β:Type}(g:St->β):Int->Rows->Int->Int->Int->β:=p30_0_9.unc g
def p30_0_10:PT St:=pS [sP 1,sP 4,sl 5 (aV false [(cRef 20005)]),sI 6,sY 11 dL,sI 12,sI 13,sY 14 dB] [eBox 1 [(cD dL),(cD dL),xI,xI],eBox 4 (xs 3),eOwn 20005 1]
def u30_0_10 {β:Type}(g:St->β):Int->Rows->Int->Int->Bool->Rows->Rows->Int->Int->Int->Int->Int->Rows->β:=p30_0_10.unc g
def pr30_0_0:PT (List RV):=pRs [wI,pR false [rD dL],pR true [rD (dI .i64),rD (dI .i64),rD (dI .i64)]]
def ur30_0_0 {β:Type}(g:List RV->β):Int->Rows->Int->Int->Int->β:=pr30_0_0.unc g
def E30_0:EnvK:=EnvK.ofIO [⟨72,nt72,[⟨pa72_0,Fn72_0 f72_0⟩]⟩,⟨73,nt73,[⟨pa73_0,Fn73_0 f73_0⟩]⟩] noSeq [(73,[0])]
theorem eo30_0:E30_0.Ok Pg:=EnvK.ofIO_ok noSeq_ok ⟨⟨io72_0,TT⟩,⟨io73_0,TT⟩,TT⟩
def c30_0_30:MCode:=MCode.sub [1,1,1,0,1,0,0,1,1,0,0,1,1,1,1,0] (emb ac30)
def J30_0_1g (α:Type)(a:Bool)(k1:Op α)(k2:Op α):Op α:=
 cK a
 (k1)
 (k2)
def J30_0_1:TJ12_0_0:=sld J30_0_1g
def F30_0_1 (v:TJ12_0_0)(α:Type)(K:KT α):Int->Int->Rows->Int->Int->Bool->Rows->Rows->Int->Int->Int->Int->Int->Rows->Rows->Rows->Int->Int->Int->Int->Int->Int->Int->Int->Int->Int->Int->Bool->Rows->Op α:=fun I J b c d L e g h i j l m o p q r s t w z A B C D F G a H=>v α a (u30_0_6 (K .normal) 1 b c d e g h i j l m o p q r s t w z A B C D F G a H) (u30_0_7 (K .normal) I b c d a e g h i j l m o p q r s t w z A B C D F G a H)
theorem m30_0_1:∀ (α:Type) (K:KT α),F30_0_1 J30_0_1 α K=p30_0_5.unc fun σ=>runM Pg E30_0 sh30 c30_0_30 K σ:=sld0 (fun α K=>by kernel_rfl)
def c30_0_22:MCode:=MCode.sub [1,1,1,0,1,0,0,1,1,0,0,1,1,0] (emb ac30)
abbrev TJ30_0_0:Type 1:=(α:Type)->Int->Int->Int->Int->Rows->Int->Int->Int->Int->Int->Int->Int->Bool->(Bool->Rows->Op α)->(Int->Int->Op α)->(Op α)->(Int->Int->Bool->Rows->Op α)->Op α
def J30_0_0g (α:Type)(a b c d:Int)(e:Rows)(g h i j l m o:Int)(p:Bool)(k1:Bool->Rows->Op α)(k2:Int->Int->Op α)(k3:Op α)(k4:Int->Int->Bool->Rows->Op α):Op α:=
 f72_0 α
 (f73_0 α e g h i j l m o p c d a b 0
 (fun q r=>k1 r q)
 (fun s t=>k2 s t)
 (k3)
 (fun w z A B=>k4 z A B w))
def J30_0_0:TJ30_0_0:=sld J30_0_0g
def F30_0_0 (v:TJ30_0_0)(α:Type)(K:KT α):Int->Int->Rows->Int->Int->Rows->Rows->Int->Int->Int->Int->Int->Rows->Int->Int->Int->Int->Int->Int->Int->Int->Int->Rows->Rows->I11 (Bool->Op α):=fun m o p q r s t w z A B C D T U V M N O P W X F a b c d e g G H I J h i L=>v α M N O P a b c d e g h i L (fun j l=>u30_0_1 (K .normal) m o p q r s t w z A B C D F a b c d e g G H I J h i j l) (fun j l=>u30_0_2 (K .normal) m o p q r s t w z A B C D F a b c d e g G H I J h i ([]:Rows) j l L) (u30_0_3 (K .normal) m o p q r s t w z A B C D F a b c d e g G H I J h i ([]:Rows) true) (fun j l Q R=>u30_0_4 (K .normal) m o p q r s t w z A B C D F a b c d e g G H I J h i j l Q R)
theorem m30_0_0:∀ (α:Type) (K:KT α),F30_0_0 J30_0_0 α K=p30_0_0.unc fun σ=>runM Pg E30_0 sh30 c30_0_22 K σ:=sld0 (fun α K=>by kernel_rfl)
def c30_0_11:MCode:=MCode.sub [1,1,1,0,1,0,0] (MCode.put (.m [⟨p30_0_0,F30_0_0 J30_0_0⟩]) [1,1,1,0,1,0,0,1,1,0,0,1,1] (MCode.put (.m [⟨p30_0_5,F30_0_1 J30_0_1⟩]) [1,1,1,0,1,0,0,1,1,0,0,1,1,1,1] (emb ac30)))
def S30_0_2 (α:Type)(g:Rows)(d:Int)(h:Rows)(i j e a:Int)(b:Rows)(kn:Int->Int->Rows->Op α)(k1:Int->Int->Int->Op α)(k2:Int->Int->Bool->Rows->Op α):Op α:=
 cK (decide (a < d))
 (rowK g a [.int .i64,.int .i64,.int .i64,.int .i64,.int .i64,.int .i64,.int .i64,.int .i64,.int .i64]
 (fun l m o p q r s t w=>J30_0_0 α p q r s h i j l m o t w false
 (fun z c=>J30_0_1 α z
 (gK (apOk 1 24 b [[DC.sl c]]) (kn 1 (w64 (a+1)) (b++[[DC.sl c]])))
 (gK (apOk 1 24 b [[DC.sl c]]) (kn e (w64 (a+1)) (b++[[DC.sl c]]))))
 (fun A B=>k1 a A B)
 (gK (apOk 1 24 b [[DC.sl ([]:Rows)]]) (kn 1 (w64 (a+1)) (b++[[DC.sl ([]:Rows)]])))
 (fun C D F G=>k1 a C D)))
 (k2 e a (decide (a < d)) b)
def R30_0_2 (α:Type)(a:Rows)(b:Int)(c:Rows)(d e:Int)(k1:Int->Int->Int->Op α)(k2:Int->Int->Bool->Rows->Op α):Nat->Int->Int->Rows->Op α
 | 0,_,_,_=>none
 | n+1,g,h,i=>S30_0_2 α a b c d e g h i (R30_0_2 α a b c d e k1 k2 n) k1 k2
def L30_0_2g (α:Type)(a:Rows)(b:Int)(c:Rows)(d e:Int)(k1:Int->Int->Int->Op α)(k2:Int->Int->Bool->Rows->Op α)(g h:Int)(i:Rows):Op α:=R30_0_2 α a b c d e k1 k2 fuel g h i
abbrev TL30_0_2:Type 1:=(α:Type)->Rows->Int->Rows->Int->Int->(Int->Int->Int->Op α)->(Int->Int->Bool->Rows->Op α)->Int->Int->Rows->Op α
def L30_0_2:TL30_0_2:=sld L30_0_2g
def F30_0_2 (v:TL30_0_2)(α:Type)(K:KT α):Int->Rows->Int->Int->Rows->Rows->Int->Int->Int->Int->Int->Rows->Op α:=fun j d e l m g h i o p q r=>v α d e g h i (fun a b c=>u30_0_9 (K .ret) 0 ([]:Rows) a b c) (fun a b c s=>u30_0_10 (K (.exit 0)) a d e b c m g h i o p q s) j l r
theorem r30_0_2 (α:Type)(K:KT α)(Kn:SK α)(a:Int)(b:Rows)(c d:Int)(j e:Rows)(g h l m o:Int)(i:Rows):u30_0_8 (fun σ=>runM Pg E30_0 sh30 c30_0_11 (thenK (fun σ=>tidyK td30_11 σ Kn) K) σ) a b c d j e g h l m o i=S30_0_2 α b c e g h a d i (fun a d i=>u30_0_8 Kn a b c d j e g h l m o i) (fun p q r=>u30_0_9 (K .ret) 0 ([]:Rows) p q r) (fun p q r s=>u30_0_10 (K (.exit 0)) p b c q r j e g h l m o s):=by kernel_rfl
theorem t30_0_2 (α:Type)(K:KT α):∀ (n:Nat) (g:Int) (a:Rows) (b h:Int) (o c:Rows) (d e p q r:Int) (i:Rows),R30_0_2 α a b c d e (fun j l m=>u30_0_9 (K .ret) 0 ([]:Rows) j l m) (fun j l m s=>u30_0_10 (K (.exit 0)) j a b l m o c d e p q r s) n g h i=u30_0_8 (loopT (runM Pg E30_0 sh30 c30_0_11) td30_11 K n) g a b h o c d e p q r i:=by
 intro n
 induction n with
 | zero=>intros;rfl
 | succ n ih=>intro g a b h o c d e p q r i;exact (congrArg (fun kn=>S30_0_2 α a b c d e g h i kn (fun j l m=>u30_0_9 (K .ret) 0 ([]:Rows) j l m) (fun j l m s=>u30_0_10 (K (.exit 0)) j a b l m o c d e p q r s)) (funext fun g=>funext fun h=>funext fun i=>ih g a b h o c d e p q r i)).trans (r30_0_2 α K (loopT (runM Pg E30_0 sh30 c30_0_11) td30_11 K n) g a b h o c d e p q r i).symm
theorem m30_0_2:∀ (α:Type) (K:KT α),F30_0_2 L30_0_2 α K=p30_0_8.unc fun σ=>loopT (runM Pg E30_0 sh30 c30_0_11) td30_11 K fuel σ:=sld0 (fun α K=>funext fun a=>funext fun b=>funext fun c=>funext fun d=>funext fun e=>funext fun g=>funext fun h=>funext fun i=>funext fun j=>funext fun l=>funext fun m=>funext fun o=>t30_0_2 α K fuel a b c d e g h i j l m o)
abbrev Tf30_0:Type 1:=(α:Type)->Rows->Rows->Int->Int->(Int->Rows->Int->Int->Int->Op α)->Op α
def f30_0g (α:Type)(b c:Rows)(d e:Int)(k1:Int->Rows->Int->Int->Int->Op α):Op α:=
 L30_0_2 α b ((List.length b:Nat):Int) c d e
 (fun g h i=>k1 0 ([]:Rows) g h i)
 (fun a l m j=>cK (a != 2)
 (k1 a ([]:Rows) 0 0 0)
 (k1 a j 0 0 0)) 2 0 ([]:Rows)
def f30_0:Tf30_0:=sld f30_0g
def Fn30_0 (v:Tf30_0)(α:Type)(k:RT α):Rows->Rows->Int->Int->Op α:=fun a b c d=>v α a b c d (fun e g h i j=>ur30_0_0 k e g h i j)
def cm30_0:MCode:=(MCode.put (.m [⟨p30_0_8,F30_0_2 L30_0_2⟩]) [1,1,1,0,1,0] (MCode.put (.m [⟨p30_0_0,F30_0_0 J30_0_0⟩]) [1,1,1,0,1,0,0,1,1,0,0,1,1] (MCode.put (.m [⟨p30_0_5,F30_0_1 J30_0_1⟩]) [1,1,1,0,1,0,0,1,1,0,0,1,1,1,1] (emb ac30))))
theorem io30_0:InstOk Pg 30 nt30 ⟨pa7_0,Fn30_0 f30_0⟩:=inst_s eo30_0 followsTry (codeF_is Tryz.func30 (by kernel_rfl)) sh30 cm30_0 ((put_erase _ _).trans ((put_erase _ _).trans ((put_erase _ _).trans (emb_erase _)))) (put_loop (td:=td30_11) (by kernel_rfl) (put_seq (by kernel_rfl) (put_seq (by kernel_rfl) (emb_good ac30) ⟨m30_0_1,TT⟩) ⟨m30_0_0,TT⟩) ⟨m30_0_2,TT⟩) fun _ _=>by kernel_rfl
abbrev nt8:Nat:=29
def sh8:SG:=[(12,[.sl,.sl,.int .i64,.int .i64]),(21,[.sl,.sl,.int .i64,.int .i64]),(28,iS 3)]
def tr8:TG:=[tT 0 [1,4],tT 1 [1,4,7],tT 2 [1,4,7,17],(3,⟨[2,3,4,5],true,[],[3]⟩),tT 4 [4,8,9,10],tT 5 [2,3,4,5]]
def ac8:ACode:=codeF Pg Tryz.f8 tr8 tl13
def pr8_0_0:PT (List RV):=pRs [wI,pR false [rD dL],pR true [rD (dI .i64),rD (dI .i64),rD (dI .i64)],wI]
def ur8_0_0 {β:Type}(g:List RV->β):Int->Rows->I4 β:=pr8_0_0.unc g
def E8_0:EnvK:=EnvK.of [⟨29,nt29,[⟨pa7_0,Fn29_0 f29_0⟩]⟩,⟨30,nt30,[⟨pa7_0,Fn30_0 f30_0⟩]⟩] noSeq
theorem eo8_0:E8_0.Ok Pg:=EnvK.of_ok noSeq_ok ⟨⟨io29_0,TT⟩,⟨io30_0,TT⟩,TT⟩
abbrev Tf8_0:Type 1:=(α:Type)->Rows->Rows->Int->Int->(Int->Rows->I4 (Op α))->Op α
def f8_0g (α:Type)(a b:Rows)(c d:Int)(k1:Int->Rows->I4 (Op α)):Op α:=
 f29_0 α a b c d
 (fun m e=>cK (e != 0)
 (k1 0 ([]:Rows) 0 0 0 e)
 (f30_0 α a b c d
 (fun g h i j l=>k1 g h i j l 0)))
def f8_0:Tf8_0:=sld f8_0g
def Fn8_0 (v:Tf8_0)(α:Type)(k:RT α):Rows->Rows->Int->Int->Op α:=fun a b c d=>v α a b c d (fun e g h i j l=>ur8_0_0 k e g h i j l)
def cm8_0:MCode:=(emb ac8)
theorem io8_0:InstOk Pg 8 nt8 ⟨pa7_0,Fn8_0 f8_0⟩:=inst_s eo8_0 followsTry (codeF_is Tryz.func8 (by kernel_rfl)) sh8 cm8_0 (emb_erase _) (emb_good ac8) fun _ _=>by kernel_rfl
end
end Go.AM.K
