/- Printed by KGen. -/
import Derived.Test.YtmcplmhohldpjaaGreatRc
namespace Go.AM.K
open Go.Proofs
set_option maxRecDepth 100000
set_option linter.unusedVariables false
noncomputable section
abbrev nt137:Nat:=31
def sh137:SG:=[(9,[.cpx .f64,.int .i64]),(19,iS 3),(27,iS 3)]
def tr137:TG:=[tT 0 [1,2,4],tT 1 [1,4,6,7],tT 2 [1,4,6,7,14],tT 3 [4,5],tT 4 [4,6,7],tT 5 [4,6,7,24],tT 6 [4,5],tT 7 [4,5]]
def ac137:ACode:=codeF Pg Tryz.f137 tr137 tl13
def E137_0:EnvK:=EnvK.of [⟨86,nt86,[⟨pa86_0,Fn86_0 f86_0⟩]⟩,⟨180,nt180,[⟨pa180_0,Fn180_0 f180_0⟩]⟩,⟨182,nt182,[⟨pa182_0,Fn182_0 f182_0⟩]⟩] noSeq
theorem eo137_0:E137_0.Ok Pg:=EnvK.of_ok noSeq_ok ⟨⟨io86_0,TT⟩,⟨io180_0,TT⟩,⟨io182_0,TT⟩,TT⟩
abbrev Tf137_0:Type 1:=(α:Type)->Nat->Nat->Int->Int->(Nat->Nat->Int->Int->Op α)->Op α
def f137_0g (α:Type)(d e:Nat)(a g:Int)(k1:Nat->Nat->Int->Int->Op α):Op α:=
 f86_0 α d e a
 (fun h i b=>cK (b != 0)
 (k1 0 0 0 b)
 (f180_0 α h i g
 (fun j l c=>cK (c != 0)
 (k1 0 0 0 c)
 (f182_0 α j l a
 (fun m o p q=>k1 m o p q)))))
def f137_0:Tf137_0:=sld f137_0g
def pa137_0:PT (List DV):=pA [pV true [(dX .f64),(dI .i64)],pV false [(dFn 180 [(dP [(dI .i64)] 0)])]]
def Fn137_0 (v:Tf137_0)(α:Type)(k:RT α):Nat->Nat->Int->Int->Op α:=fun a b c d=>v α a b c d (fun e g h i=>ur182_0_0 k e g h i)
def cm137_0:MCode:=(emb ac137)
theorem io137_0:InstOk Pg 137 nt137 ⟨pa137_0,Fn137_0 f137_0⟩:=inst_s eo137_0 followsTry (codeF_is Tryz.func137 (by kernel_rfl)) sh137 cm137_0 (emb_erase _) (emb_good ac137) fun _ _=>by kernel_rfl
def E137_1:EnvK:=EnvK.of [⟨86,nt86,[⟨pa86_0,Fn86_0 f86_0⟩]⟩,⟨200,nt200,[⟨pa200_0,Fn200_0 f200_0⟩]⟩,⟨182,nt182,[⟨pa182_0,Fn182_0 f182_0⟩]⟩] noSeq
theorem eo137_1:E137_1.Ok Pg:=EnvK.of_ok noSeq_ok ⟨⟨io86_0,TT⟩,⟨io200_0,TT⟩,⟨io182_0,TT⟩,TT⟩
abbrev Tf137_1:Type 1:=(α:Type)->Nat->Nat->Int->Int->Int->Int->(Nat->Nat->Int->Int->Op α)->Op α
def f137_1g (α:Type)(c d:Nat)(a e g h:Int)(k1:Nat->Nat->Int->Int->Op α):Op α:=
 f86_0 α c d a
 (fun i j b=>cK (b != 0)
 (k1 0 0 0 b)
 (f200_0 α i j a e g h
 (fun l m o=>f182_0 α l m o
 (fun p q r s=>k1 p q r s))))
def f137_1:Tf137_1:=sld f137_1g
def pa137_1:PT (List DV):=pA [pV true [(dX .f64),(dI .i64)],pV false [(dFn 200 [(dP [(dFn 167 [])] 0),(dP [(dI .i64),(dI .i64),(dI .i64)] 0)])]]
def Fn137_1 (v:Tf137_1)(α:Type)(k:RT α):Nat->Nat->I4 (Op α):=fun a b c d e g=>v α a b c d e g (fun h i j l=>ur182_0_0 k h i j l)
def cm137_1:MCode:=(emb ac137)
theorem io137_1:InstOk Pg 137 nt137 ⟨pa137_1,Fn137_1 f137_1⟩:=inst_s eo137_1 followsTry (codeF_is Tryz.func137 (by kernel_rfl)) sh137 cm137_1 (emb_erase _) (emb_good ac137) fun _ _=>by kernel_rfl
def E137_2:EnvK:=EnvK.of [⟨86,nt86,[⟨pa86_0,Fn86_0 f86_0⟩]⟩,⟨200,nt200,[⟨pa200_1,Fn200_1 f200_1⟩]⟩,⟨182,nt182,[⟨pa182_0,Fn182_0 f182_0⟩]⟩] noSeq
theorem eo137_2:E137_2.Ok Pg:=EnvK.of_ok noSeq_ok ⟨⟨io86_0,TT⟩,⟨io200_1,TT⟩,⟨io182_0,TT⟩,TT⟩
def f137_2g (α:Type)(c d:Nat)(a e g h:Int)(k1:Nat->Nat->Int->Int->Op α):Op α:=
 f86_0 α c d a
 (fun i j b=>cK (b != 0)
 (k1 0 0 0 b)
 (f200_1 α i j a e g h
 (fun l m o=>f182_0 α l m o
 (fun p q r s=>k1 p q r s))))
def f137_2:Tf137_1:=sld f137_2g
def pa137_2:PT (List DV):=pA [pV true [(dX .f64),(dI .i64)],pV false [(dFn 200 [(dP [(dFn 169 [])] 0),(dP [(dI .i64),(dI .i64),(dI .i64)] 0)])]]
def Fn137_2 (v:Tf137_1)(α:Type)(k:RT α):Nat->Nat->I4 (Op α):=fun a b c d e g=>v α a b c d e g (fun h i j l=>ur182_0_0 k h i j l)
def cm137_2:MCode:=(emb ac137)
theorem io137_2:InstOk Pg 137 nt137 ⟨pa137_2,Fn137_2 f137_2⟩:=inst_s eo137_2 followsTry (codeF_is Tryz.func137 (by kernel_rfl)) sh137 cm137_2 (emb_erase _) (emb_good ac137) fun _ _=>by kernel_rfl
def E137_3:EnvK:=EnvK.of [⟨86,nt86,[⟨pa86_0,Fn86_0 f86_0⟩]⟩,⟨200,nt200,[⟨pa200_2,Fn200_2 f200_2⟩]⟩,⟨182,nt182,[⟨pa182_0,Fn182_0 f182_0⟩]⟩] noSeq
theorem eo137_3:E137_3.Ok Pg:=EnvK.of_ok noSeq_ok ⟨⟨io86_0,TT⟩,⟨io200_2,TT⟩,⟨io182_0,TT⟩,TT⟩
def f137_3g (α:Type)(c d:Nat)(a e g h:Int)(k1:Nat->Nat->Int->Int->Op α):Op α:=
 f86_0 α c d a
 (fun i j b=>cK (b != 0)
 (k1 0 0 0 b)
 (f200_2 α i j a e g h
 (fun l m o=>f182_0 α l m o
 (fun p q r s=>k1 p q r s))))
def f137_3:Tf137_1:=sld f137_3g
def pa137_3:PT (List DV):=pA [pV true [(dX .f64),(dI .i64)],pV false [(dFn 200 [(dP [(dFn 177 [])] 0),(dP [(dI .i64),(dI .i64),(dI .i64)] 0)])]]
def Fn137_3 (v:Tf137_1)(α:Type)(k:RT α):Nat->Nat->I4 (Op α):=fun a b c d e g=>v α a b c d e g (fun h i j l=>ur182_0_0 k h i j l)
def cm137_3:MCode:=(emb ac137)
theorem io137_3:InstOk Pg 137 nt137 ⟨pa137_3,Fn137_3 f137_3⟩:=inst_s eo137_3 followsTry (codeF_is Tryz.func137 (by kernel_rfl)) sh137 cm137_3 (emb_erase _) (emb_good ac137) fun _ _=>by kernel_rfl
def E137_4:EnvK:=EnvK.of [⟨86,nt86,[⟨pa86_0,Fn86_0 f86_0⟩]⟩,⟨138,nt138,[⟨pa182_0,Fn138_0 f138_0⟩]⟩,⟨182,nt182,[⟨pa182_0,Fn182_0 f182_0⟩]⟩] noSeq
theorem eo137_4:E137_4.Ok Pg:=EnvK.of_ok noSeq_ok ⟨⟨io86_0,TT⟩,⟨io138_0,TT⟩,⟨io182_0,TT⟩,TT⟩
abbrev Tf137_4:Type 1:=(α:Type)->Nat->Nat->Int->(Nat->Nat->Int->Int->Op α)->Op α
def f137_4g (α:Type)(d e:Nat)(a:Int)(k1:Nat->Nat->Int->Int->Op α):Op α:=
 f86_0 α d e a
 (fun g h b=>cK (b != 0)
 (k1 0 0 0 b)
 (f138_0 α g h a
 (fun i j l c=>cK (c != 0)
 (k1 0 0 0 c)
 (f182_0 α i j l
 (fun m o p q=>k1 m o p q)))))
def f137_4:Tf137_4:=sld f137_4g
def pa137_4:PT (List DV):=pA [pV true [(dX .f64),(dI .i64)],pV false [(dFn 138 [])]]
def Fn137_4 (v:Tf137_4)(α:Type)(k:RT α):Nat->Nat->Int->Op α:=fun a b c=>v α a b c (fun d e g h=>ur182_0_0 k d e g h)
def cm137_4:MCode:=(emb ac137)
theorem io137_4:InstOk Pg 137 nt137 ⟨pa137_4,Fn137_4 f137_4⟩:=inst_s eo137_4 followsTry (codeF_is Tryz.func137 (by kernel_rfl)) sh137 cm137_4 (emb_erase _) (emb_good ac137) fun _ _=>by kernel_rfl
def E137_5:EnvK:=EnvK.of [⟨86,nt86,[⟨pa86_0,Fn86_0 f86_0⟩]⟩,⟨200,nt200,[⟨pa200_3,Fn200_3 f200_3⟩]⟩,⟨182,nt182,[⟨pa182_0,Fn182_0 f182_0⟩]⟩] noSeq
theorem eo137_5:E137_5.Ok Pg:=EnvK.of_ok noSeq_ok ⟨⟨io86_0,TT⟩,⟨io200_3,TT⟩,⟨io182_0,TT⟩,TT⟩
def f137_5g (α:Type)(d e:Nat)(a g h i:Int)(k1:Nat->Nat->Int->Int->Op α):Op α:=
 f86_0 α d e a
 (fun j l b=>cK (b != 0)
 (k1 0 0 0 b)
 (f200_3 α j l a g h i
 (fun m o p c=>cK (c != 0)
 (k1 0 0 0 c)
 (f182_0 α m o p
 (fun q r s t=>k1 q r s t)))))
def f137_5:Tf137_1:=sld f137_5g
def pa137_5:PT (List DV):=pA [pV true [(dX .f64),(dI .i64)],pV false [(dFn 200 [(dP [(dFn 173 [])] 0),(dP [(dI .i64),(dI .i64),(dI .i64)] 0)])]]
def Fn137_5 (v:Tf137_1)(α:Type)(k:RT α):Nat->Nat->I4 (Op α):=fun a b c d e g=>v α a b c d e g (fun h i j l=>ur182_0_0 k h i j l)
def cm137_5:MCode:=(emb ac137)
theorem io137_5:InstOk Pg 137 nt137 ⟨pa137_5,Fn137_5 f137_5⟩:=inst_s eo137_5 followsTry (codeF_is Tryz.func137 (by kernel_rfl)) sh137 cm137_5 (emb_erase _) (emb_good ac137) fun _ _=>by kernel_rfl
abbrev nt33:Nat:=21
def sh33:SG:=[(9,iT),(14,[.cpx .f64,.int .i64]),(20,iS 4)]
def tr33:TG:=[tT 0 [0,3,4],tT 1 [0,3,4,10],tT 2 [0,4],tT 3 [0,3,4,5],tT 4 [0,4,5],tT 5 [0,4]]
def ac33:ACode:=codeF Pg Tryz.f33 tr33 tl13
def pr33_0_0:PT (List RV):=pRs [pR true [rD (dI .i64),rD (dI .i64),rD (dI .i64),rD (dI .i64)],pR true [rD (dI .i64),rD (dI .i64),rD (dI .i64),rD (dI .i64),rD (dI .i64),rD (dI .i64),rD (dI .i64),rD dL,rD (dI .i64),rD (dI .i64)]]
def ur33_0_0 {β:Type}(g:List RV->β):Int->Int->Int->Int->Int->Int->Int->Int->Int->Int->Int->Rows->Int->Int->β:=pr33_0_0.unc g
def E33_0:EnvK:=EnvK.of [⟨79,nt79,[⟨pa86_0,Fn79_0 f79_0⟩]⟩] noSeq
theorem eo33_0:E33_0.Ok Pg:=EnvK.of_ok noSeq_ok ⟨⟨io79_0,TT⟩,TT⟩
abbrev Tf33_0:Type 1:=(α:Type)->Int->Nat->Nat->Int->(I5 (Op α))->Op α
def f33_0g (α:Type)(a:Int)(b c:Nat)(d:Int)(k1:I5 (Op α)):Op α:=
 cK (a != 0)
 (k1 0 0 0 0 a)
 (f79_0 α b c d
 (fun e g h i j=>k1 e g h i j))
def f33_0:Tf33_0:=sld f33_0g
def pa33_0:PT (List DV):=pA [pV false [(dMr [(dI .i64),(dI .i64),(dI .i64),(dI .i64),(dI .i64),(dI .i64),(dI .i64),dL,(dI .i64),(dI .i64)] 0)],pV true [(dX .f64),(dI .i64)]]
def Fn33_0 (v:Tf33_0)(α:Type)(k:RT α):Int->Int->Int->Int->Int->Int->Int->Rows->Int->Int->Nat->Nat->Int->Op α:=fun a b c d e g h i j l m o p=>v α a m o p (fun q r s t w=>ur33_0_0 k q r s t w b c d e g h i j l)
def cm33_0:MCode:=(emb ac33)
theorem io33_0:InstOk Pg 33 nt33 ⟨pa33_0,Fn33_0 f33_0⟩:=inst_s eo33_0 followsTry (codeF_is Tryz.func33 (by kernel_rfl)) sh33 cm33_0 (emb_erase _) (emb_good ac33) fun _ _=>by kernel_rfl
abbrev nt84:Nat:=8
def sh84:SG:=[(4,[.cpx .f64,.int .i64])]
def tr84:TG:=[tT 0 [1,2],tT 1 [2,3]]
def ac84:ACode:=codeF Pg Tryz.f84 tr84 tl13
def E84_0:EnvK:=EnvK.of [⟨137,nt137,[⟨pa137_4,Fn137_4 f137_4⟩]⟩] noSeq
theorem eo84_0:E84_0.Ok Pg:=EnvK.of_ok noSeq_ok ⟨⟨io137_4,TT⟩,TT⟩
def f84_0g (α:Type)(a b:Nat)(c:Int)(k1:Nat->Nat->Int->Int->Op α):Op α:=
 f137_4 α a b c
 (fun d e g h=>k1 d e g h)
def f84_0:Tf137_4:=sld f84_0g
def Fn84_0 (v:Tf137_4)(α:Type)(k:RT α):Nat->Nat->Int->Op α:=fun a b c=>v α a b c (fun d e g h=>ur182_0_0 k d e g h)
def cm84_0:MCode:=(emb ac84)
theorem io84_0:InstOk Pg 84 nt84 ⟨pa86_0,Fn84_0 f84_0⟩:=inst_s eo84_0 followsTry (codeF_is Tryz.func84 (by kernel_rfl)) sh84 cm84_0 (emb_erase _) (emb_good ac84) fun _ _=>by kernel_rfl
abbrev nt135:Nat:=11
def sh135:SG:=[(6,[.cpx .f64,.int .i64])]
def tr135:TG:=[tT 0 [2,3,4],tT 1 [4,5]]
def ac135:ACode:=codeF Pg Tryz.f135 tr135 tl13
def E135_0:EnvK:=EnvK.of [⟨137,nt137,[⟨pa137_0,Fn137_0 f137_0⟩]⟩] noSeq
theorem eo135_0:E135_0.Ok Pg:=EnvK.of_ok noSeq_ok ⟨⟨io137_0,TT⟩,TT⟩
def f135_0g (α:Type)(a b:Nat)(c d:Int)(k1:Nat->Nat->Int->Int->Op α):Op α:=
 f137_0 α a b c d
 (fun e g h i=>k1 e g h i)
def f135_0:Tf137_0:=sld f135_0g
def pa135_0:PT (List DV):=pA [pV true [(dX .f64),(dI .i64)],vI]
def Fn135_0 (v:Tf137_0)(α:Type)(k:RT α):Nat->Nat->Int->Int->Op α:=fun a b c d=>v α a b c d (fun e g h i=>ur182_0_0 k e g h i)
def cm135_0:MCode:=(emb ac135)
theorem io135_0:InstOk Pg 135 nt135 ⟨pa135_0,Fn135_0 f135_0⟩:=inst_s eo135_0 followsTry (codeF_is Tryz.func135 (by kernel_rfl)) sh135 cm135_0 (emb_erase _) (emb_good ac135) fun _ _=>by kernel_rfl
abbrev nt166:Nat:=24
def sh166:SG:=[(11,[.cpx .f64,.int .i64]),(19,[.cpx .f64,.int .i64])]
def tr166:TG:=[tT 0 [3,4,5,6],tT 1 [4,5,6,8,9],tT 2 [4,5,6,8,9,16],tT 3 [6,7],tT 4 [6,7]]
def ac166:ACode:=codeF Pg Tryz.f166 tr166 tl13
def E166_0:EnvK:=EnvK.of [⟨86,nt86,[⟨pa86_0,Fn86_0 f86_0⟩]⟩,⟨137,nt137,[⟨pa137_1,Fn137_1 f137_1⟩]⟩] noSeq
theorem eo166_0:E166_0.Ok Pg:=EnvK.of_ok noSeq_ok ⟨⟨io86_0,TT⟩,⟨io137_1,TT⟩,TT⟩
abbrev Tf166_0:Type 1:=(α:Type)->Nat->Nat->Int->Nat->Nat->Int->(Nat->Nat->Int->Int->Op α)->Op α
def f166_0g (α:Type)(c d:Nat)(a:Int)(e g:Nat)(h:Int)(k1:Nat->Nat->Int->Int->Op α):Op α:=
 f86_0 α c d a
 (fun i j b=>cK (b != 0)
 (k1 0 0 0 b)
 (f137_1 α e g h i j a
 (fun l m o p=>k1 l m o p)))
def f166_0:Tf166_0:=sld f166_0g
def pa166_0:PT (List DV):=pA [pV true [(dX .f64),(dI .i64)],pV true [(dX .f64),(dI .i64)],pV false [(dFn 167 [])]]
def Fn166_0 (v:Tf166_0)(α:Type)(k:RT α):Nat->Nat->Int->Nat->Nat->Int->Op α:=fun a b c d e g=>v α a b c d e g (fun h i j l=>ur182_0_0 k h i j l)
def cm166_0:MCode:=(emb ac166)
theorem io166_0:InstOk Pg 166 nt166 ⟨pa166_0,Fn166_0 f166_0⟩:=inst_s eo166_0 followsTry (codeF_is Tryz.func166 (by kernel_rfl)) sh166 cm166_0 (emb_erase _) (emb_good ac166) fun _ _=>by kernel_rfl
def E166_1:EnvK:=EnvK.of [⟨86,nt86,[⟨pa86_0,Fn86_0 f86_0⟩]⟩,⟨137,nt137,[⟨pa137_2,Fn137_2 f137_2⟩]⟩] noSeq
theorem eo166_1:E166_1.Ok Pg:=EnvK.of_ok noSeq_ok ⟨⟨io86_0,TT⟩,⟨io137_2,TT⟩,TT⟩
def f166_1g (α:Type)(c d:Nat)(a:Int)(e g:Nat)(h:Int)(k1:Nat->Nat->Int->Int->Op α):Op α:=
 f86_0 α c d a
 (fun i j b=>cK (b != 0)
 (k1 0 0 0 b)
 (f137_2 α e g h i j a
 (fun l m o p=>k1 l m o p)))
def f166_1:Tf166_0:=sld f166_1g
def pa166_1:PT (List DV):=pA [pV true [(dX .f64),(dI .i64)],pV true [(dX .f64),(dI .i64)],pV false [(dFn 169 [])]]
def Fn166_1 (v:Tf166_0)(α:Type)(k:RT α):Nat->Nat->Int->Nat->Nat->Int->Op α:=fun a b c d e g=>v α a b c d e g (fun h i j l=>ur182_0_0 k h i j l)
def cm166_1:MCode:=(emb ac166)
theorem io166_1:InstOk Pg 166 nt166 ⟨pa166_1,Fn166_1 f166_1⟩:=inst_s eo166_1 followsTry (codeF_is Tryz.func166 (by kernel_rfl)) sh166 cm166_1 (emb_erase _) (emb_good ac166) fun _ _=>by kernel_rfl
def E166_2:EnvK:=EnvK.of [⟨86,nt86,[⟨pa86_0,Fn86_0 f86_0⟩]⟩,⟨137,nt137,[⟨pa137_3,Fn137_3 f137_3⟩]⟩] noSeq
theorem eo166_2:E166_2.Ok Pg:=EnvK.of_ok noSeq_ok ⟨⟨io86_0,TT⟩,⟨io137_3,TT⟩,TT⟩
def f166_2g (α:Type)(c d:Nat)(a:Int)(e g:Nat)(h:Int)(k1:Nat->Nat->Int->Int->Op α):Op α:=
 f86_0 α c d a
 (fun i j b=>cK (b != 0)
 (k1 0 0 0 b)
 (f137_3 α e g h i j a
 (fun l m o p=>k1 l m o p)))
def f166_2:Tf166_0:=sld f166_2g
def pa166_2:PT (List DV):=pA [pV true [(dX .f64),(dI .i64)],pV true [(dX .f64),(dI .i64)],pV false [(dFn 177 [])]]
def Fn166_2 (v:Tf166_0)(α:Type)(k:RT α):Nat->Nat->Int->Nat->Nat->Int->Op α:=fun a b c d e g=>v α a b c d e g (fun h i j l=>ur182_0_0 k h i j l)
def cm166_2:MCode:=(emb ac166)
theorem io166_2:InstOk Pg 166 nt166 ⟨pa166_2,Fn166_2 f166_2⟩:=inst_s eo166_2 followsTry (codeF_is Tryz.func166 (by kernel_rfl)) sh166 cm166_2 (emb_erase _) (emb_good ac166) fun _ _=>by kernel_rfl
def E166_3:EnvK:=EnvK.of [⟨86,nt86,[⟨pa86_0,Fn86_0 f86_0⟩]⟩,⟨137,nt137,[⟨pa137_5,Fn137_5 f137_5⟩]⟩] noSeq
theorem eo166_3:E166_3.Ok Pg:=EnvK.of_ok noSeq_ok ⟨⟨io86_0,TT⟩,⟨io137_5,TT⟩,TT⟩
def f166_3g (α:Type)(c d:Nat)(a:Int)(e g:Nat)(h:Int)(k1:Nat->Nat->Int->Int->Op α):Op α:=
 f86_0 α c d a
 (fun i j b=>cK (b != 0)
 (k1 0 0 0 b)
 (f137_5 α e g h i j a
 (fun l m o p=>k1 l m o p)))
def f166_3:Tf166_0:=sld f166_3g
def pa166_3:PT (List DV):=pA [pV true [(dX .f64),(dI .i64)],pV true [(dX .f64),(dI .i64)],pV false [(dFn 173 [])]]
def Fn166_3 (v:Tf166_0)(α:Type)(k:RT α):Nat->Nat->Int->Nat->Nat->Int->Op α:=fun a b c d e g=>v α a b c d e g (fun h i j l=>ur182_0_0 k h i j l)
def cm166_3:MCode:=(emb ac166)
theorem io166_3:InstOk Pg 166 nt166 ⟨pa166_3,Fn166_3 f166_3⟩:=inst_s eo166_3 followsTry (codeF_is Tryz.func166 (by kernel_rfl)) sh166 cm166_3 (emb_erase _) (emb_good ac166) fun _ _=>by kernel_rfl
abbrev nt85:Nat:=57
def sh85:SG:=[(9,iS 2),(19,iT),(22,iT),(26,iT),(35,iT),(39,iT),(42,iT),(52,[.cpx .f64,.int .i64])]
def tr85:TG:=[tT 0 [1,2],tT 1 [1,2,5],tT 2 [1,2,5,14],tT 3 [2,3],tT 4 [1,2,17],tT 5 [2,3],tT 6 [1,2,33],tT 7 [2,6,7],tT 8 [2,6,7,49],tT 9 [2,3],tT 10 [2,3],tT 11 [2,3]]
def ac85:ACode:=codeF Pg Tryz.f85 tr85 tl13
def E85_1:EnvK:=EnvK.of [⟨136,nt136,[⟨pa161_0,Fn136_0 f136_0⟩]⟩,⟨141,nt141,[⟨pa215_0,Fn141_0 f141_0⟩]⟩,⟨144,nt144,[⟨pa215_0,Fn144_0 f144_0⟩]⟩] noSeq
theorem eo85_1:E85_1.Ok Pg:=EnvK.of_ok noSeq_ok ⟨⟨io136_0,TT⟩,⟨io141_0,TT⟩,⟨io144_0,TT⟩,TT⟩
def f85_1g (α:Type)(a b:Int)(k1:Nat->Nat->Int->Int->Op α):Op α:=
 f136_0 α a b
 (fun l m o c=>cK (c != 0)
 (k1 0 0 0 c)
 (cK (decide (0<=a))
 (f141_0 α (w64 (a*1048576))
 (fun d=>f144_0 α (w64 (b*1048576))
 (fun e=>f136_0 α d e
 (fun g h i j=>k1 g h i j))))
 (cK (decide (b<=0))
 (none)
 (k1 0 0 0 14))))
def f85_1:Tf179_0:=sld f85_1g
def Fn85_1 (v:Tf179_0)(α:Type)(k:RT α):Int->Int->Op α:=fun a b=>v α a b (fun c d e g=>ur182_0_0 k c d e g)
def cm85_1:MCode:=(emb ac85)
theorem io85_1:InstOk Pg 85 nt85 ⟨pa161_0,Fn85_1 f85_1⟩:=inst_s eo85_1 followsTry (codeF_is Tryz.func85 (by kernel_rfl)) sh85 cm85_1 (emb_erase _) (emb_good ac85) fun _ _=>by kernel_rfl
def E85_0:EnvK:=EnvK.of [⟨136,nt136,[⟨pa161_0,Fn136_0 f136_0⟩]⟩,⟨141,nt141,[⟨pa215_0,Fn141_0 f141_0⟩]⟩,⟨144,nt144,[⟨pa215_0,Fn144_0 f144_0⟩]⟩,⟨85,nt85,[⟨pa161_0,Fn85_1 f85_1⟩]⟩,⟨135,nt135,[⟨pa135_0,Fn135_0 f135_0⟩]⟩] noSeq
theorem eo85_0:E85_0.Ok Pg:=EnvK.of_ok noSeq_ok ⟨⟨io136_0,TT⟩,⟨io141_0,TT⟩,⟨io144_0,TT⟩,⟨io85_1,TT⟩,⟨io135_0,TT⟩,TT⟩
def f85_0g (α:Type)(a b:Int)(k1:Nat->Nat->Int->Int->Op α):Op α:=
 f136_0 α a b
 (fun w z A c=>cK (c != 0)
 (k1 0 0 0 c)
 (cK (decide (0<=a))
 (f141_0 α (w64 (a*1048576))
 (fun e=>f144_0 α (w64 (b*1048576))
 (fun g=>f136_0 α e g
 (fun h i j l=>k1 h i j l))))
 (cK (decide (b<=0))
 (f85_1 α (w64 (0 - b)) (w64 (0 - a))
 (fun m o p d=>cK (d != 0)
 (k1 0 0 0 d)
 (f135_0 α m o p 1
 (fun q r s t=>k1 q r s t))))
 (k1 0 0 0 14))))
def f85_0:Tf179_0:=sld f85_0g
def Fn85_0 (v:Tf179_0)(α:Type)(k:RT α):Int->Int->Op α:=fun a b=>v α a b (fun c d e g=>ur182_0_0 k c d e g)
def cm85_0:MCode:=(emb ac85)
theorem io85_0:InstOk Pg 85 nt85 ⟨pa161_0,Fn85_0 f85_0⟩:=inst_s eo85_0 followsTry (codeF_is Tryz.func85 (by kernel_rfl)) sh85 cm85_0 (emb_erase _) (emb_good ac85) fun _ _=>by kernel_rfl
abbrev nt132:Nat:=11
def sh132:SG:=[(6,[.cpx .f64,.int .i64]),(7,[.cpx .f64,.int .i64])]
def tr132:TG:=[tT 0 [2,3,4],tT 1 [4,5]]
def ac132:ACode:=codeF Pg Tryz.f132 tr132 tl13
def E132_0:EnvK:=EnvK.of [⟨166,nt166,[⟨pa166_2,Fn166_2 f166_2⟩]⟩] noSeq
theorem eo132_0:E132_0.Ok Pg:=EnvK.of_ok noSeq_ok ⟨⟨io166_2,TT⟩,TT⟩
def f132_0g (α:Type)(a b:Nat)(c:Int)(d e:Nat)(g:Int)(k1:Nat->Nat->Int->Int->Op α):Op α:=
 f166_2 α a b c d e g
 (fun h i j l=>k1 h i j l)
def f132_0:Tf166_0:=sld f132_0g
def pa132_0:PT (List DV):=pA [pV true [(dX .f64),(dI .i64)],pV true [(dX .f64),(dI .i64)]]
def Fn132_0 (v:Tf166_0)(α:Type)(k:RT α):Nat->Nat->Int->Nat->Nat->Int->Op α:=fun a b c d e g=>v α a b c d e g (fun h i j l=>ur182_0_0 k h i j l)
def cm132_0:MCode:=(emb ac132)
theorem io132_0:InstOk Pg 132 nt132 ⟨pa132_0,Fn132_0 f132_0⟩:=inst_s eo132_0 followsTry (codeF_is Tryz.func132 (by kernel_rfl)) sh132 cm132_0 (emb_erase _) (emb_good ac132) fun _ _=>by kernel_rfl
abbrev nt130:Nat:=11
def tr130:TG:=[tT 0 [2,3,4],tT 1 [4,5]]
def ac130:ACode:=codeF Pg Tryz.f130 tr130 tl13
def E130_0:EnvK:=EnvK.of [⟨166,nt166,[⟨pa166_1,Fn166_1 f166_1⟩]⟩] noSeq
theorem eo130_0:E130_0.Ok Pg:=EnvK.of_ok noSeq_ok ⟨⟨io166_1,TT⟩,TT⟩
def f130_0g (α:Type)(a b:Nat)(c:Int)(d e:Nat)(g:Int)(k1:Nat->Nat->Int->Int->Op α):Op α:=
 f166_1 α a b c d e g
 (fun h i j l=>k1 h i j l)
def f130_0:Tf166_0:=sld f130_0g
def Fn130_0 (v:Tf166_0)(α:Type)(k:RT α):Nat->Nat->Int->Nat->Nat->Int->Op α:=fun a b c d e g=>v α a b c d e g (fun h i j l=>ur182_0_0 k h i j l)
def cm130_0:MCode:=(emb ac130)
theorem io130_0:InstOk Pg 130 nt130 ⟨pa132_0,Fn130_0 f130_0⟩:=inst_s eo130_0 followsTry (codeF_is Tryz.func130 (by kernel_rfl)) sh132 cm130_0 (emb_erase _) (emb_good ac130) fun _ _=>by kernel_rfl
abbrev nt129:Nat:=11
def tr129:TG:=[tT 0 [2,3,4],tT 1 [4,5]]
def ac129:ACode:=codeF Pg Tryz.f129 tr129 tl13
def E129_0:EnvK:=EnvK.of [⟨166,nt166,[⟨pa166_0,Fn166_0 f166_0⟩]⟩] noSeq
theorem eo129_0:E129_0.Ok Pg:=EnvK.of_ok noSeq_ok ⟨⟨io166_0,TT⟩,TT⟩
def f129_0g (α:Type)(a b:Nat)(c:Int)(d e:Nat)(g:Int)(k1:Nat->Nat->Int->Int->Op α):Op α:=
 f166_0 α a b c d e g
 (fun h i j l=>k1 h i j l)
def f129_0:Tf166_0:=sld f129_0g
def Fn129_0 (v:Tf166_0)(α:Type)(k:RT α):Nat->Nat->Int->Nat->Nat->Int->Op α:=fun a b c d e g=>v α a b c d e g (fun h i j l=>ur182_0_0 k h i j l)
def cm129_0:MCode:=(emb ac129)
theorem io129_0:InstOk Pg 129 nt129 ⟨pa132_0,Fn129_0 f129_0⟩:=inst_s eo129_0 followsTry (codeF_is Tryz.func129 (by kernel_rfl)) sh132 cm129_0 (emb_erase _) (emb_good ac129) fun _ _=>by kernel_rfl
abbrev nt131:Nat:=11
def tr131:TG:=[tT 0 [2,3,4],tT 1 [4,5]]
def ac131:ACode:=codeF Pg Tryz.f131 tr131 tl13
def E131_0:EnvK:=EnvK.of [⟨166,nt166,[⟨pa166_3,Fn166_3 f166_3⟩]⟩] noSeq
theorem eo131_0:E131_0.Ok Pg:=EnvK.of_ok noSeq_ok ⟨⟨io166_3,TT⟩,TT⟩
def f131_0g (α:Type)(a b:Nat)(c:Int)(d e:Nat)(g:Int)(k1:Nat->Nat->Int->Int->Op α):Op α:=
 f166_3 α a b c d e g
 (fun h i j l=>k1 h i j l)
def f131_0:Tf166_0:=sld f131_0g
def Fn131_0 (v:Tf166_0)(α:Type)(k:RT α):Nat->Nat->Int->Nat->Nat->Int->Op α:=fun a b c d e g=>v α a b c d e g (fun h i j l=>ur182_0_0 k h i j l)
def cm131_0:MCode:=(emb ac131)
theorem io131_0:InstOk Pg 131 nt131 ⟨pa132_0,Fn131_0 f131_0⟩:=inst_s eo131_0 followsTry (codeF_is Tryz.func131 (by kernel_rfl)) sh132 cm131_0 (emb_erase _) (emb_good ac131) fun _ _=>by kernel_rfl
abbrev nt128:Nat:=23
def sh128:SG:=[(12,iT),(17,[.cpx .f64,.int .i64]),(18,[.cpx .f64,.int .i64])]
def tr128:TG:=[tT 0 [0,1,6,7,8],tT 1 [0,1,6,7,8,13],tT 2 [0,8],tT 3 [0,8]]
def ac128:ACode:=codeF Pg Tryz.f128 tr128 tl13
def E128_0:EnvK:=EnvK.ofIO [⟨129,nt129,[⟨pa132_0,Fn129_0 f129_0⟩]⟩,⟨83,nt83,[⟨pa83_0,Fn83_0 f83_0⟩]⟩] noSeq [(83,[0])]
theorem eo128_0:E128_0.Ok Pg:=EnvK.ofIO_ok noSeq_ok ⟨⟨io129_0,TT⟩,⟨io83_0,TT⟩,TT⟩
abbrev Tf128_0:Type 1:=(α:Type)->Int->Nat->Nat->Int->Nat->Nat->Int->(Nat->Nat->Int->Int->Op α)->Op α
def f128_0g (α:Type)(a:Int)(b c:Nat)(d:Int)(e g:Nat)(h:Int)(k1:Nat->Nat->Int->Int->Op α):Op α:=
 cK (a != 0)
 (k1 0 0 0 a)
 (f129_0 α b c d e g h
 (fun i j l m=>f83_0 α
 (k1 i j l m)))
def f128_0:Tf128_0:=sld f128_0g
def pa128_0:PT (List DV):=pA [pV false [(dMr [(dI .i64),(dI .i64),(dI .i64),(dI .i64),(dI .i64),(dI .i64),(dI .i64),dL,(dI .i64),(dI .i64)] 0)],pV false [(dFn 129 [])],pV true [(dX .f64),(dI .i64)],pV true [(dX .f64),(dI .i64)]]
def Fn128_0 (v:Tf128_0)(α:Type)(k:RT α):Int->Int->Int->Int->Int->Int->Int->Rows->Int->Int->Nat->Nat->Int->Nat->Nat->Int->Op α:=fun a b c d e g h i j l m o p q r s=>v α a m o p q r s (fun t w z A=>ur83_0_0 k t w z A b c d e g h i j l)
def cm128_0:MCode:=(emb ac128)
theorem io128_0:InstOk Pg 128 nt128 ⟨pa128_0,Fn128_0 f128_0⟩:=inst_s eo128_0 followsTry (codeF_is Tryz.func128 (by kernel_rfl)) sh128 cm128_0 (emb_erase _) (emb_good ac128) fun _ _=>by kernel_rfl
def E128_1:EnvK:=EnvK.ofIO [⟨130,nt130,[⟨pa132_0,Fn130_0 f130_0⟩]⟩,⟨83,nt83,[⟨pa83_0,Fn83_0 f83_0⟩]⟩] noSeq [(83,[0])]
theorem eo128_1:E128_1.Ok Pg:=EnvK.ofIO_ok noSeq_ok ⟨⟨io130_0,TT⟩,⟨io83_0,TT⟩,TT⟩
def f128_1g (α:Type)(a:Int)(b c:Nat)(d:Int)(e g:Nat)(h:Int)(k1:Nat->Nat->Int->Int->Op α):Op α:=
 cK (a != 0)
 (k1 0 0 0 a)
 (f130_0 α b c d e g h
 (fun i j l m=>f83_0 α
 (k1 i j l m)))
def f128_1:Tf128_0:=sld f128_1g
def pa128_1:PT (List DV):=pA [pV false [(dMr [(dI .i64),(dI .i64),(dI .i64),(dI .i64),(dI .i64),(dI .i64),(dI .i64),dL,(dI .i64),(dI .i64)] 0)],pV false [(dFn 130 [])],pV true [(dX .f64),(dI .i64)],pV true [(dX .f64),(dI .i64)]]
def Fn128_1 (v:Tf128_0)(α:Type)(k:RT α):Int->Int->Int->Int->Int->Int->Int->Rows->Int->Int->Nat->Nat->Int->Nat->Nat->Int->Op α:=fun a b c d e g h i j l m o p q r s=>v α a m o p q r s (fun t w z A=>ur83_0_0 k t w z A b c d e g h i j l)
def cm128_1:MCode:=(emb ac128)
theorem io128_1:InstOk Pg 128 nt128 ⟨pa128_1,Fn128_1 f128_1⟩:=inst_s eo128_1 followsTry (codeF_is Tryz.func128 (by kernel_rfl)) sh128 cm128_1 (emb_erase _) (emb_good ac128) fun _ _=>by kernel_rfl
def E128_2:EnvK:=EnvK.ofIO [⟨132,nt132,[⟨pa132_0,Fn132_0 f132_0⟩]⟩,⟨83,nt83,[⟨pa83_0,Fn83_0 f83_0⟩]⟩] noSeq [(83,[0])]
theorem eo128_2:E128_2.Ok Pg:=EnvK.ofIO_ok noSeq_ok ⟨⟨io132_0,TT⟩,⟨io83_0,TT⟩,TT⟩
def f128_2g (α:Type)(a:Int)(b c:Nat)(d:Int)(e g:Nat)(h:Int)(k1:Nat->Nat->Int->Int->Op α):Op α:=
 cK (a != 0)
 (k1 0 0 0 a)
 (f132_0 α b c d e g h
 (fun i j l m=>f83_0 α
 (k1 i j l m)))
def f128_2:Tf128_0:=sld f128_2g
def pa128_2:PT (List DV):=pA [pV false [(dMr [(dI .i64),(dI .i64),(dI .i64),(dI .i64),(dI .i64),(dI .i64),(dI .i64),dL,(dI .i64),(dI .i64)] 0)],pV false [(dFn 132 [])],pV true [(dX .f64),(dI .i64)],pV true [(dX .f64),(dI .i64)]]
def Fn128_2 (v:Tf128_0)(α:Type)(k:RT α):Int->Int->Int->Int->Int->Int->Int->Rows->Int->Int->Nat->Nat->Int->Nat->Nat->Int->Op α:=fun a b c d e g h i j l m o p q r s=>v α a m o p q r s (fun t w z A=>ur83_0_0 k t w z A b c d e g h i j l)
def cm128_2:MCode:=(emb ac128)
theorem io128_2:InstOk Pg 128 nt128 ⟨pa128_2,Fn128_2 f128_2⟩:=inst_s eo128_2 followsTry (codeF_is Tryz.func128 (by kernel_rfl)) sh128 cm128_2 (emb_erase _) (emb_good ac128) fun _ _=>by kernel_rfl
def E128_3:EnvK:=EnvK.ofIO [⟨131,nt131,[⟨pa132_0,Fn131_0 f131_0⟩]⟩,⟨83,nt83,[⟨pa83_0,Fn83_0 f83_0⟩]⟩] noSeq [(83,[0])]
theorem eo128_3:E128_3.Ok Pg:=EnvK.ofIO_ok noSeq_ok ⟨⟨io131_0,TT⟩,⟨io83_0,TT⟩,TT⟩
def f128_3g (α:Type)(a:Int)(b c:Nat)(d:Int)(e g:Nat)(h:Int)(k1:Nat->Nat->Int->Int->Op α):Op α:=
 cK (a != 0)
 (k1 0 0 0 a)
 (f131_0 α b c d e g h
 (fun i j l m=>f83_0 α
 (k1 i j l m)))
def f128_3:Tf128_0:=sld f128_3g
def pa128_3:PT (List DV):=pA [pV false [(dMr [(dI .i64),(dI .i64),(dI .i64),(dI .i64),(dI .i64),(dI .i64),(dI .i64),dL,(dI .i64),(dI .i64)] 0)],pV false [(dFn 131 [])],pV true [(dX .f64),(dI .i64)],pV true [(dX .f64),(dI .i64)]]
def Fn128_3 (v:Tf128_0)(α:Type)(k:RT α):Int->Int->Int->Int->Int->Int->Int->Rows->Int->Int->Nat->Nat->Int->Nat->Nat->Int->Op α:=fun a b c d e g h i j l m o p q r s=>v α a m o p q r s (fun t w z A=>ur83_0_0 k t w z A b c d e g h i j l)
def cm128_3:MCode:=(emb ac128)
theorem io128_3:InstOk Pg 128 nt128 ⟨pa128_3,Fn128_3 f128_3⟩:=inst_s eo128_3 followsTry (codeF_is Tryz.func128 (by kernel_rfl)) sh128 cm128_3 (emb_erase _) (emb_good ac128) fun _ _=>by kernel_rfl
abbrev nt78:Nat:=11
def sh78:SG:=[(8,[.cpx .f64,.int .i64]),(9,[.cpx .f64,.int .i64])]
def tr78:TG:=[tT 0 [0,4,5,6],tT 1 [0,6]]
def ac78:ACode:=codeF Pg Tryz.f78 tr78 tl13
def E78_0:EnvK:=EnvK.ofIO [⟨128,nt128,[⟨pa128_2,Fn128_2 f128_2⟩]⟩] noSeq [(128,[0])]
theorem eo78_0:E78_0.Ok Pg:=EnvK.ofIO_ok noSeq_ok ⟨⟨io128_2,TT⟩,TT⟩
def f78_0g (α:Type)(a:Int)(b c:Nat)(d:Int)(e g:Nat)(h:Int)(k1:Nat->Nat->Int->Int->Op α):Op α:=
 f128_2 α a b c d e g h
 (fun i j l m=>k1 i j l m)
def f78_0:Tf128_0:=sld f78_0g
def pa78_0:PT (List DV):=pA [pV false [(dMr [(dI .i64),(dI .i64),(dI .i64),(dI .i64),(dI .i64),(dI .i64),(dI .i64),dL,(dI .i64),(dI .i64)] 0)],pV true [(dX .f64),(dI .i64)],pV true [(dX .f64),(dI .i64)]]
def Fn78_0 (v:Tf128_0)(α:Type)(k:RT α):Int->Int->Int->Int->Int->Int->Int->Rows->Int->Int->Nat->Nat->Int->Nat->Nat->Int->Op α:=fun a b c d e g h i j l m o p q r s=>v α a m o p q r s (fun t w z A=>ur83_0_0 k t w z A b c d e g h i j l)
def cm78_0:MCode:=(emb ac78)
theorem io78_0:InstOk Pg 78 nt78 ⟨pa78_0,Fn78_0 f78_0⟩:=inst_s eo78_0 followsTry (codeF_is Tryz.func78 (by kernel_rfl)) sh78 cm78_0 (emb_erase _) (emb_good ac78) fun _ _=>by kernel_rfl
abbrev nt76:Nat:=11
def tr76:TG:=[tT 0 [0,4,5,6],tT 1 [0,6]]
def ac76:ACode:=codeF Pg Tryz.f76 tr76 tl13
def E76_0:EnvK:=EnvK.ofIO [⟨128,nt128,[⟨pa128_1,Fn128_1 f128_1⟩]⟩] noSeq [(128,[0])]
theorem eo76_0:E76_0.Ok Pg:=EnvK.ofIO_ok noSeq_ok ⟨⟨io128_1,TT⟩,TT⟩
def f76_0g (α:Type)(a:Int)(b c:Nat)(d:Int)(e g:Nat)(h:Int)(k1:Nat->Nat->Int->Int->Op α):Op α:=
 f128_1 α a b c d e g h
 (fun i j l m=>k1 i j l m)
def f76_0:Tf128_0:=sld f76_0g
def Fn76_0 (v:Tf128_0)(α:Type)(k:RT α):Int->Int->Int->Int->Int->Int->Int->Rows->Int->Int->Nat->Nat->Int->Nat->Nat->Int->Op α:=fun a b c d e g h i j l m o p q r s=>v α a m o p q r s (fun t w z A=>ur83_0_0 k t w z A b c d e g h i j l)
def cm76_0:MCode:=(emb ac76)
theorem io76_0:InstOk Pg 76 nt76 ⟨pa78_0,Fn76_0 f76_0⟩:=inst_s eo76_0 followsTry (codeF_is Tryz.func76 (by kernel_rfl)) sh78 cm76_0 (emb_erase _) (emb_good ac76) fun _ _=>by kernel_rfl
abbrev nt75:Nat:=11
def tr75:TG:=[tT 0 [0,4,5,6],tT 1 [0,6]]
def ac75:ACode:=codeF Pg Tryz.f75 tr75 tl13
def E75_0:EnvK:=EnvK.ofIO [⟨128,nt128,[⟨pa128_0,Fn128_0 f128_0⟩]⟩] noSeq [(128,[0])]
theorem eo75_0:E75_0.Ok Pg:=EnvK.ofIO_ok noSeq_ok ⟨⟨io128_0,TT⟩,TT⟩
def f75_0g (α:Type)(a:Int)(b c:Nat)(d:Int)(e g:Nat)(h:Int)(k1:Nat->Nat->Int->Int->Op α):Op α:=
 f128_0 α a b c d e g h
 (fun i j l m=>k1 i j l m)
def f75_0:Tf128_0:=sld f75_0g
def Fn75_0 (v:Tf128_0)(α:Type)(k:RT α):Int->Int->Int->Int->Int->Int->Int->Rows->Int->Int->Nat->Nat->Int->Nat->Nat->Int->Op α:=fun a b c d e g h i j l m o p q r s=>v α a m o p q r s (fun t w z A=>ur83_0_0 k t w z A b c d e g h i j l)
def cm75_0:MCode:=(emb ac75)
theorem io75_0:InstOk Pg 75 nt75 ⟨pa78_0,Fn75_0 f75_0⟩:=inst_s eo75_0 followsTry (codeF_is Tryz.func75 (by kernel_rfl)) sh78 cm75_0 (emb_erase _) (emb_good ac75) fun _ _=>by kernel_rfl
abbrev nt126:Nat:=51
def sh126:SG:=[(25,[.cpx .f64,.int .i64]),(28,[.cpx .f64,.int .i64]),(34,[.cpx .f64,.int .i64]),(41,[.cpx .f64,.int .i64]),(45,[.cpx .f64,.int .i64]),(50,[.cpx .f64,.int .i64,.cpx .f64,.int .i64,.cpx .f64,.int .i64,.cpx .f64,.int .i64])]
def tr126:TG:=[tT 0 [0,4,5,6],tT 1 [0,4,5,6,7],tT 2 [0,4,5,6,7,12],tT 3 [0,4,5,6,7,12,13],tT 4 [0,4,5,6,7,8,12],tT 5 [0,4,5,6,7,8,9,10,12],tT 6 [0,4,5,6,7,8,9,10,11,12],tT 7 [0,4,5,6,7,12],tT 8 [0,4,5,6,7,12],tT 9 [0,6]]
def tl126:TG:=[tT 3 [0,4,5,6,7,12]]
def ac126:ACode:=codeF Pg Tryz.f126 tr126 tl126
def td126_9:OT:=tdC (MCode.sub [1,1,0,1,0] (emb ac126))
def pr126_0_0:PT (List RV):=pRs [pR true [rD (dX .f64),rD (dI .i64),rD (dX .f64),rD (dI .i64),rD (dX .f64),rD (dI .i64),rD (dX .f64),rD (dI .i64)],pR true [rD (dI .i64),rD (dI .i64),rD (dI .i64),rD (dI .i64),rD (dI .i64),rD (dI .i64),rD (dI .i64),rD dL,rD (dI .i64),rD (dI .i64)]]
def ur126_0_0 {β:Type}(g:List RV->β):Nat->Nat->Int->Nat->Nat->Int->Nat->Nat->Int->Nat->Nat->Int->Int->Int->Int->Int->Int->Int->Int->Rows->Int->Int->β:=pr126_0_0.unc g
def E126_0:EnvK:=EnvK.ofIO [⟨76,nt76,[⟨pa78_0,Fn76_0 f76_0⟩]⟩,⟨75,nt75,[⟨pa78_0,Fn75_0 f75_0⟩]⟩] noSeq [(75,[0]),(76,[0])]
theorem eo126_0:E126_0.Ok Pg:=EnvK.ofIO_ok noSeq_ok ⟨⟨io76_0,TT⟩,⟨io75_0,TT⟩,TT⟩
abbrev Tf126_0:Type 1:=(α:Type)->Int->Nat->Nat->Int->Nat->Nat->Int->Nat->Nat->Int->Nat->Nat->Int->Nat->Nat->Int->Nat->Nat->Int->Nat->Nat->Int->Nat->Nat->Int->(Nat->Nat->Int->Nat->Nat->Int->Nat->Nat->Int->Nat->Nat->Int->Int->Op α)->Op α
def f126_0g (α:Type)(G:Int)(a b:Nat)(c:Int)(d e:Nat)(g:Int)(h i:Nat)(j:Int)(l m:Nat)(o:Int)(p q:Nat)(r:Int)(s t:Nat)(w:Int)(z A:Nat)(B:Int)(C D:Nat)(F:Int)(k1:Nat->Nat->Int->Nat->Nat->Int->Nat->Nat->Int->Nat->Nat->Int->Int->Op α):Op α:=
 f76_0 α G a b c p q r
 (fun H I J L=>f76_0 α L d e g z A B
 (fun M N O P=>f75_0 α P H I J M N O
 (fun Q R T U=>f76_0 α U a b c s t w
 (fun V W X Y=>f76_0 α Y d e g C D F
 (fun Z a0 a1 a2=>f75_0 α a2 V W X Z a0 a1
 (fun a3 a4 a5 a6=>f76_0 α a6 h i j p q r
 (fun a7 a8 a9 b0=>f76_0 α b0 l m o z A B
 (fun b1 b2 b3 b4=>f75_0 α b4 a7 a8 a9 b1 b2 b3
 (fun b5 b6 b7 b8=>f76_0 α b8 h i j s t w
 (fun b9 c0 c1 c2=>f76_0 α c2 l m o C D F
 (fun c3 c4 c5 c6=>f75_0 α c6 b9 c0 c1 c3 c4 c5
 (fun c7 c8 c9 d0=>k1 Q R T a3 a4 a5 b5 b6 b7 c7 c8 c9 d0))))))))))))
def f126_0:Tf126_0:=sld f126_0g
def pa126_0:PT (List DV):=pA [pV false [(dMr [(dI .i64),(dI .i64),(dI .i64),(dI .i64),(dI .i64),(dI .i64),(dI .i64),dL,(dI .i64),(dI .i64)] 0)],pV true [(dX .f64),(dI .i64),(dX .f64),(dI .i64),(dX .f64),(dI .i64),(dX .f64),(dI .i64)],pV true [(dX .f64),(dI .i64),(dX .f64),(dI .i64),(dX .f64),(dI .i64),(dX .f64),(dI .i64)]]
def Fn126_0 (v:Tf126_0)(α:Type)(k:RT α):Int->Int->Int->Int->Int->Int->Int->Rows->Int->Int->Nat->Nat->Int->Nat->Nat->Int->Nat->Nat->Int->Nat->Nat->Int->Nat->Nat->Int->Nat->Nat->Int->Nat->Nat->Int->Nat->Nat->Int->Op α:=fun a b c d e g h i j l m o p q r s t w z A B C D F G H I J L M N O P Q=>v α a m o p q r s t w z A B C D F G H I J L M N O P Q (fun R T U V W X Y Z a0 a1 a2 a3 a4=>ur126_0_0 k R T U V W X Y Z a0 a1 a2 a3 a4 b c d e g h i j l)
def cm126_0:MCode:=(MCode.put (.u 5) [1,1,0,1,0] (emb ac126))
theorem io126_0:InstOk Pg 126 nt126 ⟨pa126_0,Fn126_0 f126_0⟩:=inst_s eo126_0 followsTry (codeF_is Tryz.func126 (by kernel_rfl)) sh126 cm126_0 ((put_erase _ _).trans (emb_erase _)) (put_u (by decide) (emb_good ac126)) fun _ _=>by kernel_rfl
abbrev nt77:Nat:=11
def tr77:TG:=[tT 0 [0,4,5,6],tT 1 [0,6]]
def ac77:ACode:=codeF Pg Tryz.f77 tr77 tl13
def E77_0:EnvK:=EnvK.ofIO [⟨128,nt128,[⟨pa128_3,Fn128_3 f128_3⟩]⟩] noSeq [(128,[0])]
theorem eo77_0:E77_0.Ok Pg:=EnvK.ofIO_ok noSeq_ok ⟨⟨io128_3,TT⟩,TT⟩
def f77_0g (α:Type)(a:Int)(b c:Nat)(d:Int)(e g:Nat)(h:Int)(k1:Nat->Nat->Int->Int->Op α):Op α:=
 f128_3 α a b c d e g h
 (fun i j l m=>k1 i j l m)
def f77_0:Tf128_0:=sld f77_0g
def Fn77_0 (v:Tf128_0)(α:Type)(k:RT α):Int->Int->Int->Int->Int->Int->Int->Rows->Int->Int->Nat->Nat->Int->Nat->Nat->Int->Op α:=fun a b c d e g h i j l m o p q r s=>v α a m o p q r s (fun t w z A=>ur83_0_0 k t w z A b c d e g h i j l)
def cm77_0:MCode:=(emb ac77)
theorem io77_0:InstOk Pg 77 nt77 ⟨pa78_0,Fn77_0 f77_0⟩:=inst_s eo77_0 followsTry (codeF_is Tryz.func77 (by kernel_rfl)) sh78 cm77_0 (emb_erase _) (emb_good ac77) fun _ _=>by kernel_rfl
abbrev nt80:Nat:=55
def sh80:SG:=[(19,iT),(23,iT),(29,[.cpx .f64,.int .i64]),(39,iT),(44,[.cpx .f64,.int .i64]),(52,[.cpx .f64,.int .i64]),(53,[.cpx .f64,.int .i64])]
def tr80:TG:=[tT 0 [0,1,4],tT 1 [0,4,5,6],tT 2 [0,4,6,7],tT 3 [0,4,6,7,28],tT 4 [0,4],tT 5 [0,4,7,8],tT 6 [0,4,7,8,40],tT 7 [0,4,7,8],tT 8 [0,4]]
def ac80:ACode:=codeF Pg Tryz.f80 tr80 tl13
def p80_0_0:PT St:=pSv [(0,500000000,0)] [sl 0 (aV false [(cPtr 500000000 0)]),sP 4,sP 7,sP 8] [eBox 500000000 [xI,xI,xI,xI,xI,xI,xI,(cD dL),xI,xI],eBox 4 [(cD (dX .f64)),xI],eBox 7 [(cD (dX .f64)),xI],eBox 8 [(cD (dX .f64)),xI]]
def u80_0_0 {β:Type}(g:St->β):Int->Int->Int->Int->Int->Int->Int->Rows->Int->Int->Nat->Nat->Int->Nat->Nat->Int->Nat->Nat->Int->β:=p80_0_0.unc g
def p80_0_1:PT St:=pSv [(0,500000000,0)] [sl 0 (aV false [(cPtr 500000000 0)]),sP 4,sP 7,sP 8,sY 40 dB] [eBox 500000000 [xI,xI,xI,xI,xI,xI,xI,(cD dL),xI,xI],eBox 4 [(cD (dX .f64)),xI],eBox 7 [(cD (dX .f64)),xI],eBox 8 [(cD (dX .f64)),xI]]
def u80_0_1 {β:Type}(g:St->β):Bool->Int->Int->Int->Int->Int->Int->Int->Rows->Int->Int->Nat->Nat->Int->Nat->Nat->Int->Nat->Nat->Int->β:=p80_0_1.unc g
def E80_0:EnvK:=EnvK.ofIO [⟨82,nt82,[⟨pa82_0,Fn82_0 f82_0⟩]⟩,⟨39,nt39,[⟨pa19_0,Fn39_0 f39_0⟩]⟩,⟨40,nt40,[⟨pa19_0,Fn40_0 f40_0⟩]⟩,⟨81,nt81,[⟨pa134_0,Fn81_0 f81_0⟩]⟩,⟨134,nt134,[⟨pa134_0,Fn134_0 f134_0⟩]⟩,⟨135,nt135,[⟨pa135_0,Fn135_0 f135_0⟩]⟩,⟨83,nt83,[⟨pa83_0,Fn83_0 f83_0⟩]⟩,⟨75,nt75,[⟨pa78_0,Fn75_0 f75_0⟩]⟩] noSeq [(75,[0]),(81,[0]),(82,[0]),(83,[0]),(134,[0])]
theorem eo80_0:E80_0.Ok Pg:=EnvK.ofIO_ok noSeq_ok ⟨⟨io82_0,TT⟩,⟨io39_0,TT⟩,⟨io40_0,TT⟩,⟨io81_0,TT⟩,⟨io134_0,TT⟩,⟨io135_0,TT⟩,⟨io83_0,TT⟩,⟨io75_0,TT⟩,TT⟩
def c80_0_15:MCode:=MCode.sub [1,1,1,1,1,0] (emb ac80)
abbrev TJ80_0_0:Type 1:=(α:Type)->Int->Nat->Nat->Int->(Int->Nat->Nat->Int->Op α)->(Bool->Op α)->Op α
def J80_0_0g (α:Type)(a:Int)(b c:Nat)(d:Int)(k1:Int->Nat->Nat->Int->Op α)(k2:Bool->Op α):Op α:=
 cK (a == 0)
 (f135_0 α b c d 1
 (fun e g h i=>f83_0 α
 (k1 i e g h)))
 (k2 (a == 0))
def J80_0_0:TJ80_0_0:=sld J80_0_0g
def F80_0_0 (v:TJ80_0_0)(α:Type)(K:KT α):Int->Int->Int->Int->Int->Int->Int->Rows->Int->Int->Nat->Nat->Int->Nat->Nat->Int->Nat->Nat->Int->Op α:=fun b c d e g h i j l m o p q r s t w z A=>v α b w z A (fun a B C D=>u80_0_0 (K .normal) a c d e g h i j l m o p q r s t B C D) (fun a=>u80_0_1 (K .normal) a b c d e g h i j l m o p q r s t w z A)
theorem m80_0_0:∀ (α:Type) (K:KT α),F80_0_0 J80_0_0 α K=p80_0_0.unc fun σ=>runM Pg E80_0 sh80 c80_0_15 K σ:=sld0 (fun α K=>by kernel_rfl)
abbrev Tf80_0:Type 1:=(α:Type)->Int->Int->Rows->Int->Int->Int->(Nat->Nat->Int->Int->Op α)->Op α
def f80_0g (α:Type)(l m:Int)(o:Rows)(p q r:Int)(k1:Nat->Nat->Int->Int->Op α):Op α:=
 f82_0 α m o p q r
 (fun s t d=>f39_0 α (w64 (s*1048576)) 10000
 (fun w=>f40_0 α (w64 (t*1048576)) 10000
 (fun z=>f81_0 α l w z
 (fun a b c e=>cK (d == 0)
 (k1 a b c e)
 (f134_0 α e d 10000
 (fun g h i j=>J80_0_0 α j g h i
 (fun A B C D=>f75_0 α A a b c B C D
 (fun F G H I=>k1 F G H I))
 (fun O=>f75_0 α j a b c g h i
 (fun J L M N=>k1 J L M N))))))))
def f80_0:Tf80_0:=sld f80_0g
def Fn80_0 (v:Tf80_0)(α:Type)(k:RT α):Int->Int->Int->Int->Int->Int->Int->Rows->Int->Int->Int->Op α:=fun e a g h i j l b c d m=>v α e a b c d m (fun o p q r=>ur83_0_0 k o p q r a g h i j l b c d)
def cm80_0:MCode:=(MCode.put (.m [⟨p80_0_0,F80_0_0 J80_0_0⟩]) [1,1,1,1,1] (emb ac80))
theorem io80_0:InstOk Pg 80 nt80 ⟨pa82_0,Fn80_0 f80_0⟩:=inst_s eo80_0 followsTry (codeF_is Tryz.func80 (by kernel_rfl)) sh80 cm80_0 ((put_erase _ _).trans (emb_erase _)) (put_seq (by kernel_rfl) (emb_good ac80) ⟨m80_0_0,TT⟩) fun _ _=>by kernel_rfl
abbrev nt127:Nat:=55
def sh127:SG:=[(23,[.cpx .f64,.int .i64]),(25,[.cpx .f64,.int .i64]),(34,[.cpx .f64,.int .i64]),(36,[.cpx .f64,.int .i64]),(41,[.cpx .f64,.int .i64]),(42,[.cpx .f64,.int .i64]),(47,[.cpx .f64,.int .i64]),(48,[.cpx .f64,.int .i64]),(50,[.cpx .f64,.int .i64]),(51,[.cpx .f64,.int .i64]),(52,[.cpx .f64,.int .i64]),(53,[.cpx .f64,.int .i64])]
def tr127:TG:=[tT 0 [0,4,5,6],tT 1 [0,4,5,6,7],tT 2 [0,4,5,6,7,8],tT 3 [0,4,6,8,9],tT 4 [0,4,6,8,9,10],tT 5 [0,6,8,10,11],tT 6 [0,6]]
def ac127:ACode:=codeF Pg Tryz.f127 tr127 tl13
def E127_0:EnvK:=EnvK.ofIO [⟨134,nt134,[⟨pa134_0,Fn134_0 f134_0⟩]⟩,⟨123,nt123,[⟨pa124_0,Fn123_0 f123_0⟩]⟩,⟨75,nt75,[⟨pa78_0,Fn75_0 f75_0⟩]⟩,⟨76,nt76,[⟨pa78_0,Fn76_0 f76_0⟩]⟩,⟨78,nt78,[⟨pa78_0,Fn78_0 f78_0⟩]⟩,⟨77,nt77,[⟨pa78_0,Fn77_0 f77_0⟩]⟩] noSeq [(75,[0]),(76,[0]),(77,[0]),(78,[0]),(134,[0])]
theorem eo127_0:E127_0.Ok Pg:=EnvK.ofIO_ok noSeq_ok ⟨⟨io134_0,TT⟩,⟨io123_0,TT⟩,⟨io75_0,TT⟩,⟨io76_0,TT⟩,⟨io78_0,TT⟩,⟨io77_0,TT⟩,TT⟩
abbrev Tf127_0:Type 1:=(α:Type)->Int->Nat->Nat->Int->Nat->Nat->Int->(Nat->Nat->Int->Nat->Nat->Int->Nat->Nat->Int->Nat->Nat->Int->Int->Op α)->Op α
def f127_0g (α:Type)(s:Int)(a b:Nat)(c:Int)(d e:Nat)(g:Int)(k1:Nat->Nat->Int->Nat->Nat->Int->Nat->Nat->Int->Nat->Nat->Int->Int->Op α):Op α:=
 f134_0 α s 1 2
 (fun h i j t=>f123_0 α
 (f75_0 α t 4697254411347427328 0 0 d e g
 (fun w z A B=>f76_0 α B w z A h i j
 (fun l m o C=>f123_0 α
 (f78_0 α C 4697254411347427328 0 0 d e g
 (fun D F G H=>f76_0 α H D F G h i j
 (fun p q r I=>f77_0 α I p q r a b c
 (fun J L M N=>f76_0 α N p q r a b c
 (fun O P Q R=>k1 l m o J L M O P Q l m o R)))))))))
def f127_0:Tf127_0:=sld f127_0g
def Fn127_0 (v:Tf127_0)(α:Type)(k:RT α):Int->Int->Int->Int->Int->Int->Int->Rows->Int->Int->Nat->Nat->Int->Nat->Nat->Int->Op α:=fun a b c d e g h i j l m o p q r s=>v α a m o p q r s (fun t w z A B C D F G H I J L=>ur126_0_0 k t w z A B C D F G H I J L b c d e g h i j l)
def cm127_0:MCode:=(emb ac127)
theorem io127_0:InstOk Pg 127 nt127 ⟨pa78_0,Fn127_0 f127_0⟩:=inst_s eo127_0 followsTry (codeF_is Tryz.func127 (by kernel_rfl)) sh127 cm127_0 (emb_erase _) (emb_good ac127) fun _ _=>by kernel_rfl
abbrev nt35:Nat:=111
def sh35:SG:=[(22,iT),(28,iT),(36,iT),(42,iT),(50,[.cpx .f64,.int .i64]),(51,[.cpx .f64,.int .i64]),(56,[.cpx .f64,.int .i64]),(60,[.cpx .f64,.int .i64]),(61,[.cpx .f64,.int .i64]),(76,iT),(82,[.cpx .f64,.int .i64]),(90,[.cpx .f64,.int .i64]),(97,iT),(103,iS 2),(109,iT)]
def tr35:TG:=[tT 0 [0,1,4],tT 1 [0,1,4,6],tT 2 [0,1,4,6,7],tT 3 [0,1,4,7,8],tT 4 [0,1,4,8],tT 5 [0,4,8,10],tT 6 [0,4,8,71],tT 7 [0,4,8,77],tT 8 [0,4,5],tT 9 [0,4,5],tT 10 [0,4,11],tT 11 [0,4,11,98],tT 12 [0,4,5],tT 13 [0,4,5]]
def ac35:ACode:=codeF Pg Tryz.f35 tr35 tl13
def pr35_0_0:PT (List RV):=pRs [pR true [rD (dX .f64),rD (dI .i64)],pR false [rD dB],pR true [rD (dI .i64),rD (dI .i64),rD (dI .i64),rD (dI .i64),rD (dI .i64),rD (dI .i64),rD (dI .i64),rD dL,rD (dI .i64),rD (dI .i64)]]
def ur35_0_0 {β:Type}(g:List RV->β):Nat->Nat->Int->Bool->Int->Int->Int->Int->Int->Int->Int->Rows->Int->Int->β:=pr35_0_0.unc g
def E35_0:EnvK:=EnvK.ofIO [⟨80,nt80,[⟨pa82_0,Fn80_0 f80_0⟩]⟩,⟨39,nt39,[⟨pa19_0,Fn39_0 f39_0⟩]⟩,⟨40,nt40,[⟨pa19_0,Fn40_0 f40_0⟩]⟩,⟨81,nt81,[⟨pa134_0,Fn81_0 f81_0⟩]⟩,⟨76,nt76,[⟨pa78_0,Fn76_0 f76_0⟩]⟩,⟨78,nt78,[⟨pa78_0,Fn78_0 f78_0⟩]⟩,⟨82,nt82,[⟨pa82_0,Fn82_0 f82_0⟩]⟩,⟨84,nt84,[⟨pa86_0,Fn84_0 f84_0⟩]⟩,⟨83,nt83,[⟨pa83_0,Fn83_0 f83_0⟩]⟩,⟨33,nt33,[⟨pa33_0,Fn33_0 f33_0⟩]⟩,⟨85,nt85,[⟨pa161_0,Fn85_0 f85_0⟩]⟩] noSeq [(33,[0]),(76,[0]),(78,[0]),(80,[0]),(81,[0]),(82,[0]),(83,[0])]
theorem eo35_0:E35_0.Ok Pg:=EnvK.ofIO_ok noSeq_ok ⟨⟨io80_0,TT⟩,⟨io39_0,TT⟩,⟨io40_0,TT⟩,⟨io81_0,TT⟩,⟨io76_0,TT⟩,⟨io78_0,TT⟩,⟨io82_0,TT⟩,⟨io84_0,TT⟩,⟨io83_0,TT⟩,⟨io33_0,TT⟩,⟨io85_0,TT⟩,TT⟩
abbrev Tf35_0:Type 1:=(α:Type)->Int->Int->Int->Int->Rows->Int->Int->Int->(Nat->Nat->Int->Bool->Int->Op α)->Op α
def f35_0g (α:Type)(w a z A:Int)(c:Rows)(d e g:Int)(k1:Nat->Nat->Int->Bool->Int->Op α):Op α:=
 f80_0 α w a c d e g
 (fun h i j B=>f39_0 α (w64 ((w64 (a*z))*1048576)) 100000000
 (fun C=>f40_0 α (w64 ((w64 (a*A))*1048576)) 100000000
 (fun D=>f81_0 α B C D
 (fun l m o F=>f76_0 α F h i j h i j
 (fun G H I J=>f76_0 α J l m o l m o
 (fun L M N O=>f78_0 α O G H I L M N
 (fun p q r b=>f82_0 α a c d e g
 (fun a0 a1 P=>cK (P != 0)
 (cK (b != 0)
 (k1 0 0 0 false b)
 (f84_0 α p q r
 (fun Q R T U=>f83_0 α
 (k1 Q R T false U))))
 (f33_0 α b p q r
 (fun s V a2 a3 t=>cK (t != 0)
 (k1 0 0 0 false t)
 (f85_0 α s V
 (fun W X Y Z=>f83_0 α
 (k1 W X Y (decide (s < 0)) Z)))))))))))))
def f35_0:Tf35_0:=sld f35_0g
def Fn35_0 (v:Tf35_0)(α:Type)(k:RT α):Int->Int->Int->Int->Int->Int->Int->Rows->Int->Int->Int->Op α:=fun h a b c i j l d e g m=>v α h a b c d e g m (fun o p q r s=>ur35_0_0 k o p q r s a b c i j l d e g)
def cm35_0:MCode:=(emb ac35)
theorem io35_0:InstOk Pg 35 nt35 ⟨pa82_0,Fn35_0 f35_0⟩:=inst_s eo35_0 followsTry (codeF_is Tryz.func35 (by kernel_rfl)) sh35 cm35_0 (emb_erase _) (emb_good ac35) fun _ _=>by kernel_rfl
abbrev nt163:Nat:=81
def sh163:SG:=[(20,[.cpx .f64,.int .i64]),(26,[.sl]),(29,iS 5),(30,iS 5),(35,iT),(41,iS 4),(46,iS 2),(50,iT),(54,iT),(61,iT),(64,iT),(68,iT),(75,iT),(80,iS 4)]
def tr163:TG:=[tT 0 [0,1,4],tT 1 [0,1,4,5,6],tT 2 [0,1,4,6,7],tT 3 [0,4,6,7,8],tT 5 [0,4,6,7,8,33],tT 6 [0,4,7,8,37],tT 7 [0,4,7,8],tT 4 [0,4,7,8],tT 8 [0,4,7,8,41,42],tT 9 [0,4,7,8,41,42,43],tT 10 [0,4,7,8,9,10,41,42],tT 11 [0,4,7,8,9,10,41,42],tT 12 [0,4,7,8,41,42],tT 13 [0,4,7,8,41,42],tT 14 [0,4]]
def tl163:TG:=[tT 9 [0,4,7,8,41,42]]
def ac163:ACode:=codeF Pg Tryz.f163 tr163 tl163
def td163_23:OT:=tdC (MCode.sub [1,1,1,1,1,0,1,0] (emb ac163))
def p163_0_0:PT St:=pSv [(0,500000000,0)] [sl 0 (aV false [(cPtr 500000000 0)]),sP 4,sY 6 dB,sP 7,sP 8] [eBox 500000000 [xI,xI,xI,xI,xI,xI,xI,(cD dL),xI,xI],eBox 4 (xs 4),eBox 7 (xs 4),eBox 8 (xs 5)]
def u163_0_0 {β:Type}(g:St->β):Bool->Int->Int->Int->Int->Int->Int->Int->Rows->I15 β:=p163_0_0.unc g
def p163_0_1:PT St:=pSv [(0,500000000,0)] [sl 0 (aV false [(cPtr 500000000 0)]),sP 4,sY 6 dB,sP 7,sP 8,sY 33 dB] [eBox 500000000 [xI,xI,xI,xI,xI,xI,xI,(cD dL),xI,xI],eBox 4 (xs 4),eBox 7 (xs 4),eBox 8 (xs 5)]
def u163_0_1 {β:Type}(g:St->β):Bool->Bool->Int->Int->Int->Int->Int->Int->Int->Rows->I15 β:=p163_0_1.unc g
def p163_0_2:PT St:=pSv [(0,500000000,0)] [sl 0 (aV false [(cPtr 500000000 0)]),sP 4,sP 7,sP 8] [eBox 500000000 [xI,xI,xI,xI,xI,xI,xI,(cD dL),xI,xI],eBox 4 (xs 4),eBox 7 (xs 4),eBox 8 (xs 5)]
def u163_0_2 {β:Type}(g:St->β):Int->Int->Int->Int->Int->Int->Int->Rows->I15 β:=p163_0_2.unc g
def E163_0:EnvK:=EnvK.ofIO [⟨35,nt35,[⟨pa82_0,Fn35_0 f35_0⟩]⟩,⟨33,nt33,[⟨pa33_0,Fn33_0 f33_0⟩]⟩,⟨37,nt37,[⟨pa161_0,Fn37_0 f37_0⟩]⟩,⟨39,nt39,[⟨pa19_0,Fn39_0 f39_0⟩]⟩,⟨40,nt40,[⟨pa19_0,Fn40_0 f40_0⟩]⟩] noSeq [(33,[0]),(35,[0])]
theorem eo163_0:E163_0.Ok Pg:=EnvK.ofIO_ok noSeq_ok ⟨⟨io35_0,TT⟩,⟨io33_0,TT⟩,⟨io37_0,TT⟩,⟨io39_0,TT⟩,⟨io40_0,TT⟩,TT⟩
def c163_0_9:MCode:=MCode.sub [1,1,1,1,0] (emb ac163)
abbrev TJ163_0_0:Type 1:=(α:Type)->Bool->Int->Int->Int->Int->Int->(Bool->Op α)->(I4 (Op α))->Op α
def J163_0_0g (α:Type)(b:Bool)(c d e g a:Int)(k1:Bool->Op α)(k2:I4 (Op α)):Op α:=
 cK (a != 0)
 (k1 (a != 0))
 (cK b
 (k2 0 0 e g)
 (k2 c d 0 0))
def J163_0_0:TJ163_0_0:=sld J163_0_0g
def F163_0_0 (v:TJ163_0_0)(α:Type)(K:KT α):Bool->Int->Int->Int->Int->Int->Int->Int->Rows->I15 (Op α):=fun c d e g h i j l m o p q r s t w z A B C D F G a=>v α c w z A B a (fun b=>u163_0_1 (K .normal) c b d e g h i j l m o p q r s t w z A B C D F G a) (fun b H I J=>u163_0_2 (K .normal) d e g h i j l m o p q r s t b H I J C D F G a)
theorem m163_0_0:∀ (α:Type) (K:KT α),F163_0_0 J163_0_0 α K=p163_0_0.unc fun σ=>runM Pg E163_0 sh163 c163_0_9 K σ:=sld0 (fun α K=>by kernel_rfl)
abbrev Tf163_0:Type 1:=(α:Type)->Int->Int->Int->Int->Int->Int->Rows->Int->Int->Int->(I5 (Op α))->Op α
def f163_0g (α:Type)(o p q r a b:Int)(e:Rows)(s t g:Int)(k1:I5 (Op α)):Op α:=
 f35_0 α o p q r e s t g
 (fun w z A B C=>f33_0 α C w z A
 (fun h i j l m=>rowK e (w64 (g - 1)) [.int .i64,.int .i64,.int .i64,.int .i64,.int .i64]
 (fun a1 a2 c d D=>J163_0_0 α B h i j l D
 (fun a3=>f37_0 α h i
 (fun F G=>f39_0 α (w64 ((w64 (4*F))*c)) b
 (fun H=>f40_0 α (w64 ((w64 (4*G))*d)) a
 (fun I=>f37_0 α j l
 (fun J L=>f39_0 α (w64 ((w64 (4*J))*c)) b
 (fun M=>f40_0 α (w64 ((w64 (4*L))*d)) a
 (fun N=>k1 H I M N m)))))))
 (fun O P Q R=>f37_0 α O P
 (fun T U=>f39_0 α (w64 ((w64 (4*T))*c)) b
 (fun V=>f40_0 α (w64 ((w64 (4*U))*d)) a
 (fun W=>f37_0 α Q R
 (fun X Y=>f39_0 α (w64 ((w64 (4*X))*c)) b
 (fun Z=>f40_0 α (w64 ((w64 (4*Y))*d)) a
 (fun a0=>k1 V W Z a0 m))))))))))
def f163_0:Tf163_0:=sld f163_0g
def Fn163_0 (v:Tf163_0)(α:Type)(k:RT α):Int->Int->Int->Int->Int->Int->Int->Rows->Int->Int->Int->Op α:=fun j a b c l d e g h i m=>v α j a b c d e g h i m (fun o p q r s=>ur33_0_0 k o p q r s a b c l d e g h i)
def cm163_0:MCode:=(MCode.put (.m [⟨p163_0_0,F163_0_0 J163_0_0⟩]) [1,1,1,1] (MCode.put (.u 3) [1,1,1,1,1,0,1,0] (emb ac163)))
theorem io163_0:InstOk Pg 163 nt163 ⟨pa82_0,Fn163_0 f163_0⟩:=inst_s eo163_0 followsTry (codeF_is Tryz.func163 (by kernel_rfl)) sh163 cm163_0 ((put_erase _ _).trans ((put_erase _ _).trans (emb_erase _))) (put_seq (by kernel_rfl) (put_u (by decide) (emb_good ac163)) ⟨m163_0_0,TT⟩) fun _ _=>by kernel_rfl
abbrev nt34:Nat:=35
def sh34:SG:=[(18,iT),(20,[.cpx .f64,.int .i64]),(30,[.cpx .f64,.int .i64]),(31,[.cpx .f64,.int .i64]),(33,[.cpx .f64,.int .i64])]
def tr34:TG:=[tT 0 [0,1,4],tT 1 [0,1,4,5],tT 2 [0,1,4,5,19],tT 3 [0,4],tT 4 [0,4,5,7],tT 5 [0,4]]
def ac34:ACode:=codeF Pg Tryz.f34 tr34 tl13
def E34_0:EnvK:=EnvK.ofIO [⟨35,nt35,[⟨pa82_0,Fn35_0 f35_0⟩]⟩,⟨80,nt80,[⟨pa82_0,Fn80_0 f80_0⟩]⟩,⟨76,nt76,[⟨pa78_0,Fn76_0 f76_0⟩]⟩,⟨77,nt77,[⟨pa78_0,Fn77_0 f77_0⟩]⟩] noSeq [(35,[0]),(76,[0]),(77,[0]),(80,[0])]
theorem eo34_0:E34_0.Ok Pg:=EnvK.ofIO_ok noSeq_ok ⟨⟨io35_0,TT⟩,⟨io80_0,TT⟩,⟨io76_0,TT⟩,⟨io77_0,TT⟩,TT⟩
abbrev Tf34_0:Type 1:=(α:Type)->Int->Int->Int->Int->Int->Rows->Int->Int->Int->(Nat->Nat->Int->Int->Op α)->Op α
def f34_0g (α:Type)(p a q r s:Int)(b:Rows)(c d e:Int)(k1:Nat->Nat->Int->Int->Op α):Op α:=
 f35_0 α p a q r b c d e
 (fun g h i H j=>cK (s == 0)
 (k1 g h i j)
 (f80_0 α j a b c d e
 (fun l m o t=>f76_0 α t l m o l m o
 (fun w z A B=>f77_0 α B w z A g h i
 (fun C D F G=>k1 C D F G)))))
def f34_0:Tf34_0:=sld f34_0g
def Fn34_0 (v:Tf34_0)(α:Type)(k:RT α):Int->Int->Int->Int->Int->Int->Int->Rows->Int->Int->Int->Op α:=fun i a b c d j l e g h m=>v α i a b c d e g h m (fun o p q r=>ur83_0_0 k o p q r a b c d j l e g h)
def cm34_0:MCode:=(emb ac34)
theorem io34_0:InstOk Pg 34 nt34 ⟨pa82_0,Fn34_0 f34_0⟩:=inst_s eo34_0 followsTry (codeF_is Tryz.func34 (by kernel_rfl)) sh34 cm34_0 (emb_erase _) (emb_good ac34) fun _ _=>by kernel_rfl
abbrev nt125:Nat:=95
def sh125:SG:=[(22,iT),(28,iT),(37,iT),(43,iT),(46,iT),(53,iS 2),(62,iT),(68,iS 2),(79,iT),(85,[.cpx .f64,.int .i64]),(90,iT),(92,iT)]
def tr125:TG:=[tT 0 [0,1,2,6],tT 1 [0,2,6,7],tT 2 [0,2,6,7,14],tT 3 [0,2,6,7,14,15],tT 4 [0,2,6,7,8,14],tT 5 [0,2,6,7,14],tT 6 [0,2,6,7,14],tT 7 [0,6,7,38],tT 8 [0,6],tT 9 [0,6,7,9],tT 10 [0,6,7,9,48],tT 11 [0,6,7,9],tT 12 [0,6,7,9,63],tT 13 [0,6],tT 14 [0,6,7,9,10],tT 15 [0,6,9,10],tT 16 [0,6,9,10,80],tT 17 [0,6],tT 18 [0,6]]
def tl125:TG:=[tT 3 [0,2,6,7,14]]
def ac125:ACode:=codeF Pg Tryz.f125 tr125 tl125
def td125_9:OT:=tdC (MCode.sub [1,1,0,1,0] (emb ac125))
def p125_0_0:PT St:=pSv [(0,500000000,0)] [sl 0 (aV false [(cPtr 500000000 0)]),sP 6,sP 7,sP 9] [eBox 500000000 [xI,xI,xI,xI,xI,xI,xI,(cD dL),xI,xI],eBox 6 [(cD (dX .f64)),xI],eBox 7 (xs 4),eBox 9 [(cD (dX .f64)),xI]]
def u125_0_0 {β:Type}(g:St->β):Int->Int->Int->Int->Int->Int->Int->Rows->Int->Int->Nat->Nat->Int->Int->Int->Int->Int->Nat->Nat->Int->β:=p125_0_0.unc g
def p125_0_1:PT St:=pSv [(0,500000000,0)] [sl 0 (aV false [(cPtr 500000000 0)]),sP 6,sP 7,sP 9,sY 48 dB] [eBox 500000000 [xI,xI,xI,xI,xI,xI,xI,(cD dL),xI,xI],eBox 6 [(cD (dX .f64)),xI],eBox 7 (xs 4),eBox 9 [(cD (dX .f64)),xI]]
def u125_0_1 {β:Type}(g:St->β):Bool->Int->Int->Int->Int->Int->Int->Int->Rows->Int->Int->Nat->Nat->Int->Int->Int->Int->Int->Nat->Nat->Int->β:=p125_0_1.unc g
def E125_0:EnvK:=EnvK.ofIO [⟨163,nt163,[⟨pa82_0,Fn163_0 f163_0⟩]⟩,⟨164,nt164,[⟨pa161_0,Fn164_0 f164_0⟩]⟩,⟨83,nt83,[⟨pa83_0,Fn83_0 f83_0⟩]⟩,⟨165,nt165,[⟨pa161_0,Fn165_0 f165_0⟩]⟩,⟨81,nt81,[⟨pa134_0,Fn81_0 f81_0⟩]⟩,⟨76,nt76,[⟨pa78_0,Fn76_0 f76_0⟩]⟩] noSeq [(76,[0]),(81,[0]),(83,[0]),(163,[0])]
theorem eo125_0:E125_0.Ok Pg:=EnvK.ofIO_ok noSeq_ok ⟨⟨io163_0,TT⟩,⟨io164_0,TT⟩,⟨io83_0,TT⟩,⟨io165_0,TT⟩,⟨io81_0,TT⟩,⟨io76_0,TT⟩,TT⟩
def c125_0_28:MCode:=MCode.sub [1,1,1,1,1,0] (emb ac125)
abbrev TJ125_0_0:Type 1:=(α:Type)->Int->Int->(Int->Nat->Nat->Int->Op α)->(Bool->Op α)->Op α
def J125_0_0g (α:Type)(a b:Int)(k1:Int->Nat->Nat->Int->Op α)(k2:Bool->Op α):Op α:=
 cK (decide ((w64 (b - a)) < 1048576))
 (f164_0 α a b
 (fun c d e g=>f83_0 α
 (k1 g c d e)))
 (k2 (decide ((w64 (b - a)) < 1048576)))
def J125_0_0:TJ125_0_0:=sld J125_0_0g
def F125_0_0 (v:TJ125_0_0)(α:Type)(K:KT α):Int->Int->Int->Int->Int->Int->Int->Rows->Int->Int->Nat->Nat->Int->Int->Int->Int->Int->Nat->Nat->Int->Op α:=fun w d e g h i j l m o p q r a b s t z A B=>v α a b (fun c C D F=>u125_0_0 (K .normal) c d e g h i j l m o p q r a b s t C D F) (fun c=>u125_0_1 (K .normal) c w d e g h i j l m o p q r a b s t z A B)
theorem m125_0_0:∀ (α:Type) (K:KT α),F125_0_0 J125_0_0 α K=p125_0_0.unc fun σ=>runM Pg E125_0 sh125 c125_0_28 K σ:=sld0 (fun α K=>by kernel_rfl)
abbrev Tf125_0:Type 1:=(α:Type)->Int->Int->Int->Int->Int->Int->Rows->Int->Int->Int->Int->(Nat->Nat->Int->Int->Op α)->Op α
def f125_0g (α:Type)(i j l m o p:Int)(q:Rows)(r s t a:Int)(k1:Nat->Nat->Int->Int->Op α):Op α:=
 f163_0 α i j l m o p q r s t
 (fun w z e g b=>cK (b != 0)
 (k1 0 0 0 b)
 (J125_0_0 α (w64 (a*w)) (w64 (a*z))
 (fun h A B C=>cK (h != 0)
 (k1 0 0 0 h)
 (f165_0 α (w64 (a*e)) (w64 (a*g))
 (fun D F c=>cK (c != 0)
 (k1 0 0 0 c)
 (f81_0 α c D F
 (fun G H I J=>f76_0 α J A B C G H I
 (fun L M N O=>k1 L M N O))))))
 (fun a0=>cK (b != 0)
 (k1 0 0 0 b)
 (f165_0 α (w64 (a*e)) (w64 (a*g))
 (fun P Q d=>cK (d != 0)
 (k1 0 0 0 d)
 (f81_0 α d P Q
 (fun R T U V=>f76_0 α V 0 0 1048576 R T U
 (fun W X Y Z=>k1 W X Y Z))))))))
def f125_0:Tf125_0:=sld f125_0g
def Fn125_0 (v:Tf125_0)(α:Type)(k:RT α):Int->Int->Int->Int->Int->Int->Int->Rows->I4 (Op α):=fun j a b c l d e g h i m o=>v α j a b c d e g h i m o (fun p q r s=>ur83_0_0 k p q r s a b c l d e g h i)
def cm125_0:MCode:=(MCode.put (.u 3) [1,1,0,1,0] (MCode.put (.m [⟨p125_0_0,F125_0_0 J125_0_0⟩]) [1,1,1,1,1] (emb ac125)))
theorem io125_0:InstOk Pg 125 nt125 ⟨pa134_0,Fn125_0 f125_0⟩:=inst_s eo125_0 followsTry (codeF_is Tryz.func125 (by kernel_rfl)) sh125 cm125_0 ((put_erase _ _).trans ((put_erase _ _).trans (emb_erase _))) (put_u (by decide) (put_seq (by kernel_rfl) (emb_good ac125) ⟨m125_0_0,TT⟩)) fun _ _=>by kernel_rfl
abbrev nt74:Nat:=59
def sh74:SG:=[(22,[.sl]),(30,iT),(45,[.cpx .f64,.int .i64]),(51,[.cpx .f64,.int .i64,.cpx .f64,.int .i64,.cpx .f64,.int .i64,.cpx .f64,.int .i64]),(53,[.cpx .f64,.int .i64]),(54,[.cpx .f64,.int .i64]),(57,[.cpx .f64,.int .i64,.cpx .f64,.int .i64,.cpx .f64,.int .i64,.cpx .f64,.int .i64]),(58,[.cpx .f64,.int .i64])]
def tr74:TG:=[tT 0 [0,1,4,5],tT 1 [0,1,4,5,6,7],tT 2 [0,1,4,5,6,7,8],tT 3 [0,1,4,5,6,7,8,32],tT 5 [0,1,4,5,6,7,8,9],tT 6 [0,1,4,5,6,7,8,9,10],tT 7 [0,1,4,5,6,7,8,9,10,41],tT 8 [0,1,4,5,6,7,8,9,10],tT 9 [0,1,4,5,6,7,8],tT 4 [0,1,4,5,6,7,8],tT 10 [0,4,5]]
def tl74:TG:=[tT 3 [0,1,4,5,6,7,8]]
def ac74:ACode:=codeF Pg Tryz.f74 tr74 tl74
def td74_9:OT:=tdC (MCode.sub [1,1,0,1,0] (emb ac74))
def p74_0_0:PT St:=pSv [(0,500000000,0)] [sl 0 (aV false [(cPtr 500000000 0)]),sY 1 dB,sP 4,sP 5,sP 6,sP 7,sI 8,sP 9,sP 10] [eBox 500000000 [xI,xI,xI,xI,xI,xI,xI,(cD dL),xI,xI],eBox 4 [(cD (dX .f64)),xI,(cD (dX .f64)),xI,(cD (dX .f64)),xI,(cD (dX .f64)),xI],eBox 5 [(cD (dX .f64)),xI],eBox 6 [(cD (dX .f64)),xI,(cD (dX .f64)),xI,(cD (dX .f64)),xI,(cD (dX .f64)),xI],eBox 7 [(cD (dX .f64)),xI],eBox 9 [(cD (dX .f64)),xI],eBox 10 [(cD (dX .f64)),xI]]
def u74_0_0 {β:Type}(g:St->β):Bool->Int->Int->Int->Int->Int->Int->Int->Int->Rows->Int->Int->Nat->Nat->Int->Nat->Nat->Int->Nat->Nat->Int->Nat->Nat->Int->Nat->Nat->Int->Nat->Nat->Int->Nat->Nat->Int->Nat->Nat->Int->Nat->Nat->Int->Nat->Nat->Int->Nat->Nat->Int->Nat->Nat->Int->β:=p74_0_0.unc g
def p74_0_1:PT St:=pSv [(0,500000000,0)] [sl 0 (aV false [(cPtr 500000000 0)]),sY 1 dB,sP 4,sP 5,sP 6,sP 7,sI 8,sP 9,sP 10,sY 41 dB] [eBox 500000000 [xI,xI,xI,xI,xI,xI,xI,(cD dL),xI,xI],eBox 4 [(cD (dX .f64)),xI,(cD (dX .f64)),xI,(cD (dX .f64)),xI,(cD (dX .f64)),xI],eBox 5 [(cD (dX .f64)),xI],eBox 6 [(cD (dX .f64)),xI,(cD (dX .f64)),xI,(cD (dX .f64)),xI,(cD (dX .f64)),xI],eBox 7 [(cD (dX .f64)),xI],eBox 9 [(cD (dX .f64)),xI],eBox 10 [(cD (dX .f64)),xI]]
def u74_0_1 {β:Type}(g:St->β):Bool->Int->Bool->Int->Int->Int->Int->Int->Int->Int->Rows->Int->Int->Nat->Nat->Int->Nat->Nat->Int->Nat->Nat->Int->Nat->Nat->Int->Nat->Nat->Int->Nat->Nat->Int->Nat->Nat->Int->Nat->Nat->Int->Nat->Nat->Int->Nat->Nat->Int->Nat->Nat->Int->Nat->Nat->Int->β:=p74_0_1.unc g
def p74_0_2:PT St:=pSv [(0,500000000,0)] [sl 0 (aV false [(cPtr 500000000 0)]),sY 1 dB,sP 4,sP 5,sP 6,sP 7,sI 8] [eBox 500000000 [xI,xI,xI,xI,xI,xI,xI,(cD dL),xI,xI],eBox 4 [(cD (dX .f64)),xI,(cD (dX .f64)),xI,(cD (dX .f64)),xI,(cD (dX .f64)),xI],eBox 5 [(cD (dX .f64)),xI],eBox 6 [(cD (dX .f64)),xI,(cD (dX .f64)),xI,(cD (dX .f64)),xI,(cD (dX .f64)),xI],eBox 7 [(cD (dX .f64)),xI]]
def u74_0_2 {β:Type}(g:St->β):Bool->Int->Int->Int->Int->Int->Int->Int->Int->Rows->Int->Int->Nat->Nat->Int->Nat->Nat->Int->Nat->Nat->Int->Nat->Nat->Int->Nat->Nat->Int->Nat->Nat->Int->Nat->Nat->Int->Nat->Nat->Int->Nat->Nat->Int->Nat->Nat->Int->β:=p74_0_2.unc g
def p74_0_3:PT St:=pSv [(0,500000000,0)] [sl 0 (aV false [(cPtr 500000000 0)]),sY 1 dB,sP 4,sP 5,sP 6,sP 7,sI 8,sY 32 dB] [eBox 500000000 [xI,xI,xI,xI,xI,xI,xI,(cD dL),xI,xI],eBox 4 [(cD (dX .f64)),xI,(cD (dX .f64)),xI,(cD (dX .f64)),xI,(cD (dX .f64)),xI],eBox 5 [(cD (dX .f64)),xI],eBox 6 [(cD (dX .f64)),xI,(cD (dX .f64)),xI,(cD (dX .f64)),xI,(cD (dX .f64)),xI],eBox 7 [(cD (dX .f64)),xI]]
def u74_0_3 {β:Type}(g:St->β):Bool->Int->Bool->Int->Int->Int->Int->Int->Int->Int->Rows->Int->Int->Nat->Nat->Int->Nat->Nat->Int->Nat->Nat->Int->Nat->Nat->Int->Nat->Nat->Int->Nat->Nat->Int->Nat->Nat->Int->Nat->Nat->Int->Nat->Nat->Int->Nat->Nat->Int->β:=p74_0_3.unc g
def pr74_0_0:PT (List RV):=pRs [pR true [rD (dX .f64),rD (dI .i64),rD (dX .f64),rD (dI .i64),rD (dX .f64),rD (dI .i64),rD (dX .f64),rD (dI .i64)],pR true [rD (dX .f64),rD (dI .i64)],pR true [rD (dI .i64),rD (dI .i64),rD (dI .i64),rD (dI .i64),rD (dI .i64),rD (dI .i64),rD (dI .i64),rD dL,rD (dI .i64),rD (dI .i64)]]
def ur74_0_0 {β:Type}(g:List RV->β):Nat->Nat->Int->Nat->Nat->Int->Nat->Nat->Int->Nat->Nat->Int->Nat->Nat->Int->Int->Int->Int->Int->Int->Int->Int->Rows->Int->Int->β:=pr74_0_0.unc g
def E74_0:EnvK:=EnvK.ofIO [⟨123,nt123,[⟨pa124_0,Fn123_0 f123_0⟩]⟩,⟨124,nt124,[⟨pa124_0,Fn124_0 f124_0⟩]⟩,⟨34,nt34,[⟨pa82_0,Fn34_0 f34_0⟩]⟩,⟨125,nt125,[⟨pa134_0,Fn125_0 f125_0⟩]⟩,⟨76,nt76,[⟨pa78_0,Fn76_0 f76_0⟩]⟩,⟨127,nt127,[⟨pa78_0,Fn127_0 f127_0⟩]⟩,⟨126,nt126,[⟨pa126_0,Fn126_0 f126_0⟩]⟩] noSeq [(34,[0]),(76,[0]),(125,[0]),(126,[0]),(127,[0])]
theorem eo74_0:E74_0.Ok Pg:=EnvK.ofIO_ok noSeq_ok ⟨⟨io123_0,TT⟩,⟨io124_0,TT⟩,⟨io34_0,TT⟩,⟨io125_0,TT⟩,⟨io76_0,TT⟩,⟨io127_0,TT⟩,⟨io126_0,TT⟩,TT⟩
def c74_0_20:MCode:=MCode.sub [1,1,0,1,0,0,1,0,0,1,1,0] (emb ac74)
abbrev TJ74_0_0:Type 1:=(α:Type)->Bool->Int->Int->Int->Int->Int->Int->Int->Rows->Int->Int->Nat->Nat->Int->(Int->Nat->Nat->Int->Op α)->(Op α)->Op α
def J74_0_0g (α:Type)(a:Bool)(b c d e g h i:Int)(j:Rows)(l m:Int)(o p:Nat)(q:Int)(k1:Int->Nat->Nat->Int->Op α)(k2:Op α):Op α:=
 cK a
 (f125_0 α c d e g h i j l m b 1
 (fun r s t w=>f76_0 α w o p q r s t
 (fun z A B C=>k1 C z A B)))
 (k2)
def J74_0_0:TJ74_0_0:=sld J74_0_0g
def F74_0_0 (v:TJ74_0_0)(α:Type)(K:KT α):Bool->Int->Int->Int->Int->Int->Int->Int->Int->Rows->Int->Int->Nat->Nat->Int->Nat->Nat->Int->Nat->Nat->Int->Nat->Nat->Int->Nat->Nat->Int->Nat->Nat->Int->Nat->Nat->Int->Nat->Nat->Int->Nat->Nat->Int->Nat->Nat->Int->Nat->Nat->Int->Nat->Nat->Int->Op α:=fun a b m c d e o g h i j l p q r s t w z A B C D F G H I J L M N O P Q R T U V W X Y Z a0 a1 a2 a3 a4 a5=>v α a b m c d e g h i j l X Y Z (fun a6 a7 a8 a9=>u74_0_0 (K .normal) a b a6 c d e o g h i j l p q r s t w z A B C D F G H I J L M N O P Q R T U V W a7 a8 a9 a0 a1 a2 a3 a4 a5) (u74_0_1 (K .normal) a b a m c d e o g h i j l p q r s t w z A B C D F G H I J L M N O P Q R T U V W X Y Z a0 a1 a2 a3 a4 a5)
theorem m74_0_0:∀ (α:Type) (K:KT α),F74_0_0 J74_0_0 α K=p74_0_0.unc fun σ=>runM Pg E74_0 sh74 c74_0_20 K σ:=sld0 (fun α K=>by kernel_rfl)
def c74_0_9:MCode:=MCode.sub [1,1,0,1,0,0] (MCode.put (.m [⟨p74_0_0,F74_0_0 J74_0_0⟩]) [1,1,0,1,0,0,1,0,0,1,1] (emb ac74))
def S74_0_1 (α:Type)(P:Bool)(z A B Q F G:Int)(c:Rows)(C D a b:Int)(d e:Nat)(g:Int)(h i:Nat)(j:Int)(l m:Nat)(o:Int)(p q:Nat)(r:Int)(s t:Nat)(w:Int)(kn:Int->Int->Nat->Nat->Int->Nat->Nat->Int->Nat->Nat->Int->Nat->Nat->Int->Nat->Nat->Int->Op α)(k1:Int->Bool->Int->Nat->Nat->Int->Nat->Nat->Int->Nat->Nat->Int->Nat->Nat->Int->Nat->Nat->Int->Op α):Op α:=
 cK (decide (a<=((List.length c:Nat):Int)))
 (cK (b == 0)
 (f34_0 α b z A B Q c C D a
 (fun H I J R=>f125_0 α R z A B F G c C D a 2
 (fun L M N O=>J74_0_0 α P a O z A B F G c C D s t w
 (fun T U V W=>f127_0 α T H I J L M N
 (fun X Y Z a0 a1 a2 a3 a4 a5 a6 a7 a8 a9=>f126_0 α a9 d e g h i j l m o p q r X Y Z a0 a1 a2 a3 a4 a5 a6 a7 a8
 (fun b0 b1 b2 b3 b4 b5 b6 b7 b8 b9 c0 c1 c2=>kn (w64 (a+1)) c2 b0 b1 b2 b3 b4 b5 b6 b7 b8 b9 c0 c1 U V W)))
 (f127_0 α O H I J L M N
 (fun c3 c4 c5 c6 c7 c8 c9 d0 d1 d2 d3 d4 d5=>f126_0 α d5 d e g h i j l m o p q r c3 c4 c5 c6 c7 c8 c9 d0 d1 d2 d3 d4
 (fun d6 d7 d8 d9 e0 e1 e2 e3 e4 e5 e6 e7 e8=>kn (w64 (a+1)) e8 d6 d7 d8 d9 e0 e1 e2 e3 e4 e5 e6 e7 s t w))))))
 (k1 a (b == 0) b d e g h i j l m o p q r s t w))
 (k1 a false b d e g h i j l m o p q r s t w)
def R74_0_1 (α:Type)(a:Bool)(b c d e g h:Int)(i:Rows)(j l:Int)(k1:Int->Bool->Int->Nat->Nat->Int->Nat->Nat->Int->Nat->Nat->Int->Nat->Nat->Int->Nat->Nat->Int->Op α):Nat->Int->Int->Nat->Nat->Int->Nat->Nat->Int->Nat->Nat->Int->Nat->Nat->Int->Nat->Nat->Int->Op α
 | 0=>fun _ _ _ _ _ _ _ _ _ _ _ _ _ _ _ _ _=>none
 | n+1=>fun m o p q r s t w z A B C D F G H I=>S74_0_1 α a b c d e g h i j l m o p q r s t w z A B C D F G H I (R74_0_1 α a b c d e g h i j l k1 n) k1
def L74_0_1g (α:Type)(a:Bool)(b c d e g h:Int)(i:Rows)(j l:Int)(k1:Int->Bool->Int->Nat->Nat->Int->Nat->Nat->Int->Nat->Nat->Int->Nat->Nat->Int->Nat->Nat->Int->Op α)(m o:Int)(p q:Nat)(r:Int)(s t:Nat)(w:Int)(z A:Nat)(B:Int)(C D:Nat)(F:Int)(G H:Nat)(I:Int):Op α:=R74_0_1 α a b c d e g h i j l k1 fuel m o p q r s t w z A B C D F G H I
abbrev TL74_0_1:Type 1:=(α:Type)->Bool->Int->Int->Int->Int->Int->Int->Rows->Int->Int->(Int->Bool->Int->Nat->Nat->Int->Nat->Nat->Int->Nat->Nat->Int->Nat->Nat->Int->Nat->Nat->Int->Op α)->Int->Int->Nat->Nat->Int->Nat->Nat->Int->Nat->Nat->Int->Nat->Nat->Int->Nat->Nat->Int->Op α
def L74_0_1:TL74_0_1:=sld L74_0_1g
def F74_0_1 (v:TL74_0_1)(α:Type)(K:KT α):Bool->Int->Int->Int->Int->Int->Int->Int->Int->Rows->Int->Int->Nat->Nat->Int->Nat->Nat->Int->Nat->Nat->Int->Nat->Nat->Int->Nat->Nat->Int->Nat->Nat->Int->Nat->Nat->Int->Nat->Nat->Int->Nat->Nat->Int->Nat->Nat->Int->Op α:=fun a m o b c d e g h i j l p q r s t w z A B C D F G H I J L M N O P Q R T U V W X Y Z=>v α a b c d e g h i j l (fun a0 a1 a2 a3 a4 a5 a6 a7 a8 a9 b0 b1 b2 b3 b4 b5 b6 b7=>u74_0_3 (K (.exit 0)) a a0 a1 a2 b c d e g h i j l p q r s t w z A B C D F G H I a3 a4 a5 a6 a7 a8 a9 b0 b1 b2 b3 b4 b5 b6 b7) m o J L M N O P Q R T U V W X Y Z
theorem r74_0_1 (α:Type)(K:KT α)(Kn:SK α)(a:Bool)(b c d e g h i j:Int)(l:Rows)(m o:Int)(J L:Nat)(M:Int)(N O:Nat)(P:Int)(Q R:Nat)(T:Int)(U V:Nat)(W:Int)(X Y:Nat)(Z:Int)(p q:Nat)(r:Int)(s t:Nat)(w:Int)(z A:Nat)(B:Int)(C D:Nat)(F:Int)(G H:Nat)(I:Int):u74_0_2 (fun σ=>runM Pg E74_0 sh74 c74_0_9 (thenK (fun σ=>tidyK td74_9 σ Kn) K) σ) a b c d e g h i j l m o J L M N O P Q R T U V W X Y Z p q r s t w z A B C D F G H I=S74_0_1 α a d e g h i j l m o b c p q r s t w z A B C D F G H I (fun b c p q r s t w z A B C D F G H I=>u74_0_2 Kn a b c d e g h i j l m o J L M N O P Q R T U V W X Y Z p q r s t w z A B C D F G H I) (fun a0 a1 a2 a3 a4 a5 a6 a7 a8 a9 b0 b1 b2 b3 b4 b5 b6 b7=>u74_0_3 (K (.exit 0)) a a0 a1 a2 d e g h i j l m o J L M N O P Q R T U V W X Y Z a3 a4 a5 a6 a7 a8 a9 b0 b1 b2 b3 b4 b5 b6 b7):=by kernel_rfl
theorem t74_0_1 (α:Type)(K:KT α):∀ (n:Nat) (a:Bool) (m o b c d e g h:Int) (i:Rows) (j l:Int) (J L:Nat) (M:Int) (N O:Nat) (P:Int) (Q R:Nat) (T:Int) (U V:Nat) (W:Int) (X Y:Nat) (Z:Int) (p q:Nat) (r:Int) (s t:Nat) (w:Int) (z A:Nat) (B:Int) (C D:Nat) (F:Int) (G H:Nat) (I:Int),R74_0_1 α a b c d e g h i j l (fun a0 a1 a2 a3 a4 a5 a6 a7 a8 a9 b0 b1 b2 b3 b4 b5 b6 b7=>u74_0_3 (K (.exit 0)) a a0 a1 a2 b c d e g h i j l J L M N O P Q R T U V W X Y Z a3 a4 a5 a6 a7 a8 a9 b0 b1 b2 b3 b4 b5 b6 b7) n m o p q r s t w z A B C D F G H I=u74_0_2 (loopT (runM Pg E74_0 sh74 c74_0_9) td74_9 K n) a m o b c d e g h i j l J L M N O P Q R T U V W X Y Z p q r s t w z A B C D F G H I:=by
 intro n
 induction n with
 | zero=>intros;rfl
 | succ n ih=>intro a m o b c d e g h i j l J L M N O P Q R T U V W X Y Z p q r s t w z A B C D F G H I;exact (congrArg (fun kn=>S74_0_1 α a b c d e g h i j l m o p q r s t w z A B C D F G H I kn (fun a0 a1 a2 a3 a4 a5 a6 a7 a8 a9 b0 b1 b2 b3 b4 b5 b6 b7=>u74_0_3 (K (.exit 0)) a a0 a1 a2 b c d e g h i j l J L M N O P Q R T U V W X Y Z a3 a4 a5 a6 a7 a8 a9 b0 b1 b2 b3 b4 b5 b6 b7)) (funext fun m=>funext fun o=>funext fun p=>funext fun q=>funext fun r=>funext fun s=>funext fun t=>funext fun w=>funext fun z=>funext fun A=>funext fun B=>funext fun C=>funext fun D=>funext fun F=>funext fun G=>funext fun H=>funext fun I=>ih a m o b c d e g h i j l J L M N O P Q R T U V W X Y Z p q r s t w z A B C D F G H I)).trans (r74_0_1 α K (loopT (runM Pg E74_0 sh74 c74_0_9) td74_9 K n) a m o b c d e g h i j l J L M N O P Q R T U V W X Y Z p q r s t w z A B C D F G H I).symm
theorem m74_0_1:∀ (α:Type) (K:KT α),F74_0_1 L74_0_1 α K=p74_0_2.unc fun σ=>loopT (runM Pg E74_0 sh74 c74_0_9) td74_9 K fuel σ:=sld0 (fun α K=>funext fun a=>funext fun b=>funext fun c=>funext fun d=>funext fun e=>funext fun g=>funext fun h=>funext fun i=>funext fun j=>funext fun l=>funext fun m=>funext fun o=>funext fun p=>funext fun q=>funext fun r=>funext fun s=>funext fun t=>funext fun w=>funext fun z=>funext fun A=>funext fun B=>funext fun C=>funext fun D=>funext fun F=>funext fun G=>funext fun H=>funext fun I=>funext fun J=>funext fun L=>funext fun M=>funext fun N=>funext fun O=>funext fun P=>funext fun Q=>funext fun R=>funext fun T=>funext fun U=>funext fun V=>funext fun W=>funext fun X=>funext fun Y=>funext fun Z=>t74_0_1 α K fuel a b c d e g h i j l m o p q r s t w z A B C D F G H I J L M N O P Q R T U V W X Y Z)
abbrev Tf74_0:Type 1:=(α:Type)->Int->Int->Int->Int->Int->Int->Int->Rows->Int->Int->Bool->(Nat->Nat->Int->Nat->Nat->Int->Nat->Nat->Int->Nat->Nat->Int->Nat->Nat->Int->Int->Op α)->Op α
def f74_0g (α:Type)(a b c d e g h:Int)(i:Rows)(j l:Int)(m:Bool)(k1:Nat->Nat->Int->Nat->Nat->Int->Nat->Nat->Int->Nat->Nat->Int->Nat->Nat->Int->Int->Op α):Op α:=
 f123_0 α
 (f124_0 α
 (f124_0 α
 (f123_0 α
 (f123_0 α
 (L74_0_1 α m b c d e g h i j l
 (fun J L o p q r s t w z A B C D F G H I=>k1 p q r s t w z A B C D F G H I o) 1 a 4697254411347427328 0 0 0 0 0 0 0 0 4697254411347427328 0 0 4697254411347427328 0 0)))))
def f74_0:Tf74_0:=sld f74_0g
def pa74_0:PT (List DV):=pA [pV false [(dMr [(dI .i64),(dI .i64),(dI .i64),(dI .i64),(dI .i64),(dI .i64),(dI .i64),dL,(dI .i64),(dI .i64)] 0)],pV false [dB]]
def Fn74_0 (v:Tf74_0)(α:Type)(k:RT α):Int->Int->Int->Int->Int->Int->Int->Rows->Int->Int->Bool->Op α:=fun l a b c d e g h i j m=>v α l a b c d e g h i j m (fun o p q r s t w z A B C D F G H I=>ur74_0_0 k o p q r s t w z A B C D F G H I a b c d e g h i j)
def cm74_0:MCode:=(MCode.put (.m [⟨p74_0_2,F74_0_1 L74_0_1⟩]) [1,1,0,1,0] (MCode.put (.m [⟨p74_0_0,F74_0_0 J74_0_0⟩]) [1,1,0,1,0,0,1,0,0,1,1] (emb ac74)))
theorem io74_0:InstOk Pg 74 nt74 ⟨pa74_0,Fn74_0 f74_0⟩:=inst_s eo74_0 followsTry (codeF_is Tryz.func74 (by kernel_rfl)) sh74 cm74_0 ((put_erase _ _).trans ((put_erase _ _).trans (emb_erase _))) (put_loop (td:=td74_9) (by kernel_rfl) (put_seq (by kernel_rfl) (emb_good ac74) ⟨m74_0_0,TT⟩) ⟨m74_0_1,TT⟩) fun _ _=>by kernel_rfl
end
end Go.AM.K
