/- Printed by KGen. -/
import Derived.Test.YtaondhhdefbfkaaGreatRc
namespace Go.AM.K
open Go.Proofs
set_option maxRecDepth 100000
set_option linter.unusedVariables false
noncomputable section
abbrev nt59:Nat:=8
def sh59:SG:=[(4,[.cpx .f64,.int .i64])]
def tr59:TG:=[tT 0 [1,2],tT 1 [2,3]]
def tl59:TG:=[]
def ac59:ACode:=codeF Pg Tryz.f59 tr59 tl59
def rs59:List AResV:=resF Pg Tryz.f59
def pr59_0_0:PT (List RV):=pRs [pR true [rD (dX .f64),rD (dI .i64)],wI]
def ur59_0_0 {β:Type}(g:List RV->β):Nat->Nat->Int->Int->β:=pr59_0_0.unc g
def E59_0g (a:Tf91_4):EnvK:=EnvK.of [⟨91,nt91,[⟨pa91_4,Fn91_4 a⟩]⟩] noSeq
def E59_0:EnvK:=E59_0g f91_4
theorem eo59_0:E59_0.Ok Pg:=EnvK.of_ok noSeq_ok ⟨⟨io91_4,TT⟩,TT⟩
abbrev Tf59_0:Type 1:=(α:Type)->Nat->Nat->Int->(Nat->Nat->Int->Int->Op α)->Op α
def f59_0g (a:Tf91_4)(α:Type)(b c:Nat)(d:Int)(k1:Nat->Nat->Int->Int->Op α):Op α:=
 a α b c d
 (fun e g h i=>k1 e g h i)
def f59_0 (α:Type)(a b:Nat)(c:Int)(k1:Nat->Nat->Int->Int->Op α):Op α:=f59_0g f91_4 α a b c k1
def pa59_0:PT (List DV):=pA [pV true [(dX .f64),(dI .i64)]]
def Fn59_0 (v:Tf59_0)(α:Type)(k:RT α):Nat->Nat->Int->Op α:=fun a b c=>v α a b c (fun d e g h=>ur59_0_0 k d e g h)
def cm59_0g:MCode:=(emb ac59)
def cm59_0:MCode:=cm59_0g
theorem gm59_0:cm59_0.Good Pg E59_0 sh59:=(emb_good ac59)
theorem em59_0:cm59_0.erase=ac59:=(emb_erase _)
theorem fm59_0g (a:Tf91_4)(α:Type)(k:RT α):Fn59_0 (f59_0g a) α k=pa59_0.unc fun ds=>fnM Pg (E59_0g a) sh59 (cm59_0g ) rs59 k ds:=by kernel_rfl
theorem fm59_0:∀ (α:Type) (k:RT α),Fn59_0 f59_0 α k=pa59_0.unc fun ds=>fnM Pg E59_0 sh59 cm59_0 rs59 k ds:=fm59_0g f91_4
theorem is59:FnIs Pg 59 nt59 tr59 tl59 ac59 rs59:=codeF_is Tryz.func59 (by kernel_rfl)
theorem io59_0:InstOk Pg 59 nt59 ⟨pa59_0,Fn59_0 f59_0⟩:=inst_ok eo59_0 followsTry is59 ⟨⟨sh59,cm59_0,em59_0,gm59_0,fm59_0⟩⟩
abbrev nt89:Nat:=11
def sh89:SG:=[(6,[.cpx .f64,.int .i64])]
def tr89:TG:=[tT 0 [2,3,4],tT 1 [4,5]]
def tl89:TG:=[]
def ac89:ACode:=codeF Pg Tryz.f89 tr89 tl89
def rs89:List AResV:=resF Pg Tryz.f89
def pr89_0_0:PT (List RV):=pRs [pR true [rD (dX .f64),rD (dI .i64)],wI]
def ur89_0_0 {β:Type}(g:List RV->β):Nat->Nat->Int->Int->β:=pr89_0_0.unc g
def E89_0g (a:Tf91_0):EnvK:=EnvK.of [⟨91,nt91,[⟨pa91_0,Fn91_0 a⟩]⟩] noSeq
def E89_0:EnvK:=E89_0g f91_0
theorem eo89_0:E89_0.Ok Pg:=EnvK.of_ok noSeq_ok ⟨⟨io91_0,TT⟩,TT⟩
abbrev Tf89_0:Type 1:=(α:Type)->Nat->Nat->Int->Int->(Nat->Nat->Int->Int->Op α)->Op α
def f89_0g (a:Tf91_0)(α:Type)(b c:Nat)(d e:Int)(k1:Nat->Nat->Int->Int->Op α):Op α:=
 a α b c d e
 (fun g h i j=>k1 g h i j)
def f89_0 (α:Type)(a b:Nat)(c d:Int)(k1:Nat->Nat->Int->Int->Op α):Op α:=f89_0g f91_0 α a b c d k1
def pa89_0:PT (List DV):=pA [pV true [(dX .f64),(dI .i64)],vI]
def Fn89_0 (v:Tf89_0)(α:Type)(k:RT α):Nat->Nat->Int->Int->Op α:=fun a b c d=>v α a b c d (fun e g h i=>ur89_0_0 k e g h i)
def cm89_0g:MCode:=(emb ac89)
def cm89_0:MCode:=cm89_0g
theorem gm89_0:cm89_0.Good Pg E89_0 sh89:=(emb_good ac89)
theorem em89_0:cm89_0.erase=ac89:=(emb_erase _)
theorem fm89_0g (a:Tf91_0)(α:Type)(k:RT α):Fn89_0 (f89_0g a) α k=pa89_0.unc fun ds=>fnM Pg (E89_0g a) sh89 (cm89_0g ) rs89 k ds:=by kernel_rfl
theorem fm89_0:∀ (α:Type) (k:RT α),Fn89_0 f89_0 α k=pa89_0.unc fun ds=>fnM Pg E89_0 sh89 cm89_0 rs89 k ds:=fm89_0g f91_0
theorem is89:FnIs Pg 89 nt89 tr89 tl89 ac89 rs89:=codeF_is Tryz.func89 (by kernel_rfl)
theorem io89_0:InstOk Pg 89 nt89 ⟨pa89_0,Fn89_0 f89_0⟩:=inst_ok eo89_0 followsTry is89 ⟨⟨sh89,cm89_0,em89_0,gm89_0,fm89_0⟩⟩
abbrev nt111:Nat:=24
def sh111:SG:=[(11,[.cpx .f64,.int .i64]),(19,[.cpx .f64,.int .i64])]
def tr111:TG:=[tT 0 [3,4,5,6],tT 1 [4,5,6,8,9],tT 2 [4,5,6,8,9,16],tT 3 [6,7],tT 4 [6,7]]
def tl111:TG:=[]
def ac111:ACode:=codeF Pg Tryz.f111 tr111 tl111
def rs111:List AResV:=resF Pg Tryz.f111
def pr111_0_0:PT (List RV):=pRs [pR true [rD (dX .f64),rD (dI .i64)],wI]
def ur111_0_0 {β:Type}(g:List RV->β):Nat->Nat->Int->Int->β:=pr111_0_0.unc g
def E111_0g (a:Tf61_0)(b:Tf91_1):EnvK:=EnvK.of [⟨61,nt61,[⟨pa61_0,Fn61_0 a⟩]⟩,⟨91,nt91,[⟨pa91_1,Fn91_1 b⟩]⟩] noSeq
def E111_0:EnvK:=E111_0g f61_0 f91_1
theorem eo111_0:E111_0.Ok Pg:=EnvK.of_ok noSeq_ok ⟨⟨io61_0,TT⟩,⟨io91_1,TT⟩,TT⟩
abbrev Tf111_0:Type 1:=(α:Type)->Nat->Nat->Int->Nat->Nat->Int->(Nat->Nat->Int->Int->Op α)->Op α
def f111_0g (c:Tf61_0)(d:Tf91_1)(α:Type)(e g:Nat)(a:Int)(h i:Nat)(j:Int)(k1:Nat->Nat->Int->Int->Op α):Op α:=
 c α e g a
 (fun l m b=>cK (b != 0)
 (k1 0 0 0 b)
 (d α h i j l m a
 (fun o p q r=>k1 o p q r)))
def f111_0 (α:Type)(a b:Nat)(c:Int)(d e:Nat)(g:Int)(k1:Nat->Nat->Int->Int->Op α):Op α:=f111_0g f61_0 f91_1 α a b c d e g k1
def pa111_0:PT (List DV):=pA [pV true [(dX .f64),(dI .i64)],pV true [(dX .f64),(dI .i64)],pV false [(dFn 112 [])]]
def Fn111_0 (v:Tf111_0)(α:Type)(k:RT α):Nat->Nat->Int->Nat->Nat->Int->Op α:=fun a b c d e g=>v α a b c d e g (fun h i j l=>ur111_0_0 k h i j l)
def cm111_0g:MCode:=(emb ac111)
def cm111_0:MCode:=cm111_0g
theorem gm111_0:cm111_0.Good Pg E111_0 sh111:=(emb_good ac111)
theorem em111_0:cm111_0.erase=ac111:=(emb_erase _)
theorem fm111_0g (a:Tf61_0)(b:Tf91_1)(α:Type)(k:RT α):Fn111_0 (f111_0g a b) α k=pa111_0.unc fun ds=>fnM Pg (E111_0g a b) sh111 (cm111_0g ) rs111 k ds:=by kernel_rfl
theorem fm111_0:∀ (α:Type) (k:RT α),Fn111_0 f111_0 α k=pa111_0.unc fun ds=>fnM Pg E111_0 sh111 cm111_0 rs111 k ds:=fm111_0g f61_0 f91_1
theorem is111:FnIs Pg 111 nt111 tr111 tl111 ac111 rs111:=codeF_is Tryz.func111 (by kernel_rfl)
theorem io111_0:InstOk Pg 111 nt111 ⟨pa111_0,Fn111_0 f111_0⟩:=inst_ok eo111_0 followsTry is111 ⟨⟨sh111,cm111_0,em111_0,gm111_0,fm111_0⟩⟩
def pr111_1_0:PT (List RV):=pRs [pR true [rD (dX .f64),rD (dI .i64)],wI]
def ur111_1_0 {β:Type}(g:List RV->β):Nat->Nat->Int->Int->β:=pr111_1_0.unc g
def E111_1g (a:Tf61_0)(b:Tf91_2):EnvK:=EnvK.of [⟨61,nt61,[⟨pa61_0,Fn61_0 a⟩]⟩,⟨91,nt91,[⟨pa91_2,Fn91_2 b⟩]⟩] noSeq
def E111_1:EnvK:=E111_1g f61_0 f91_2
theorem eo111_1:E111_1.Ok Pg:=EnvK.of_ok noSeq_ok ⟨⟨io61_0,TT⟩,⟨io91_2,TT⟩,TT⟩
abbrev Tf111_1:Type 1:=(α:Type)->Nat->Nat->Int->Nat->Nat->Int->(Nat->Nat->Int->Int->Op α)->Op α
def f111_1g (c:Tf61_0)(d:Tf91_2)(α:Type)(e g:Nat)(a:Int)(h i:Nat)(j:Int)(k1:Nat->Nat->Int->Int->Op α):Op α:=
 c α e g a
 (fun l m b=>cK (b != 0)
 (k1 0 0 0 b)
 (d α h i j l m a
 (fun o p q r=>k1 o p q r)))
def f111_1 (α:Type)(a b:Nat)(c:Int)(d e:Nat)(g:Int)(k1:Nat->Nat->Int->Int->Op α):Op α:=f111_1g f61_0 f91_2 α a b c d e g k1
def pa111_1:PT (List DV):=pA [pV true [(dX .f64),(dI .i64)],pV true [(dX .f64),(dI .i64)],pV false [(dFn 114 [])]]
def Fn111_1 (v:Tf111_1)(α:Type)(k:RT α):Nat->Nat->Int->Nat->Nat->Int->Op α:=fun a b c d e g=>v α a b c d e g (fun h i j l=>ur111_1_0 k h i j l)
def cm111_1g:MCode:=(emb ac111)
def cm111_1:MCode:=cm111_1g
theorem gm111_1:cm111_1.Good Pg E111_1 sh111:=(emb_good ac111)
theorem em111_1:cm111_1.erase=ac111:=(emb_erase _)
theorem fm111_1g (a:Tf61_0)(b:Tf91_2)(α:Type)(k:RT α):Fn111_1 (f111_1g a b) α k=pa111_1.unc fun ds=>fnM Pg (E111_1g a b) sh111 (cm111_1g ) rs111 k ds:=by kernel_rfl
theorem fm111_1:∀ (α:Type) (k:RT α),Fn111_1 f111_1 α k=pa111_1.unc fun ds=>fnM Pg E111_1 sh111 cm111_1 rs111 k ds:=fm111_1g f61_0 f91_2
theorem io111_1:InstOk Pg 111 nt111 ⟨pa111_1,Fn111_1 f111_1⟩:=inst_ok eo111_1 followsTry is111 ⟨⟨sh111,cm111_1,em111_1,gm111_1,fm111_1⟩⟩
def pr111_2_0:PT (List RV):=pRs [pR true [rD (dX .f64),rD (dI .i64)],wI]
def ur111_2_0 {β:Type}(g:List RV->β):Nat->Nat->Int->Int->β:=pr111_2_0.unc g
def E111_2g (a:Tf61_0)(b:Tf91_3):EnvK:=EnvK.of [⟨61,nt61,[⟨pa61_0,Fn61_0 a⟩]⟩,⟨91,nt91,[⟨pa91_3,Fn91_3 b⟩]⟩] noSeq
def E111_2:EnvK:=E111_2g f61_0 f91_3
theorem eo111_2:E111_2.Ok Pg:=EnvK.of_ok noSeq_ok ⟨⟨io61_0,TT⟩,⟨io91_3,TT⟩,TT⟩
abbrev Tf111_2:Type 1:=(α:Type)->Nat->Nat->Int->Nat->Nat->Int->(Nat->Nat->Int->Int->Op α)->Op α
def f111_2g (c:Tf61_0)(d:Tf91_3)(α:Type)(e g:Nat)(a:Int)(h i:Nat)(j:Int)(k1:Nat->Nat->Int->Int->Op α):Op α:=
 c α e g a
 (fun l m b=>cK (b != 0)
 (k1 0 0 0 b)
 (d α h i j l m a
 (fun o p q r=>k1 o p q r)))
def f111_2 (α:Type)(a b:Nat)(c:Int)(d e:Nat)(g:Int)(k1:Nat->Nat->Int->Int->Op α):Op α:=f111_2g f61_0 f91_3 α a b c d e g k1
def pa111_2:PT (List DV):=pA [pV true [(dX .f64),(dI .i64)],pV true [(dX .f64),(dI .i64)],pV false [(dFn 122 [])]]
def Fn111_2 (v:Tf111_2)(α:Type)(k:RT α):Nat->Nat->Int->Nat->Nat->Int->Op α:=fun a b c d e g=>v α a b c d e g (fun h i j l=>ur111_2_0 k h i j l)
def cm111_2g:MCode:=(emb ac111)
def cm111_2:MCode:=cm111_2g
theorem gm111_2:cm111_2.Good Pg E111_2 sh111:=(emb_good ac111)
theorem em111_2:cm111_2.erase=ac111:=(emb_erase _)
theorem fm111_2g (a:Tf61_0)(b:Tf91_3)(α:Type)(k:RT α):Fn111_2 (f111_2g a b) α k=pa111_2.unc fun ds=>fnM Pg (E111_2g a b) sh111 (cm111_2g ) rs111 k ds:=by kernel_rfl
theorem fm111_2:∀ (α:Type) (k:RT α),Fn111_2 f111_2 α k=pa111_2.unc fun ds=>fnM Pg E111_2 sh111 cm111_2 rs111 k ds:=fm111_2g f61_0 f91_3
theorem io111_2:InstOk Pg 111 nt111 ⟨pa111_2,Fn111_2 f111_2⟩:=inst_ok eo111_2 followsTry is111 ⟨⟨sh111,cm111_2,em111_2,gm111_2,fm111_2⟩⟩
def pr111_3_0:PT (List RV):=pRs [pR true [rD (dX .f64),rD (dI .i64)],wI]
def ur111_3_0 {β:Type}(g:List RV->β):Nat->Nat->Int->Int->β:=pr111_3_0.unc g
def E111_3g (a:Tf61_0)(b:Tf91_5):EnvK:=EnvK.of [⟨61,nt61,[⟨pa61_0,Fn61_0 a⟩]⟩,⟨91,nt91,[⟨pa91_5,Fn91_5 b⟩]⟩] noSeq
def E111_3:EnvK:=E111_3g f61_0 f91_5
theorem eo111_3:E111_3.Ok Pg:=EnvK.of_ok noSeq_ok ⟨⟨io61_0,TT⟩,⟨io91_5,TT⟩,TT⟩
abbrev Tf111_3:Type 1:=(α:Type)->Nat->Nat->Int->Nat->Nat->Int->(Nat->Nat->Int->Int->Op α)->Op α
def f111_3g (c:Tf61_0)(d:Tf91_5)(α:Type)(e g:Nat)(a:Int)(h i:Nat)(j:Int)(k1:Nat->Nat->Int->Int->Op α):Op α:=
 c α e g a
 (fun l m b=>cK (b != 0)
 (k1 0 0 0 b)
 (d α h i j l m a
 (fun o p q r=>k1 o p q r)))
def f111_3 (α:Type)(a b:Nat)(c:Int)(d e:Nat)(g:Int)(k1:Nat->Nat->Int->Int->Op α):Op α:=f111_3g f61_0 f91_5 α a b c d e g k1
def pa111_3:PT (List DV):=pA [pV true [(dX .f64),(dI .i64)],pV true [(dX .f64),(dI .i64)],pV false [(dFn 118 [])]]
def Fn111_3 (v:Tf111_3)(α:Type)(k:RT α):Nat->Nat->Int->Nat->Nat->Int->Op α:=fun a b c d e g=>v α a b c d e g (fun h i j l=>ur111_3_0 k h i j l)
def cm111_3g:MCode:=(emb ac111)
def cm111_3:MCode:=cm111_3g
theorem gm111_3:cm111_3.Good Pg E111_3 sh111:=(emb_good ac111)
theorem em111_3:cm111_3.erase=ac111:=(emb_erase _)
theorem fm111_3g (a:Tf61_0)(b:Tf91_5)(α:Type)(k:RT α):Fn111_3 (f111_3g a b) α k=pa111_3.unc fun ds=>fnM Pg (E111_3g a b) sh111 (cm111_3g ) rs111 k ds:=by kernel_rfl
theorem fm111_3:∀ (α:Type) (k:RT α),Fn111_3 f111_3 α k=pa111_3.unc fun ds=>fnM Pg E111_3 sh111 cm111_3 rs111 k ds:=fm111_3g f61_0 f91_5
theorem io111_3:InstOk Pg 111 nt111 ⟨pa111_3,Fn111_3 f111_3⟩:=inst_ok eo111_3 followsTry is111 ⟨⟨sh111,cm111_3,em111_3,gm111_3,fm111_3⟩⟩
abbrev nt60:Nat:=57
def sh60:SG:=[(9,iS 2),(19,iT),(22,iT),(26,iT),(35,iT),(39,iT),(42,iT),(52,[.cpx .f64,.int .i64])]
def tr60:TG:=[tT 0 [1,2],tT 1 [1,2,5],tT 2 [1,2,5,14],tT 3 [2,3],tT 4 [1,2,17],tT 5 [2,3],tT 6 [1,2,33],tT 7 [2,6,7],tT 8 [2,6,7,49],tT 9 [2,3],tT 10 [2,3],tT 11 [2,3]]
def tl60:TG:=[]
def ac60:ACode:=codeF Pg Tryz.f60 tr60 tl60
def rs60:List AResV:=resF Pg Tryz.f60
def pr60_1_0:PT (List RV):=pRs [pR true [rD (dX .f64),rD (dI .i64)],wI]
def ur60_1_0 {β:Type}(g:List RV->β):Nat->Nat->Int->Int->β:=pr60_1_0.unc g
def E60_1g (a:Tf90_0)(b:Tf95_0)(c:Tf98_0):EnvK:=EnvK.of [⟨90,nt90,[⟨pa90_0,Fn90_0 a⟩]⟩,⟨95,nt95,[⟨pa95_0,Fn95_0 b⟩]⟩,⟨98,nt98,[⟨pa98_0,Fn98_0 c⟩]⟩] noSeq
def E60_1:EnvK:=E60_1g f90_0 f95_0 f98_0
theorem eo60_1:E60_1.Ok Pg:=EnvK.of_ok noSeq_ok ⟨⟨io90_0,TT⟩,⟨io95_0,TT⟩,⟨io98_0,TT⟩,TT⟩
abbrev Tf60_1:Type 1:=(α:Type)->Int->Int->(Nat->Nat->Int->Int->Op α)->Op α
def f60_1g (c:Tf90_0)(e:Tf95_0)(g:Tf98_0)(α:Type)(a b:Int)(k1:Nat->Nat->Int->Int->Op α):Op α:=
 c α a b
 (fun p q r d=>cK (d != 0)
 (k1 0 0 0 d)
 (cK (decide (0<=a))
 (e α (w64 (a*1048576))
 (fun h=>g α (w64 (b*1048576))
 (fun i=>c α h i
 (fun j l m o=>k1 j l m o))))
 (cK (decide (b<=0))
 (none)
 (k1 0 0 0 14))))
def f60_1 (α:Type)(a b:Int)(k1:Nat->Nat->Int->Int->Op α):Op α:=f60_1g f90_0 f95_0 f98_0 α a b k1
def pa60_1:PT (List DV):=pA [pV true [(dI .i64),(dI .i64)]]
def Fn60_1 (v:Tf60_1)(α:Type)(k:RT α):Int->Int->Op α:=fun a b=>v α a b (fun c d e g=>ur60_1_0 k c d e g)
def cm60_1g:MCode:=(emb ac60)
def cm60_1:MCode:=cm60_1g
theorem gm60_1:cm60_1.Good Pg E60_1 sh60:=(emb_good ac60)
theorem em60_1:cm60_1.erase=ac60:=(emb_erase _)
theorem fm60_1g (a:Tf90_0)(b:Tf95_0)(c:Tf98_0)(α:Type)(k:RT α):Fn60_1 (f60_1g a b c) α k=pa60_1.unc fun ds=>fnM Pg (E60_1g a b c) sh60 (cm60_1g ) rs60 k ds:=by kernel_rfl
theorem fm60_1:∀ (α:Type) (k:RT α),Fn60_1 f60_1 α k=pa60_1.unc fun ds=>fnM Pg E60_1 sh60 cm60_1 rs60 k ds:=fm60_1g f90_0 f95_0 f98_0
theorem is60:FnIs Pg 60 nt60 tr60 tl60 ac60 rs60:=codeF_is Tryz.func60 (by kernel_rfl)
theorem io60_1:InstOk Pg 60 nt60 ⟨pa60_1,Fn60_1 f60_1⟩:=inst_ok eo60_1 followsTry is60 ⟨⟨sh60,cm60_1,em60_1,gm60_1,fm60_1⟩⟩
def pr60_0_0:PT (List RV):=pRs [pR true [rD (dX .f64),rD (dI .i64)],wI]
def ur60_0_0 {β:Type}(g:List RV->β):Nat->Nat->Int->Int->β:=pr60_0_0.unc g
def E60_0g (a:Tf90_0)(b:Tf95_0)(c:Tf98_0)(d:Tf60_1)(e:Tf89_0):EnvK:=EnvK.of [⟨90,nt90,[⟨pa90_0,Fn90_0 a⟩]⟩,⟨95,nt95,[⟨pa95_0,Fn95_0 b⟩]⟩,⟨98,nt98,[⟨pa98_0,Fn98_0 c⟩]⟩,⟨60,nt60,[⟨pa60_1,Fn60_1 d⟩]⟩,⟨89,nt89,[⟨pa89_0,Fn89_0 e⟩]⟩] noSeq
def E60_0:EnvK:=E60_0g f90_0 f95_0 f98_0 f60_1 f89_0
theorem eo60_0:E60_0.Ok Pg:=EnvK.of_ok noSeq_ok ⟨⟨io90_0,TT⟩,⟨io95_0,TT⟩,⟨io98_0,TT⟩,⟨io60_1,TT⟩,⟨io89_0,TT⟩,TT⟩
abbrev Tf60_0:Type 1:=(α:Type)->Int->Int->(Nat->Nat->Int->Int->Op α)->Op α
def f60_0g (g:Tf60_1)(h:Tf89_0)(c:Tf90_0)(i:Tf95_0)(j:Tf98_0)(α:Type)(a b:Int)(k1:Nat->Nat->Int->Int->Op α):Op α:=
 c α a b
 (fun D F G d=>cK (d != 0)
 (k1 0 0 0 d)
 (cK (decide (0<=a))
 (i α (w64 (a*1048576))
 (fun l=>j α (w64 (b*1048576))
 (fun m=>c α l m
 (fun o p q r=>k1 o p q r))))
 (cK (decide (b<=0))
 (g α (w64 (0 - b)) (w64 (0 - a))
 (fun s t w e=>cK (e != 0)
 (k1 0 0 0 e)
 (h α s t w 1
 (fun z A B C=>k1 z A B C))))
 (k1 0 0 0 14))))
def f60_0 (α:Type)(a b:Int)(k1:Nat->Nat->Int->Int->Op α):Op α:=f60_0g f60_1 f89_0 f90_0 f95_0 f98_0 α a b k1
def pa60_0:PT (List DV):=pA [pV true [(dI .i64),(dI .i64)]]
def Fn60_0 (v:Tf60_0)(α:Type)(k:RT α):Int->Int->Op α:=fun a b=>v α a b (fun c d e g=>ur60_0_0 k c d e g)
def cm60_0g:MCode:=(emb ac60)
def cm60_0:MCode:=cm60_0g
theorem gm60_0:cm60_0.Good Pg E60_0 sh60:=(emb_good ac60)
theorem em60_0:cm60_0.erase=ac60:=(emb_erase _)
theorem fm60_0g (a:Tf90_0)(b:Tf95_0)(c:Tf98_0)(d:Tf60_1)(e:Tf89_0)(α:Type)(k:RT α):Fn60_0 (f60_0g d e a b c) α k=pa60_0.unc fun ds=>fnM Pg (E60_0g a b c d e) sh60 (cm60_0g ) rs60 k ds:=by kernel_rfl
theorem fm60_0:∀ (α:Type) (k:RT α),Fn60_0 f60_0 α k=pa60_0.unc fun ds=>fnM Pg E60_0 sh60 cm60_0 rs60 k ds:=fm60_0g f90_0 f95_0 f98_0 f60_1 f89_0
theorem io60_0:InstOk Pg 60 nt60 ⟨pa60_0,Fn60_0 f60_0⟩:=inst_ok eo60_0 followsTry is60 ⟨⟨sh60,cm60_0,em60_0,gm60_0,fm60_0⟩⟩
abbrev nt86:Nat:=11
def sh86:SG:=[(6,[.cpx .f64,.int .i64]),(7,[.cpx .f64,.int .i64])]
def tr86:TG:=[tT 0 [2,3,4],tT 1 [4,5]]
def tl86:TG:=[]
def ac86:ACode:=codeF Pg Tryz.f86 tr86 tl86
def rs86:List AResV:=resF Pg Tryz.f86
def pr86_0_0:PT (List RV):=pRs [pR true [rD (dX .f64),rD (dI .i64)],wI]
def ur86_0_0 {β:Type}(g:List RV->β):Nat->Nat->Int->Int->β:=pr86_0_0.unc g
def E86_0g (a:Tf111_2):EnvK:=EnvK.of [⟨111,nt111,[⟨pa111_2,Fn111_2 a⟩]⟩] noSeq
def E86_0:EnvK:=E86_0g f111_2
theorem eo86_0:E86_0.Ok Pg:=EnvK.of_ok noSeq_ok ⟨⟨io111_2,TT⟩,TT⟩
abbrev Tf86_0:Type 1:=(α:Type)->Nat->Nat->Int->Nat->Nat->Int->(Nat->Nat->Int->Int->Op α)->Op α
def f86_0g (a:Tf111_2)(α:Type)(b c:Nat)(d:Int)(e g:Nat)(h:Int)(k1:Nat->Nat->Int->Int->Op α):Op α:=
 a α b c d e g h
 (fun i j l m=>k1 i j l m)
def f86_0 (α:Type)(a b:Nat)(c:Int)(d e:Nat)(g:Int)(k1:Nat->Nat->Int->Int->Op α):Op α:=f86_0g f111_2 α a b c d e g k1
def pa86_0:PT (List DV):=pA [pV true [(dX .f64),(dI .i64)],pV true [(dX .f64),(dI .i64)]]
def Fn86_0 (v:Tf86_0)(α:Type)(k:RT α):Nat->Nat->Int->Nat->Nat->Int->Op α:=fun a b c d e g=>v α a b c d e g (fun h i j l=>ur86_0_0 k h i j l)
def cm86_0g:MCode:=(emb ac86)
def cm86_0:MCode:=cm86_0g
theorem gm86_0:cm86_0.Good Pg E86_0 sh86:=(emb_good ac86)
theorem em86_0:cm86_0.erase=ac86:=(emb_erase _)
theorem fm86_0g (a:Tf111_2)(α:Type)(k:RT α):Fn86_0 (f86_0g a) α k=pa86_0.unc fun ds=>fnM Pg (E86_0g a) sh86 (cm86_0g ) rs86 k ds:=by kernel_rfl
theorem fm86_0:∀ (α:Type) (k:RT α),Fn86_0 f86_0 α k=pa86_0.unc fun ds=>fnM Pg E86_0 sh86 cm86_0 rs86 k ds:=fm86_0g f111_2
theorem is86:FnIs Pg 86 nt86 tr86 tl86 ac86 rs86:=codeF_is Tryz.func86 (by kernel_rfl)
theorem io86_0:InstOk Pg 86 nt86 ⟨pa86_0,Fn86_0 f86_0⟩:=inst_ok eo86_0 followsTry is86 ⟨⟨sh86,cm86_0,em86_0,gm86_0,fm86_0⟩⟩
abbrev nt84:Nat:=11
def sh84:SG:=[(6,[.cpx .f64,.int .i64]),(7,[.cpx .f64,.int .i64])]
def tr84:TG:=[tT 0 [2,3,4],tT 1 [4,5]]
def tl84:TG:=[]
def ac84:ACode:=codeF Pg Tryz.f84 tr84 tl84
def rs84:List AResV:=resF Pg Tryz.f84
def pr84_0_0:PT (List RV):=pRs [pR true [rD (dX .f64),rD (dI .i64)],wI]
def ur84_0_0 {β:Type}(g:List RV->β):Nat->Nat->Int->Int->β:=pr84_0_0.unc g
def E84_0g (a:Tf111_1):EnvK:=EnvK.of [⟨111,nt111,[⟨pa111_1,Fn111_1 a⟩]⟩] noSeq
def E84_0:EnvK:=E84_0g f111_1
theorem eo84_0:E84_0.Ok Pg:=EnvK.of_ok noSeq_ok ⟨⟨io111_1,TT⟩,TT⟩
abbrev Tf84_0:Type 1:=(α:Type)->Nat->Nat->Int->Nat->Nat->Int->(Nat->Nat->Int->Int->Op α)->Op α
def f84_0g (a:Tf111_1)(α:Type)(b c:Nat)(d:Int)(e g:Nat)(h:Int)(k1:Nat->Nat->Int->Int->Op α):Op α:=
 a α b c d e g h
 (fun i j l m=>k1 i j l m)
def f84_0 (α:Type)(a b:Nat)(c:Int)(d e:Nat)(g:Int)(k1:Nat->Nat->Int->Int->Op α):Op α:=f84_0g f111_1 α a b c d e g k1
def pa84_0:PT (List DV):=pA [pV true [(dX .f64),(dI .i64)],pV true [(dX .f64),(dI .i64)]]
def Fn84_0 (v:Tf84_0)(α:Type)(k:RT α):Nat->Nat->Int->Nat->Nat->Int->Op α:=fun a b c d e g=>v α a b c d e g (fun h i j l=>ur84_0_0 k h i j l)
def cm84_0g:MCode:=(emb ac84)
def cm84_0:MCode:=cm84_0g
theorem gm84_0:cm84_0.Good Pg E84_0 sh84:=(emb_good ac84)
theorem em84_0:cm84_0.erase=ac84:=(emb_erase _)
theorem fm84_0g (a:Tf111_1)(α:Type)(k:RT α):Fn84_0 (f84_0g a) α k=pa84_0.unc fun ds=>fnM Pg (E84_0g a) sh84 (cm84_0g ) rs84 k ds:=by kernel_rfl
theorem fm84_0:∀ (α:Type) (k:RT α),Fn84_0 f84_0 α k=pa84_0.unc fun ds=>fnM Pg E84_0 sh84 cm84_0 rs84 k ds:=fm84_0g f111_1
theorem is84:FnIs Pg 84 nt84 tr84 tl84 ac84 rs84:=codeF_is Tryz.func84 (by kernel_rfl)
theorem io84_0:InstOk Pg 84 nt84 ⟨pa84_0,Fn84_0 f84_0⟩:=inst_ok eo84_0 followsTry is84 ⟨⟨sh84,cm84_0,em84_0,gm84_0,fm84_0⟩⟩
abbrev nt83:Nat:=11
def sh83:SG:=[(6,[.cpx .f64,.int .i64]),(7,[.cpx .f64,.int .i64])]
def tr83:TG:=[tT 0 [2,3,4],tT 1 [4,5]]
def tl83:TG:=[]
def ac83:ACode:=codeF Pg Tryz.f83 tr83 tl83
def rs83:List AResV:=resF Pg Tryz.f83
def pr83_0_0:PT (List RV):=pRs [pR true [rD (dX .f64),rD (dI .i64)],wI]
def ur83_0_0 {β:Type}(g:List RV->β):Nat->Nat->Int->Int->β:=pr83_0_0.unc g
def E83_0g (a:Tf111_0):EnvK:=EnvK.of [⟨111,nt111,[⟨pa111_0,Fn111_0 a⟩]⟩] noSeq
def E83_0:EnvK:=E83_0g f111_0
theorem eo83_0:E83_0.Ok Pg:=EnvK.of_ok noSeq_ok ⟨⟨io111_0,TT⟩,TT⟩
abbrev Tf83_0:Type 1:=(α:Type)->Nat->Nat->Int->Nat->Nat->Int->(Nat->Nat->Int->Int->Op α)->Op α
def f83_0g (a:Tf111_0)(α:Type)(b c:Nat)(d:Int)(e g:Nat)(h:Int)(k1:Nat->Nat->Int->Int->Op α):Op α:=
 a α b c d e g h
 (fun i j l m=>k1 i j l m)
def f83_0 (α:Type)(a b:Nat)(c:Int)(d e:Nat)(g:Int)(k1:Nat->Nat->Int->Int->Op α):Op α:=f83_0g f111_0 α a b c d e g k1
def pa83_0:PT (List DV):=pA [pV true [(dX .f64),(dI .i64)],pV true [(dX .f64),(dI .i64)]]
def Fn83_0 (v:Tf83_0)(α:Type)(k:RT α):Nat->Nat->Int->Nat->Nat->Int->Op α:=fun a b c d e g=>v α a b c d e g (fun h i j l=>ur83_0_0 k h i j l)
def cm83_0g:MCode:=(emb ac83)
def cm83_0:MCode:=cm83_0g
theorem gm83_0:cm83_0.Good Pg E83_0 sh83:=(emb_good ac83)
theorem em83_0:cm83_0.erase=ac83:=(emb_erase _)
theorem fm83_0g (a:Tf111_0)(α:Type)(k:RT α):Fn83_0 (f83_0g a) α k=pa83_0.unc fun ds=>fnM Pg (E83_0g a) sh83 (cm83_0g ) rs83 k ds:=by kernel_rfl
theorem fm83_0:∀ (α:Type) (k:RT α),Fn83_0 f83_0 α k=pa83_0.unc fun ds=>fnM Pg E83_0 sh83 cm83_0 rs83 k ds:=fm83_0g f111_0
theorem is83:FnIs Pg 83 nt83 tr83 tl83 ac83 rs83:=codeF_is Tryz.func83 (by kernel_rfl)
theorem io83_0:InstOk Pg 83 nt83 ⟨pa83_0,Fn83_0 f83_0⟩:=inst_ok eo83_0 followsTry is83 ⟨⟨sh83,cm83_0,em83_0,gm83_0,fm83_0⟩⟩
abbrev nt85:Nat:=11
def sh85:SG:=[(6,[.cpx .f64,.int .i64]),(7,[.cpx .f64,.int .i64])]
def tr85:TG:=[tT 0 [2,3,4],tT 1 [4,5]]
def tl85:TG:=[]
def ac85:ACode:=codeF Pg Tryz.f85 tr85 tl85
def rs85:List AResV:=resF Pg Tryz.f85
def pr85_0_0:PT (List RV):=pRs [pR true [rD (dX .f64),rD (dI .i64)],wI]
def ur85_0_0 {β:Type}(g:List RV->β):Nat->Nat->Int->Int->β:=pr85_0_0.unc g
def E85_0g (a:Tf111_3):EnvK:=EnvK.of [⟨111,nt111,[⟨pa111_3,Fn111_3 a⟩]⟩] noSeq
def E85_0:EnvK:=E85_0g f111_3
theorem eo85_0:E85_0.Ok Pg:=EnvK.of_ok noSeq_ok ⟨⟨io111_3,TT⟩,TT⟩
abbrev Tf85_0:Type 1:=(α:Type)->Nat->Nat->Int->Nat->Nat->Int->(Nat->Nat->Int->Int->Op α)->Op α
def f85_0g (a:Tf111_3)(α:Type)(b c:Nat)(d:Int)(e g:Nat)(h:Int)(k1:Nat->Nat->Int->Int->Op α):Op α:=
 a α b c d e g h
 (fun i j l m=>k1 i j l m)
def f85_0 (α:Type)(a b:Nat)(c:Int)(d e:Nat)(g:Int)(k1:Nat->Nat->Int->Int->Op α):Op α:=f85_0g f111_3 α a b c d e g k1
def pa85_0:PT (List DV):=pA [pV true [(dX .f64),(dI .i64)],pV true [(dX .f64),(dI .i64)]]
def Fn85_0 (v:Tf85_0)(α:Type)(k:RT α):Nat->Nat->Int->Nat->Nat->Int->Op α:=fun a b c d e g=>v α a b c d e g (fun h i j l=>ur85_0_0 k h i j l)
def cm85_0g:MCode:=(emb ac85)
def cm85_0:MCode:=cm85_0g
theorem gm85_0:cm85_0.Good Pg E85_0 sh85:=(emb_good ac85)
theorem em85_0:cm85_0.erase=ac85:=(emb_erase _)
theorem fm85_0g (a:Tf111_3)(α:Type)(k:RT α):Fn85_0 (f85_0g a) α k=pa85_0.unc fun ds=>fnM Pg (E85_0g a) sh85 (cm85_0g ) rs85 k ds:=by kernel_rfl
theorem fm85_0:∀ (α:Type) (k:RT α),Fn85_0 f85_0 α k=pa85_0.unc fun ds=>fnM Pg E85_0 sh85 cm85_0 rs85 k ds:=fm85_0g f111_3
theorem is85:FnIs Pg 85 nt85 tr85 tl85 ac85 rs85:=codeF_is Tryz.func85 (by kernel_rfl)
theorem io85_0:InstOk Pg 85 nt85 ⟨pa85_0,Fn85_0 f85_0⟩:=inst_ok eo85_0 followsTry is85 ⟨⟨sh85,cm85_0,em85_0,gm85_0,fm85_0⟩⟩
abbrev nt82:Nat:=23
def sh82:SG:=[(12,iT),(17,[.cpx .f64,.int .i64]),(18,[.cpx .f64,.int .i64])]
def tr82:TG:=[tT 0 [0,1,6,7,8],tT 1 [0,1,6,7,8,13],tT 2 [0,8],tT 3 [0,8]]
def tl82:TG:=[]
def ac82:ACode:=codeF Pg Tryz.f82 tr82 tl82
def rs82:List AResV:=resF Pg Tryz.f82
def pr82_0_0:PT (List RV):=pRs [pR true [rD (dX .f64),rD (dI .i64)],pR true [rD (dI .i64),rD (dI .i64),rD (dI .i64),rD (dI .i64),rD (dI .i64),rD (dI .i64),rD (dI .i64),rD dL,rD (dI .i64),rD (dI .i64)]]
def ur82_0_0 {β:Type}(g:List RV->β):Nat->Nat->Int->Int->Int->Int->Int->Int->Int->Int->Rows->Int->Int->β:=pr82_0_0.unc g
def E82_0g (a:Tf83_0)(b:Tf58_0):EnvK:=EnvK.ofIO [⟨83,nt83,[⟨pa83_0,Fn83_0 a⟩]⟩,⟨58,nt58,[⟨pa58_0,Fn58_0 b⟩]⟩] noSeq [(58,[0])]
def E82_0:EnvK:=E82_0g f83_0 f58_0
theorem eo82_0:E82_0.Ok Pg:=EnvK.ofIO_ok noSeq_ok ⟨⟨io83_0,TT⟩,⟨io58_0,TT⟩,TT⟩
abbrev Tf82_0:Type 1:=(α:Type)->Int->Nat->Nat->Int->Nat->Nat->Int->(Nat->Nat->Int->Int->Op α)->Op α
def f82_0g (b:Tf58_0)(c:Tf83_0)(α:Type)(a:Int)(d e:Nat)(g:Int)(h i:Nat)(j:Int)(k1:Nat->Nat->Int->Int->Op α):Op α:=
 cK (a != 0)
 (k1 0 0 0 a)
 (c α d e g h i j
 (fun l m o p=>b α
 (k1 l m o p)))
def f82_0 (α:Type)(a:Int)(b c:Nat)(d:Int)(e g:Nat)(h:Int)(k1:Nat->Nat->Int->Int->Op α):Op α:=f82_0g f58_0 f83_0 α a b c d e g h k1
def pa82_0:PT (List DV):=pA [pV false [(dMr [(dI .i64),(dI .i64),(dI .i64),(dI .i64),(dI .i64),(dI .i64),(dI .i64),dL,(dI .i64),(dI .i64)] 0)],pV false [(dFn 83 [])],pV true [(dX .f64),(dI .i64)],pV true [(dX .f64),(dI .i64)]]
def Fn82_0 (v:Tf82_0)(α:Type)(k:RT α):Int->Int->Int->Int->Int->Int->Int->Rows->Int->Int->Nat->Nat->Int->Nat->Nat->Int->Op α:=fun a b c d e g h i j l m o p q r s=>v α a m o p q r s (fun t w z A=>ur82_0_0 k t w z A b c d e g h i j l)
def cm82_0g:MCode:=(emb ac82)
def cm82_0:MCode:=cm82_0g
theorem gm82_0:cm82_0.Good Pg E82_0 sh82:=(emb_good ac82)
theorem em82_0:cm82_0.erase=ac82:=(emb_erase _)
theorem fm82_0g (a:Tf83_0)(b:Tf58_0)(α:Type)(k:RT α):Fn82_0 (f82_0g b a) α k=pa82_0.unc fun ds=>fnM Pg (E82_0g a b) sh82 (cm82_0g ) rs82 k ds:=by kernel_rfl
theorem fm82_0:∀ (α:Type) (k:RT α),Fn82_0 f82_0 α k=pa82_0.unc fun ds=>fnM Pg E82_0 sh82 cm82_0 rs82 k ds:=fm82_0g f83_0 f58_0
theorem is82:FnIs Pg 82 nt82 tr82 tl82 ac82 rs82:=codeF_is Tryz.func82 (by kernel_rfl)
theorem io82_0:InstOk Pg 82 nt82 ⟨pa82_0,Fn82_0 f82_0⟩:=inst_ok eo82_0 followsTry is82 ⟨⟨sh82,cm82_0,em82_0,gm82_0,fm82_0⟩⟩
def pr82_1_0:PT (List RV):=pRs [pR true [rD (dX .f64),rD (dI .i64)],pR true [rD (dI .i64),rD (dI .i64),rD (dI .i64),rD (dI .i64),rD (dI .i64),rD (dI .i64),rD (dI .i64),rD dL,rD (dI .i64),rD (dI .i64)]]
def ur82_1_0 {β:Type}(g:List RV->β):Nat->Nat->Int->Int->Int->Int->Int->Int->Int->Int->Rows->Int->Int->β:=pr82_1_0.unc g
def E82_1g (a:Tf84_0)(b:Tf58_0):EnvK:=EnvK.ofIO [⟨84,nt84,[⟨pa84_0,Fn84_0 a⟩]⟩,⟨58,nt58,[⟨pa58_0,Fn58_0 b⟩]⟩] noSeq [(58,[0])]
def E82_1:EnvK:=E82_1g f84_0 f58_0
theorem eo82_1:E82_1.Ok Pg:=EnvK.ofIO_ok noSeq_ok ⟨⟨io84_0,TT⟩,⟨io58_0,TT⟩,TT⟩
abbrev Tf82_1:Type 1:=(α:Type)->Int->Nat->Nat->Int->Nat->Nat->Int->(Nat->Nat->Int->Int->Op α)->Op α
def f82_1g (b:Tf58_0)(c:Tf84_0)(α:Type)(a:Int)(d e:Nat)(g:Int)(h i:Nat)(j:Int)(k1:Nat->Nat->Int->Int->Op α):Op α:=
 cK (a != 0)
 (k1 0 0 0 a)
 (c α d e g h i j
 (fun l m o p=>b α
 (k1 l m o p)))
def f82_1 (α:Type)(a:Int)(b c:Nat)(d:Int)(e g:Nat)(h:Int)(k1:Nat->Nat->Int->Int->Op α):Op α:=f82_1g f58_0 f84_0 α a b c d e g h k1
def pa82_1:PT (List DV):=pA [pV false [(dMr [(dI .i64),(dI .i64),(dI .i64),(dI .i64),(dI .i64),(dI .i64),(dI .i64),dL,(dI .i64),(dI .i64)] 0)],pV false [(dFn 84 [])],pV true [(dX .f64),(dI .i64)],pV true [(dX .f64),(dI .i64)]]
def Fn82_1 (v:Tf82_1)(α:Type)(k:RT α):Int->Int->Int->Int->Int->Int->Int->Rows->Int->Int->Nat->Nat->Int->Nat->Nat->Int->Op α:=fun a b c d e g h i j l m o p q r s=>v α a m o p q r s (fun t w z A=>ur82_1_0 k t w z A b c d e g h i j l)
def cm82_1g:MCode:=(emb ac82)
def cm82_1:MCode:=cm82_1g
theorem gm82_1:cm82_1.Good Pg E82_1 sh82:=(emb_good ac82)
theorem em82_1:cm82_1.erase=ac82:=(emb_erase _)
theorem fm82_1g (a:Tf84_0)(b:Tf58_0)(α:Type)(k:RT α):Fn82_1 (f82_1g b a) α k=pa82_1.unc fun ds=>fnM Pg (E82_1g a b) sh82 (cm82_1g ) rs82 k ds:=by kernel_rfl
theorem fm82_1:∀ (α:Type) (k:RT α),Fn82_1 f82_1 α k=pa82_1.unc fun ds=>fnM Pg E82_1 sh82 cm82_1 rs82 k ds:=fm82_1g f84_0 f58_0
theorem io82_1:InstOk Pg 82 nt82 ⟨pa82_1,Fn82_1 f82_1⟩:=inst_ok eo82_1 followsTry is82 ⟨⟨sh82,cm82_1,em82_1,gm82_1,fm82_1⟩⟩
def pr82_2_0:PT (List RV):=pRs [pR true [rD (dX .f64),rD (dI .i64)],pR true [rD (dI .i64),rD (dI .i64),rD (dI .i64),rD (dI .i64),rD (dI .i64),rD (dI .i64),rD (dI .i64),rD dL,rD (dI .i64),rD (dI .i64)]]
def ur82_2_0 {β:Type}(g:List RV->β):Nat->Nat->Int->Int->Int->Int->Int->Int->Int->Int->Rows->Int->Int->β:=pr82_2_0.unc g
def E82_2g (a:Tf86_0)(b:Tf58_0):EnvK:=EnvK.ofIO [⟨86,nt86,[⟨pa86_0,Fn86_0 a⟩]⟩,⟨58,nt58,[⟨pa58_0,Fn58_0 b⟩]⟩] noSeq [(58,[0])]
def E82_2:EnvK:=E82_2g f86_0 f58_0
theorem eo82_2:E82_2.Ok Pg:=EnvK.ofIO_ok noSeq_ok ⟨⟨io86_0,TT⟩,⟨io58_0,TT⟩,TT⟩
abbrev Tf82_2:Type 1:=(α:Type)->Int->Nat->Nat->Int->Nat->Nat->Int->(Nat->Nat->Int->Int->Op α)->Op α
def f82_2g (b:Tf58_0)(c:Tf86_0)(α:Type)(a:Int)(d e:Nat)(g:Int)(h i:Nat)(j:Int)(k1:Nat->Nat->Int->Int->Op α):Op α:=
 cK (a != 0)
 (k1 0 0 0 a)
 (c α d e g h i j
 (fun l m o p=>b α
 (k1 l m o p)))
def f82_2 (α:Type)(a:Int)(b c:Nat)(d:Int)(e g:Nat)(h:Int)(k1:Nat->Nat->Int->Int->Op α):Op α:=f82_2g f58_0 f86_0 α a b c d e g h k1
def pa82_2:PT (List DV):=pA [pV false [(dMr [(dI .i64),(dI .i64),(dI .i64),(dI .i64),(dI .i64),(dI .i64),(dI .i64),dL,(dI .i64),(dI .i64)] 0)],pV false [(dFn 86 [])],pV true [(dX .f64),(dI .i64)],pV true [(dX .f64),(dI .i64)]]
def Fn82_2 (v:Tf82_2)(α:Type)(k:RT α):Int->Int->Int->Int->Int->Int->Int->Rows->Int->Int->Nat->Nat->Int->Nat->Nat->Int->Op α:=fun a b c d e g h i j l m o p q r s=>v α a m o p q r s (fun t w z A=>ur82_2_0 k t w z A b c d e g h i j l)
def cm82_2g:MCode:=(emb ac82)
def cm82_2:MCode:=cm82_2g
theorem gm82_2:cm82_2.Good Pg E82_2 sh82:=(emb_good ac82)
theorem em82_2:cm82_2.erase=ac82:=(emb_erase _)
theorem fm82_2g (a:Tf86_0)(b:Tf58_0)(α:Type)(k:RT α):Fn82_2 (f82_2g b a) α k=pa82_2.unc fun ds=>fnM Pg (E82_2g a b) sh82 (cm82_2g ) rs82 k ds:=by kernel_rfl
theorem fm82_2:∀ (α:Type) (k:RT α),Fn82_2 f82_2 α k=pa82_2.unc fun ds=>fnM Pg E82_2 sh82 cm82_2 rs82 k ds:=fm82_2g f86_0 f58_0
theorem io82_2:InstOk Pg 82 nt82 ⟨pa82_2,Fn82_2 f82_2⟩:=inst_ok eo82_2 followsTry is82 ⟨⟨sh82,cm82_2,em82_2,gm82_2,fm82_2⟩⟩
def pr82_3_0:PT (List RV):=pRs [pR true [rD (dX .f64),rD (dI .i64)],pR true [rD (dI .i64),rD (dI .i64),rD (dI .i64),rD (dI .i64),rD (dI .i64),rD (dI .i64),rD (dI .i64),rD dL,rD (dI .i64),rD (dI .i64)]]
def ur82_3_0 {β:Type}(g:List RV->β):Nat->Nat->Int->Int->Int->Int->Int->Int->Int->Int->Rows->Int->Int->β:=pr82_3_0.unc g
def E82_3g (a:Tf85_0)(b:Tf58_0):EnvK:=EnvK.ofIO [⟨85,nt85,[⟨pa85_0,Fn85_0 a⟩]⟩,⟨58,nt58,[⟨pa58_0,Fn58_0 b⟩]⟩] noSeq [(58,[0])]
def E82_3:EnvK:=E82_3g f85_0 f58_0
theorem eo82_3:E82_3.Ok Pg:=EnvK.ofIO_ok noSeq_ok ⟨⟨io85_0,TT⟩,⟨io58_0,TT⟩,TT⟩
abbrev Tf82_3:Type 1:=(α:Type)->Int->Nat->Nat->Int->Nat->Nat->Int->(Nat->Nat->Int->Int->Op α)->Op α
def f82_3g (b:Tf58_0)(c:Tf85_0)(α:Type)(a:Int)(d e:Nat)(g:Int)(h i:Nat)(j:Int)(k1:Nat->Nat->Int->Int->Op α):Op α:=
 cK (a != 0)
 (k1 0 0 0 a)
 (c α d e g h i j
 (fun l m o p=>b α
 (k1 l m o p)))
def f82_3 (α:Type)(a:Int)(b c:Nat)(d:Int)(e g:Nat)(h:Int)(k1:Nat->Nat->Int->Int->Op α):Op α:=f82_3g f58_0 f85_0 α a b c d e g h k1
def pa82_3:PT (List DV):=pA [pV false [(dMr [(dI .i64),(dI .i64),(dI .i64),(dI .i64),(dI .i64),(dI .i64),(dI .i64),dL,(dI .i64),(dI .i64)] 0)],pV false [(dFn 85 [])],pV true [(dX .f64),(dI .i64)],pV true [(dX .f64),(dI .i64)]]
def Fn82_3 (v:Tf82_3)(α:Type)(k:RT α):Int->Int->Int->Int->Int->Int->Int->Rows->Int->Int->Nat->Nat->Int->Nat->Nat->Int->Op α:=fun a b c d e g h i j l m o p q r s=>v α a m o p q r s (fun t w z A=>ur82_3_0 k t w z A b c d e g h i j l)
def cm82_3g:MCode:=(emb ac82)
def cm82_3:MCode:=cm82_3g
theorem gm82_3:cm82_3.Good Pg E82_3 sh82:=(emb_good ac82)
theorem em82_3:cm82_3.erase=ac82:=(emb_erase _)
theorem fm82_3g (a:Tf85_0)(b:Tf58_0)(α:Type)(k:RT α):Fn82_3 (f82_3g b a) α k=pa82_3.unc fun ds=>fnM Pg (E82_3g a b) sh82 (cm82_3g ) rs82 k ds:=by kernel_rfl
theorem fm82_3:∀ (α:Type) (k:RT α),Fn82_3 f82_3 α k=pa82_3.unc fun ds=>fnM Pg E82_3 sh82 cm82_3 rs82 k ds:=fm82_3g f85_0 f58_0
theorem io82_3:InstOk Pg 82 nt82 ⟨pa82_3,Fn82_3 f82_3⟩:=inst_ok eo82_3 followsTry is82 ⟨⟨sh82,cm82_3,em82_3,gm82_3,fm82_3⟩⟩
abbrev nt53:Nat:=11
def sh53:SG:=[(8,[.cpx .f64,.int .i64]),(9,[.cpx .f64,.int .i64])]
def tr53:TG:=[tT 0 [0,4,5,6],tT 1 [0,6]]
def tl53:TG:=[]
def ac53:ACode:=codeF Pg Tryz.f53 tr53 tl53
def rs53:List AResV:=resF Pg Tryz.f53
def pr53_0_0:PT (List RV):=pRs [pR true [rD (dX .f64),rD (dI .i64)],pR true [rD (dI .i64),rD (dI .i64),rD (dI .i64),rD (dI .i64),rD (dI .i64),rD (dI .i64),rD (dI .i64),rD dL,rD (dI .i64),rD (dI .i64)]]
def ur53_0_0 {β:Type}(g:List RV->β):Nat->Nat->Int->Int->Int->Int->Int->Int->Int->Int->Rows->Int->Int->β:=pr53_0_0.unc g
def E53_0g (a:Tf82_2):EnvK:=EnvK.ofIO [⟨82,nt82,[⟨pa82_2,Fn82_2 a⟩]⟩] noSeq [(82,[0])]
def E53_0:EnvK:=E53_0g f82_2
theorem eo53_0:E53_0.Ok Pg:=EnvK.ofIO_ok noSeq_ok ⟨⟨io82_2,TT⟩,TT⟩
abbrev Tf53_0:Type 1:=(α:Type)->Int->Nat->Nat->Int->Nat->Nat->Int->(Nat->Nat->Int->Int->Op α)->Op α
def f53_0g (a:Tf82_2)(α:Type)(b:Int)(c d:Nat)(e:Int)(g h:Nat)(i:Int)(k1:Nat->Nat->Int->Int->Op α):Op α:=
 a α b c d e g h i
 (fun j l m o=>k1 j l m o)
def f53_0 (α:Type)(a:Int)(b c:Nat)(d:Int)(e g:Nat)(h:Int)(k1:Nat->Nat->Int->Int->Op α):Op α:=f53_0g f82_2 α a b c d e g h k1
def pa53_0:PT (List DV):=pA [pV false [(dMr [(dI .i64),(dI .i64),(dI .i64),(dI .i64),(dI .i64),(dI .i64),(dI .i64),dL,(dI .i64),(dI .i64)] 0)],pV true [(dX .f64),(dI .i64)],pV true [(dX .f64),(dI .i64)]]
def Fn53_0 (v:Tf53_0)(α:Type)(k:RT α):Int->Int->Int->Int->Int->Int->Int->Rows->Int->Int->Nat->Nat->Int->Nat->Nat->Int->Op α:=fun a b c d e g h i j l m o p q r s=>v α a m o p q r s (fun t w z A=>ur53_0_0 k t w z A b c d e g h i j l)
def cm53_0g:MCode:=(emb ac53)
def cm53_0:MCode:=cm53_0g
theorem gm53_0:cm53_0.Good Pg E53_0 sh53:=(emb_good ac53)
theorem em53_0:cm53_0.erase=ac53:=(emb_erase _)
theorem fm53_0g (a:Tf82_2)(α:Type)(k:RT α):Fn53_0 (f53_0g a) α k=pa53_0.unc fun ds=>fnM Pg (E53_0g a) sh53 (cm53_0g ) rs53 k ds:=by kernel_rfl
theorem fm53_0:∀ (α:Type) (k:RT α),Fn53_0 f53_0 α k=pa53_0.unc fun ds=>fnM Pg E53_0 sh53 cm53_0 rs53 k ds:=fm53_0g f82_2
theorem is53:FnIs Pg 53 nt53 tr53 tl53 ac53 rs53:=codeF_is Tryz.func53 (by kernel_rfl)
theorem io53_0:InstOk Pg 53 nt53 ⟨pa53_0,Fn53_0 f53_0⟩:=inst_ok eo53_0 followsTry is53 ⟨⟨sh53,cm53_0,em53_0,gm53_0,fm53_0⟩⟩
abbrev nt51:Nat:=11
def sh51:SG:=[(8,[.cpx .f64,.int .i64]),(9,[.cpx .f64,.int .i64])]
def tr51:TG:=[tT 0 [0,4,5,6],tT 1 [0,6]]
def tl51:TG:=[]
def ac51:ACode:=codeF Pg Tryz.f51 tr51 tl51
def rs51:List AResV:=resF Pg Tryz.f51
def pr51_0_0:PT (List RV):=pRs [pR true [rD (dX .f64),rD (dI .i64)],pR true [rD (dI .i64),rD (dI .i64),rD (dI .i64),rD (dI .i64),rD (dI .i64),rD (dI .i64),rD (dI .i64),rD dL,rD (dI .i64),rD (dI .i64)]]
def ur51_0_0 {β:Type}(g:List RV->β):Nat->Nat->Int->Int->Int->Int->Int->Int->Int->Int->Rows->Int->Int->β:=pr51_0_0.unc g
def E51_0g (a:Tf82_1):EnvK:=EnvK.ofIO [⟨82,nt82,[⟨pa82_1,Fn82_1 a⟩]⟩] noSeq [(82,[0])]
def E51_0:EnvK:=E51_0g f82_1
theorem eo51_0:E51_0.Ok Pg:=EnvK.ofIO_ok noSeq_ok ⟨⟨io82_1,TT⟩,TT⟩
abbrev Tf51_0:Type 1:=(α:Type)->Int->Nat->Nat->Int->Nat->Nat->Int->(Nat->Nat->Int->Int->Op α)->Op α
def f51_0g (a:Tf82_1)(α:Type)(b:Int)(c d:Nat)(e:Int)(g h:Nat)(i:Int)(k1:Nat->Nat->Int->Int->Op α):Op α:=
 a α b c d e g h i
 (fun j l m o=>k1 j l m o)
def f51_0 (α:Type)(a:Int)(b c:Nat)(d:Int)(e g:Nat)(h:Int)(k1:Nat->Nat->Int->Int->Op α):Op α:=f51_0g f82_1 α a b c d e g h k1
def pa51_0:PT (List DV):=pA [pV false [(dMr [(dI .i64),(dI .i64),(dI .i64),(dI .i64),(dI .i64),(dI .i64),(dI .i64),dL,(dI .i64),(dI .i64)] 0)],pV true [(dX .f64),(dI .i64)],pV true [(dX .f64),(dI .i64)]]
def Fn51_0 (v:Tf51_0)(α:Type)(k:RT α):Int->Int->Int->Int->Int->Int->Int->Rows->Int->Int->Nat->Nat->Int->Nat->Nat->Int->Op α:=fun a b c d e g h i j l m o p q r s=>v α a m o p q r s (fun t w z A=>ur51_0_0 k t w z A b c d e g h i j l)
def cm51_0g:MCode:=(emb ac51)
def cm51_0:MCode:=cm51_0g
theorem gm51_0:cm51_0.Good Pg E51_0 sh51:=(emb_good ac51)
theorem em51_0:cm51_0.erase=ac51:=(emb_erase _)
theorem fm51_0g (a:Tf82_1)(α:Type)(k:RT α):Fn51_0 (f51_0g a) α k=pa51_0.unc fun ds=>fnM Pg (E51_0g a) sh51 (cm51_0g ) rs51 k ds:=by kernel_rfl
theorem fm51_0:∀ (α:Type) (k:RT α),Fn51_0 f51_0 α k=pa51_0.unc fun ds=>fnM Pg E51_0 sh51 cm51_0 rs51 k ds:=fm51_0g f82_1
theorem is51:FnIs Pg 51 nt51 tr51 tl51 ac51 rs51:=codeF_is Tryz.func51 (by kernel_rfl)
theorem io51_0:InstOk Pg 51 nt51 ⟨pa51_0,Fn51_0 f51_0⟩:=inst_ok eo51_0 followsTry is51 ⟨⟨sh51,cm51_0,em51_0,gm51_0,fm51_0⟩⟩
abbrev nt50:Nat:=11
def sh50:SG:=[(8,[.cpx .f64,.int .i64]),(9,[.cpx .f64,.int .i64])]
def tr50:TG:=[tT 0 [0,4,5,6],tT 1 [0,6]]
def tl50:TG:=[]
def ac50:ACode:=codeF Pg Tryz.f50 tr50 tl50
def rs50:List AResV:=resF Pg Tryz.f50
def pr50_0_0:PT (List RV):=pRs [pR true [rD (dX .f64),rD (dI .i64)],pR true [rD (dI .i64),rD (dI .i64),rD (dI .i64),rD (dI .i64),rD (dI .i64),rD (dI .i64),rD (dI .i64),rD dL,rD (dI .i64),rD (dI .i64)]]
def ur50_0_0 {β:Type}(g:List RV->β):Nat->Nat->Int->Int->Int->Int->Int->Int->Int->Int->Rows->Int->Int->β:=pr50_0_0.unc g
def E50_0g (a:Tf82_0):EnvK:=EnvK.ofIO [⟨82,nt82,[⟨pa82_0,Fn82_0 a⟩]⟩] noSeq [(82,[0])]
def E50_0:EnvK:=E50_0g f82_0
theorem eo50_0:E50_0.Ok Pg:=EnvK.ofIO_ok noSeq_ok ⟨⟨io82_0,TT⟩,TT⟩
abbrev Tf50_0:Type 1:=(α:Type)->Int->Nat->Nat->Int->Nat->Nat->Int->(Nat->Nat->Int->Int->Op α)->Op α
def f50_0g (a:Tf82_0)(α:Type)(b:Int)(c d:Nat)(e:Int)(g h:Nat)(i:Int)(k1:Nat->Nat->Int->Int->Op α):Op α:=
 a α b c d e g h i
 (fun j l m o=>k1 j l m o)
def f50_0 (α:Type)(a:Int)(b c:Nat)(d:Int)(e g:Nat)(h:Int)(k1:Nat->Nat->Int->Int->Op α):Op α:=f50_0g f82_0 α a b c d e g h k1
def pa50_0:PT (List DV):=pA [pV false [(dMr [(dI .i64),(dI .i64),(dI .i64),(dI .i64),(dI .i64),(dI .i64),(dI .i64),dL,(dI .i64),(dI .i64)] 0)],pV true [(dX .f64),(dI .i64)],pV true [(dX .f64),(dI .i64)]]
def Fn50_0 (v:Tf50_0)(α:Type)(k:RT α):Int->Int->Int->Int->Int->Int->Int->Rows->Int->Int->Nat->Nat->Int->Nat->Nat->Int->Op α:=fun a b c d e g h i j l m o p q r s=>v α a m o p q r s (fun t w z A=>ur50_0_0 k t w z A b c d e g h i j l)
def cm50_0g:MCode:=(emb ac50)
def cm50_0:MCode:=cm50_0g
theorem gm50_0:cm50_0.Good Pg E50_0 sh50:=(emb_good ac50)
theorem em50_0:cm50_0.erase=ac50:=(emb_erase _)
theorem fm50_0g (a:Tf82_0)(α:Type)(k:RT α):Fn50_0 (f50_0g a) α k=pa50_0.unc fun ds=>fnM Pg (E50_0g a) sh50 (cm50_0g ) rs50 k ds:=by kernel_rfl
theorem fm50_0:∀ (α:Type) (k:RT α),Fn50_0 f50_0 α k=pa50_0.unc fun ds=>fnM Pg E50_0 sh50 cm50_0 rs50 k ds:=fm50_0g f82_0
theorem is50:FnIs Pg 50 nt50 tr50 tl50 ac50 rs50:=codeF_is Tryz.func50 (by kernel_rfl)
theorem io50_0:InstOk Pg 50 nt50 ⟨pa50_0,Fn50_0 f50_0⟩:=inst_ok eo50_0 followsTry is50 ⟨⟨sh50,cm50_0,em50_0,gm50_0,fm50_0⟩⟩
abbrev nt80:Nat:=51
def sh80:SG:=[(25,[.cpx .f64,.int .i64]),(28,[.cpx .f64,.int .i64]),(34,[.cpx .f64,.int .i64]),(41,[.cpx .f64,.int .i64]),(45,[.cpx .f64,.int .i64]),(50,[.cpx .f64,.int .i64,.cpx .f64,.int .i64,.cpx .f64,.int .i64,.cpx .f64,.int .i64])]
def tr80:TG:=[tT 0 [0,4,5,6],tT 1 [0,4,5,6,7],tT 2 [0,4,5,6,7,12],tT 3 [0,4,5,6,7,12,13],tT 4 [0,4,5,6,7,8,12],tT 5 [0,4,5,6,7,8,9,10,12],tT 6 [0,4,5,6,7,8,9,10,11,12],tT 7 [0,4,5,6,7,12],tT 8 [0,4,5,6,7,12],tT 9 [0,6]]
def tl80:TG:=[tT 3 [0,4,5,6,7,12]]
def ac80:ACode:=codeF Pg Tryz.f80 tr80 tl80
def rs80:List AResV:=resF Pg Tryz.f80
def td80_9:OT:=tdC (MCode.sub [1,1,0,1,0] (emb ac80))
def pr80_0_0:PT (List RV):=pRs [pR true [rD (dX .f64),rD (dI .i64),rD (dX .f64),rD (dI .i64),rD (dX .f64),rD (dI .i64),rD (dX .f64),rD (dI .i64)],pR true [rD (dI .i64),rD (dI .i64),rD (dI .i64),rD (dI .i64),rD (dI .i64),rD (dI .i64),rD (dI .i64),rD dL,rD (dI .i64),rD (dI .i64)]]
def ur80_0_0 {β:Type}(g:List RV->β):Nat->Nat->Int->Nat->Nat->Int->Nat->Nat->Int->Nat->Nat->Int->Int->Int->Int->Int->Int->Int->Int->Rows->Int->Int->β:=pr80_0_0.unc g
def E80_0g (a:Tf51_0)(b:Tf50_0):EnvK:=EnvK.ofIO [⟨51,nt51,[⟨pa51_0,Fn51_0 a⟩]⟩,⟨50,nt50,[⟨pa50_0,Fn50_0 b⟩]⟩] noSeq [(50,[0]),(51,[0])]
def E80_0:EnvK:=E80_0g f51_0 f50_0
theorem eo80_0:E80_0.Ok Pg:=EnvK.ofIO_ok noSeq_ok ⟨⟨io51_0,TT⟩,⟨io50_0,TT⟩,TT⟩
abbrev Tf80_0:Type 1:=(α:Type)->Int->Nat->Nat->Int->Nat->Nat->Int->Nat->Nat->Int->Nat->Nat->Int->Nat->Nat->Int->Nat->Nat->Int->Nat->Nat->Int->Nat->Nat->Int->(Nat->Nat->Int->Nat->Nat->Int->Nat->Nat->Int->Nat->Nat->Int->Int->Op α)->Op α
def f80_0g (b:Tf50_0)(a:Tf51_0)(α:Type)(I:Int)(c d:Nat)(e:Int)(g h:Nat)(i:Int)(j l:Nat)(m:Int)(o p:Nat)(q:Int)(r s:Nat)(t:Int)(w z:Nat)(A:Int)(B C:Nat)(D:Int)(F G:Nat)(H:Int)(k1:Nat->Nat->Int->Nat->Nat->Int->Nat->Nat->Int->Nat->Nat->Int->Int->Op α):Op α:=
 a α I c d e r s t
 (fun J L M N=>a α N g h i B C D
 (fun O P Q R=>b α R J L M O P Q
 (fun T U V W=>a α W c d e w z A
 (fun X Y Z a0=>a α a0 g h i F G H
 (fun a1 a2 a3 a4=>b α a4 X Y Z a1 a2 a3
 (fun a5 a6 a7 a8=>a α a8 j l m r s t
 (fun a9 b0 b1 b2=>a α b2 o p q B C D
 (fun b3 b4 b5 b6=>b α b6 a9 b0 b1 b3 b4 b5
 (fun b7 b8 b9 c0=>a α c0 j l m w z A
 (fun c1 c2 c3 c4=>a α c4 o p q F G H
 (fun c5 c6 c7 c8=>b α c8 c1 c2 c3 c5 c6 c7
 (fun c9 d0 d1 d2=>k1 T U V a5 a6 a7 b7 b8 b9 c9 d0 d1 d2))))))))))))
def f80_0 (α:Type)(a:Int)(b c:Nat)(d:Int)(e g:Nat)(h:Int)(i j:Nat)(l:Int)(m o:Nat)(p:Int)(q r:Nat)(s:Int)(t w:Nat)(z:Int)(A B:Nat)(C:Int)(D F:Nat)(G:Int)(k1:Nat->Nat->Int->Nat->Nat->Int->Nat->Nat->Int->Nat->Nat->Int->Int->Op α):Op α:=f80_0g f50_0 f51_0 α a b c d e g h i j l m o p q r s t w z A B C D F G k1
def pa80_0:PT (List DV):=pA [pV false [(dMr [(dI .i64),(dI .i64),(dI .i64),(dI .i64),(dI .i64),(dI .i64),(dI .i64),dL,(dI .i64),(dI .i64)] 0)],pV true [(dX .f64),(dI .i64),(dX .f64),(dI .i64),(dX .f64),(dI .i64),(dX .f64),(dI .i64)],pV true [(dX .f64),(dI .i64),(dX .f64),(dI .i64),(dX .f64),(dI .i64),(dX .f64),(dI .i64)]]
def Fn80_0 (v:Tf80_0)(α:Type)(k:RT α):Int->Int->Int->Int->Int->Int->Int->Rows->Int->Int->Nat->Nat->Int->Nat->Nat->Int->Nat->Nat->Int->Nat->Nat->Int->Nat->Nat->Int->Nat->Nat->Int->Nat->Nat->Int->Nat->Nat->Int->Op α:=fun a b c d e g h i j l m o p q r s t w z A B C D F G H I J L M N O P Q=>v α a m o p q r s t w z A B C D F G H I J L M N O P Q (fun R T U V W X Y Z a0 a1 a2 a3 a4=>ur80_0_0 k R T U V W X Y Z a0 a1 a2 a3 a4 b c d e g h i j l)
def cm80_0g:MCode:=(MCode.put (.u 5) [1,1,0,1,0] (emb ac80))
def cm80_0:MCode:=cm80_0g
theorem gm80_0:cm80_0.Good Pg E80_0 sh80:=(put_u (by decide) (emb_good ac80))
theorem em80_0:cm80_0.erase=ac80:=((put_erase _ _).trans (emb_erase _))
theorem fm80_0g (a:Tf51_0)(b:Tf50_0)(α:Type)(k:RT α):Fn80_0 (f80_0g b a) α k=pa80_0.unc fun ds=>fnM Pg (E80_0g a b) sh80 (cm80_0g ) rs80 k ds:=by kernel_rfl
theorem fm80_0:∀ (α:Type) (k:RT α),Fn80_0 f80_0 α k=pa80_0.unc fun ds=>fnM Pg E80_0 sh80 cm80_0 rs80 k ds:=fm80_0g f51_0 f50_0
theorem is80:FnIs Pg 80 nt80 tr80 tl80 ac80 rs80:=codeF_is Tryz.func80 (by kernel_rfl)
theorem io80_0:InstOk Pg 80 nt80 ⟨pa80_0,Fn80_0 f80_0⟩:=inst_ok eo80_0 followsTry is80 ⟨⟨sh80,cm80_0,em80_0,gm80_0,fm80_0⟩⟩
abbrev nt52:Nat:=11
def sh52:SG:=[(8,[.cpx .f64,.int .i64]),(9,[.cpx .f64,.int .i64])]
def tr52:TG:=[tT 0 [0,4,5,6],tT 1 [0,6]]
def tl52:TG:=[]
def ac52:ACode:=codeF Pg Tryz.f52 tr52 tl52
def rs52:List AResV:=resF Pg Tryz.f52
def pr52_0_0:PT (List RV):=pRs [pR true [rD (dX .f64),rD (dI .i64)],pR true [rD (dI .i64),rD (dI .i64),rD (dI .i64),rD (dI .i64),rD (dI .i64),rD (dI .i64),rD (dI .i64),rD dL,rD (dI .i64),rD (dI .i64)]]
def ur52_0_0 {β:Type}(g:List RV->β):Nat->Nat->Int->Int->Int->Int->Int->Int->Int->Int->Rows->Int->Int->β:=pr52_0_0.unc g
def E52_0g (a:Tf82_3):EnvK:=EnvK.ofIO [⟨82,nt82,[⟨pa82_3,Fn82_3 a⟩]⟩] noSeq [(82,[0])]
def E52_0:EnvK:=E52_0g f82_3
theorem eo52_0:E52_0.Ok Pg:=EnvK.ofIO_ok noSeq_ok ⟨⟨io82_3,TT⟩,TT⟩
abbrev Tf52_0:Type 1:=(α:Type)->Int->Nat->Nat->Int->Nat->Nat->Int->(Nat->Nat->Int->Int->Op α)->Op α
def f52_0g (a:Tf82_3)(α:Type)(b:Int)(c d:Nat)(e:Int)(g h:Nat)(i:Int)(k1:Nat->Nat->Int->Int->Op α):Op α:=
 a α b c d e g h i
 (fun j l m o=>k1 j l m o)
def f52_0 (α:Type)(a:Int)(b c:Nat)(d:Int)(e g:Nat)(h:Int)(k1:Nat->Nat->Int->Int->Op α):Op α:=f52_0g f82_3 α a b c d e g h k1
def pa52_0:PT (List DV):=pA [pV false [(dMr [(dI .i64),(dI .i64),(dI .i64),(dI .i64),(dI .i64),(dI .i64),(dI .i64),dL,(dI .i64),(dI .i64)] 0)],pV true [(dX .f64),(dI .i64)],pV true [(dX .f64),(dI .i64)]]
def Fn52_0 (v:Tf52_0)(α:Type)(k:RT α):Int->Int->Int->Int->Int->Int->Int->Rows->Int->Int->Nat->Nat->Int->Nat->Nat->Int->Op α:=fun a b c d e g h i j l m o p q r s=>v α a m o p q r s (fun t w z A=>ur52_0_0 k t w z A b c d e g h i j l)
def cm52_0g:MCode:=(emb ac52)
def cm52_0:MCode:=cm52_0g
theorem gm52_0:cm52_0.Good Pg E52_0 sh52:=(emb_good ac52)
theorem em52_0:cm52_0.erase=ac52:=(emb_erase _)
theorem fm52_0g (a:Tf82_3)(α:Type)(k:RT α):Fn52_0 (f52_0g a) α k=pa52_0.unc fun ds=>fnM Pg (E52_0g a) sh52 (cm52_0g ) rs52 k ds:=by kernel_rfl
theorem fm52_0:∀ (α:Type) (k:RT α),Fn52_0 f52_0 α k=pa52_0.unc fun ds=>fnM Pg E52_0 sh52 cm52_0 rs52 k ds:=fm52_0g f82_3
theorem is52:FnIs Pg 52 nt52 tr52 tl52 ac52 rs52:=codeF_is Tryz.func52 (by kernel_rfl)
theorem io52_0:InstOk Pg 52 nt52 ⟨pa52_0,Fn52_0 f52_0⟩:=inst_ok eo52_0 followsTry is52 ⟨⟨sh52,cm52_0,em52_0,gm52_0,fm52_0⟩⟩
abbrev nt55:Nat:=55
def sh55:SG:=[(19,iT),(23,iT),(29,[.cpx .f64,.int .i64]),(39,iT),(44,[.cpx .f64,.int .i64]),(52,[.cpx .f64,.int .i64]),(53,[.cpx .f64,.int .i64])]
def tr55:TG:=[tT 0 [0,1,4],tT 1 [0,4,5,6],tT 2 [0,4,6,7],tT 3 [0,4,6,7,28],tT 4 [0,4],tT 5 [0,4,7,8],tT 6 [0,4,7,8,40],tT 7 [0,4,7,8],tT 8 [0,4]]
def tl55:TG:=[]
def ac55:ACode:=codeF Pg Tryz.f55 tr55 tl55
def rs55:List AResV:=resF Pg Tryz.f55
def p55_0_0:PT St:=pSv [(0,500000000,0)] [sl 0 (aV false [(cPtr 500000000 0)]),sP 4,sP 7,sP 8] [eBox 500000000 [xI,xI,xI,xI,xI,xI,xI,(cD dL),xI,xI],eBox 4 [(cD (dX .f64)),xI],eBox 7 [(cD (dX .f64)),xI],eBox 8 [(cD (dX .f64)),xI]]
def u55_0_0 {β:Type}(g:St->β):Int->Int->Int->Int->Int->Int->Int->Rows->Int->Int->Nat->Nat->Int->Nat->Nat->Int->Nat->Nat->Int->β:=p55_0_0.unc g
def p55_0_1:PT St:=pSv [(0,500000000,0)] [sl 0 (aV false [(cPtr 500000000 0)]),sP 4,sP 7,sP 8,sY 40 dB] [eBox 500000000 [xI,xI,xI,xI,xI,xI,xI,(cD dL),xI,xI],eBox 4 [(cD (dX .f64)),xI],eBox 7 [(cD (dX .f64)),xI],eBox 8 [(cD (dX .f64)),xI]]
def u55_0_1 {β:Type}(g:St->β):Bool->Int->Int->Int->Int->Int->Int->Int->Rows->Int->Int->Nat->Nat->Int->Nat->Nat->Int->Nat->Nat->Int->β:=p55_0_1.unc g
def pr55_0_0:PT (List RV):=pRs [pR true [rD (dX .f64),rD (dI .i64)],pR true [rD (dI .i64),rD (dI .i64),rD (dI .i64),rD (dI .i64),rD (dI .i64),rD (dI .i64),rD (dI .i64),rD dL,rD (dI .i64),rD (dI .i64)]]
def ur55_0_0 {β:Type}(g:List RV->β):Nat->Nat->Int->Int->Int->Int->Int->Int->Int->Int->Rows->Int->Int->β:=pr55_0_0.unc g
def E55_0g (a:Tf57_0)(b:Tf35_0)(c:Tf36_0)(d:Tf56_0)(e:Tf88_0)(g:Tf89_0)(h:Tf58_0)(i:Tf50_0):EnvK:=EnvK.ofIO [⟨57,nt57,[⟨pa57_0,Fn57_0 a⟩]⟩,⟨35,nt35,[⟨pa35_0,Fn35_0 b⟩]⟩,⟨36,nt36,[⟨pa36_0,Fn36_0 c⟩]⟩,⟨56,nt56,[⟨pa56_0,Fn56_0 d⟩]⟩,⟨88,nt88,[⟨pa88_0,Fn88_0 e⟩]⟩,⟨89,nt89,[⟨pa89_0,Fn89_0 g⟩]⟩,⟨58,nt58,[⟨pa58_0,Fn58_0 h⟩]⟩,⟨50,nt50,[⟨pa50_0,Fn50_0 i⟩]⟩] noSeq [(50,[0]),(56,[0]),(57,[0]),(58,[0]),(88,[0])]
def E55_0:EnvK:=E55_0g f57_0 f35_0 f36_0 f56_0 f88_0 f89_0 f58_0 f50_0
theorem eo55_0:E55_0.Ok Pg:=EnvK.ofIO_ok noSeq_ok ⟨⟨io57_0,TT⟩,⟨io35_0,TT⟩,⟨io36_0,TT⟩,⟨io56_0,TT⟩,⟨io88_0,TT⟩,⟨io89_0,TT⟩,⟨io58_0,TT⟩,⟨io50_0,TT⟩,TT⟩
def c55_0_15g:MCode:=MCode.sub [1,1,1,1,1,0] (emb ac55)
def c55_0_15:MCode:=c55_0_15g
abbrev TJ55_0_0:Type 1:=(α:Type)->Int->Nat->Nat->Int->(Int->Nat->Nat->Int->Op α)->(Bool->Op α)->Op α
def J55_0_0g (b:Tf58_0)(c:Tf89_0)(α:Type)(a:Int)(d e:Nat)(g:Int)(k1:Int->Nat->Nat->Int->Op α)(k2:Bool->Op α):Op α:=
 cK (a == 0)
 (c α d e g 1
 (fun h i j l=>b α
 (k1 l h i j)))
 (k2 (a == 0))
def J55_0_0 (α:Type)(a:Int)(b c:Nat)(d:Int)(k1:Int->Nat->Nat->Int->Op α)(k2:Bool->Op α):Op α:=J55_0_0g f58_0 f89_0 α a b c d k1 k2
def F55_0_0 (v:TJ55_0_0)(α:Type)(K:KT α):Int->Int->Int->Int->Int->Int->Int->Rows->Int->Int->Nat->Nat->Int->Nat->Nat->Int->Nat->Nat->Int->Op α:=fun b c d e g h i j l m o p q r s t w z A=>v α b w z A (fun a B C D=>u55_0_0 (K .normal) a c d e g h i j l m o p q r s t B C D) (fun a=>u55_0_1 (K .normal) a b c d e g h i j l m o p q r s t w z A)
theorem m55_0_0g (c:Tf57_0)(d:Tf35_0)(e:Tf36_0)(g:Tf56_0)(h:Tf88_0)(a:Tf89_0)(b:Tf58_0)(i:Tf50_0)(α:Type)(K:KT α):F55_0_0 (J55_0_0g b a) α K=p55_0_0.unc fun σ=>runM Pg (E55_0g c d e g h a b i) sh55 (c55_0_15g ) K σ:=by kernel_rfl
theorem m55_0_0:∀ (α:Type) (K:KT α),F55_0_0 J55_0_0 α K=p55_0_0.unc fun σ=>runM Pg E55_0 sh55 c55_0_15 K σ:=m55_0_0g f57_0 f35_0 f36_0 f56_0 f88_0 f89_0 f58_0 f50_0
abbrev Tf55_0:Type 1:=(α:Type)->Int->Int->Rows->Int->Int->Int->(Nat->Nat->Int->Int->Op α)->Op α
def f55_0g (m:TJ55_0_0)(o:Tf35_0)(p:Tf36_0)(d:Tf50_0)(q:Tf56_0)(r:Tf57_0)(s:Tf88_0)(α:Type)(t w:Int)(z:Rows)(A B C:Int)(k1:Nat->Nat->Int->Int->Op α):Op α:=
 r α w z A B C
 (fun D F e=>o α (w64 (D*1048576)) 10000
 (fun G=>p α (w64 (F*1048576)) 10000
 (fun H=>q α t G H
 (fun a b c g=>cK (e == 0)
 (k1 a b c g)
 (s α g e 10000
 (fun h i j l=>m α l h i j
 (fun I J L M=>d α I a b c J L M
 (fun N O P Q=>k1 N O P Q))
 (fun W=>d α l a b c h i j
 (fun R T U V=>k1 R T U V))))))))
def f55_0 (α:Type)(a b:Int)(c:Rows)(d e g:Int)(k1:Nat->Nat->Int->Int->Op α):Op α:=f55_0g J55_0_0 f35_0 f36_0 f50_0 f56_0 f57_0 f88_0 α a b c d e g k1
def pa55_0:PT (List DV):=pA [pV false [(dMr [(dI .i64),(dI .i64),(dI .i64),(dI .i64),(dI .i64),(dI .i64),(dI .i64),dL,(dI .i64),(dI .i64)] 0)],vI]
def Fn55_0 (v:Tf55_0)(α:Type)(k:RT α):Int->Int->Int->Int->Int->Int->Int->Rows->Int->Int->Int->Op α:=fun e a g h i j l b c d m=>v α e a b c d m (fun o p q r=>ur55_0_0 k o p q r a g h i j l b c d)
def cm55_0g (a:TJ55_0_0):MCode:=(MCode.put (.m [⟨p55_0_0,F55_0_0 a⟩]) [1,1,1,1,1] (emb ac55))
def cm55_0:MCode:=cm55_0g J55_0_0
theorem gm55_0:cm55_0.Good Pg E55_0 sh55:=(put_seq (by kernel_rfl) (emb_good ac55) ⟨m55_0_0,TT⟩)
theorem em55_0:cm55_0.erase=ac55:=((put_erase _ _).trans (emb_erase _))
theorem fm55_0g (a:Tf57_0)(b:Tf35_0)(c:Tf36_0)(d:Tf56_0)(e:Tf88_0)(i:Tf89_0)(j:Tf58_0)(g:Tf50_0)(h:TJ55_0_0)(α:Type)(k:RT α):Fn55_0 (f55_0g h b c g d a e) α k=pa55_0.unc fun ds=>fnM Pg (E55_0g a b c d e i j g) sh55 (cm55_0g h) rs55 k ds:=by kernel_rfl
theorem fm55_0:∀ (α:Type) (k:RT α),Fn55_0 f55_0 α k=pa55_0.unc fun ds=>fnM Pg E55_0 sh55 cm55_0 rs55 k ds:=fm55_0g f57_0 f35_0 f36_0 f56_0 f88_0 f89_0 f58_0 f50_0 J55_0_0
theorem is55:FnIs Pg 55 nt55 tr55 tl55 ac55 rs55:=codeF_is Tryz.func55 (by kernel_rfl)
theorem io55_0:InstOk Pg 55 nt55 ⟨pa55_0,Fn55_0 f55_0⟩:=inst_ok eo55_0 followsTry is55 ⟨⟨sh55,cm55_0,em55_0,gm55_0,fm55_0⟩⟩
abbrev nt81:Nat:=55
def sh81:SG:=[(23,[.cpx .f64,.int .i64]),(25,[.cpx .f64,.int .i64]),(34,[.cpx .f64,.int .i64]),(36,[.cpx .f64,.int .i64]),(41,[.cpx .f64,.int .i64]),(42,[.cpx .f64,.int .i64]),(47,[.cpx .f64,.int .i64]),(48,[.cpx .f64,.int .i64]),(50,[.cpx .f64,.int .i64]),(51,[.cpx .f64,.int .i64]),(52,[.cpx .f64,.int .i64]),(53,[.cpx .f64,.int .i64])]
def tr81:TG:=[tT 0 [0,4,5,6],tT 1 [0,4,5,6,7],tT 2 [0,4,5,6,7,8],tT 3 [0,4,6,8,9],tT 4 [0,4,6,8,9,10],tT 5 [0,6,8,10,11],tT 6 [0,6]]
def tl81:TG:=[]
def ac81:ACode:=codeF Pg Tryz.f81 tr81 tl81
def rs81:List AResV:=resF Pg Tryz.f81
def pr81_0_0:PT (List RV):=pRs [pR true [rD (dX .f64),rD (dI .i64),rD (dX .f64),rD (dI .i64),rD (dX .f64),rD (dI .i64),rD (dX .f64),rD (dI .i64)],pR true [rD (dI .i64),rD (dI .i64),rD (dI .i64),rD (dI .i64),rD (dI .i64),rD (dI .i64),rD (dI .i64),rD dL,rD (dI .i64),rD (dI .i64)]]
def ur81_0_0 {β:Type}(g:List RV->β):Nat->Nat->Int->Nat->Nat->Int->Nat->Nat->Int->Nat->Nat->Int->Int->Int->Int->Int->Int->Int->Int->Rows->Int->Int->β:=pr81_0_0.unc g
def E81_0g (a:Tf88_0)(b:Tf77_0)(c:Tf50_0)(d:Tf51_0)(e:Tf53_0)(g:Tf52_0):EnvK:=EnvK.ofIO [⟨88,nt88,[⟨pa88_0,Fn88_0 a⟩]⟩,⟨77,nt77,[⟨pa77_0,Fn77_0 b⟩]⟩,⟨50,nt50,[⟨pa50_0,Fn50_0 c⟩]⟩,⟨51,nt51,[⟨pa51_0,Fn51_0 d⟩]⟩,⟨53,nt53,[⟨pa53_0,Fn53_0 e⟩]⟩,⟨52,nt52,[⟨pa52_0,Fn52_0 g⟩]⟩] noSeq [(50,[0]),(51,[0]),(52,[0]),(53,[0]),(88,[0])]
def E81_0:EnvK:=E81_0g f88_0 f77_0 f50_0 f51_0 f53_0 f52_0
theorem eo81_0:E81_0.Ok Pg:=EnvK.ofIO_ok noSeq_ok ⟨⟨io88_0,TT⟩,⟨io77_0,TT⟩,⟨io50_0,TT⟩,⟨io51_0,TT⟩,⟨io53_0,TT⟩,⟨io52_0,TT⟩,TT⟩
abbrev Tf81_0:Type 1:=(α:Type)->Int->Nat->Nat->Int->Nat->Nat->Int->(Nat->Nat->Int->Nat->Nat->Int->Nat->Nat->Int->Nat->Nat->Int->Int->Op α)->Op α
def f81_0g (w:Tf50_0)(a:Tf51_0)(z:Tf52_0)(A:Tf53_0)(b:Tf77_0)(B:Tf88_0)(α:Type)(C:Int)(c d:Nat)(e:Int)(g h:Nat)(i:Int)(k1:Nat->Nat->Int->Nat->Nat->Int->Nat->Nat->Int->Nat->Nat->Int->Int->Op α):Op α:=
 B α C 1 2
 (fun j l m D=>b α
 (w α D 4697254411347427328 0 0 g h i
 (fun F G H I=>a α I F G H j l m
 (fun o p q J=>b α
 (A α J 4697254411347427328 0 0 g h i
 (fun L M N O=>a α O L M N j l m
 (fun r s t P=>z α P r s t c d e
 (fun Q R T U=>a α U r s t c d e
 (fun V W X Y=>k1 o p q Q R T V W X o p q Y)))))))))
def f81_0 (α:Type)(a:Int)(b c:Nat)(d:Int)(e g:Nat)(h:Int)(k1:Nat->Nat->Int->Nat->Nat->Int->Nat->Nat->Int->Nat->Nat->Int->Int->Op α):Op α:=f81_0g f50_0 f51_0 f52_0 f53_0 f77_0 f88_0 α a b c d e g h k1
def pa81_0:PT (List DV):=pA [pV false [(dMr [(dI .i64),(dI .i64),(dI .i64),(dI .i64),(dI .i64),(dI .i64),(dI .i64),dL,(dI .i64),(dI .i64)] 0)],pV true [(dX .f64),(dI .i64)],pV true [(dX .f64),(dI .i64)]]
def Fn81_0 (v:Tf81_0)(α:Type)(k:RT α):Int->Int->Int->Int->Int->Int->Int->Rows->Int->Int->Nat->Nat->Int->Nat->Nat->Int->Op α:=fun a b c d e g h i j l m o p q r s=>v α a m o p q r s (fun t w z A B C D F G H I J L=>ur81_0_0 k t w z A B C D F G H I J L b c d e g h i j l)
def cm81_0g:MCode:=(emb ac81)
def cm81_0:MCode:=cm81_0g
theorem gm81_0:cm81_0.Good Pg E81_0 sh81:=(emb_good ac81)
theorem em81_0:cm81_0.erase=ac81:=(emb_erase _)
theorem fm81_0g (a:Tf88_0)(b:Tf77_0)(c:Tf50_0)(d:Tf51_0)(e:Tf53_0)(g:Tf52_0)(α:Type)(k:RT α):Fn81_0 (f81_0g c d g e b a) α k=pa81_0.unc fun ds=>fnM Pg (E81_0g a b c d e g) sh81 (cm81_0g ) rs81 k ds:=by kernel_rfl
theorem fm81_0:∀ (α:Type) (k:RT α),Fn81_0 f81_0 α k=pa81_0.unc fun ds=>fnM Pg E81_0 sh81 cm81_0 rs81 k ds:=fm81_0g f88_0 f77_0 f50_0 f51_0 f53_0 f52_0
theorem is81:FnIs Pg 81 nt81 tr81 tl81 ac81 rs81:=codeF_is Tryz.func81 (by kernel_rfl)
theorem io81_0:InstOk Pg 81 nt81 ⟨pa81_0,Fn81_0 f81_0⟩:=inst_ok eo81_0 followsTry is81 ⟨⟨sh81,cm81_0,em81_0,gm81_0,fm81_0⟩⟩
abbrev nt31:Nat:=111
def sh31:SG:=[(22,iT),(28,iT),(36,iT),(42,iT),(50,[.cpx .f64,.int .i64]),(51,[.cpx .f64,.int .i64]),(56,[.cpx .f64,.int .i64]),(60,[.cpx .f64,.int .i64]),(61,[.cpx .f64,.int .i64]),(76,iT),(82,[.cpx .f64,.int .i64]),(90,[.cpx .f64,.int .i64]),(97,iT),(103,iS 2),(109,iT)]
def tr31:TG:=[tT 0 [0,1,4],tT 1 [0,1,4,6],tT 2 [0,1,4,6,7],tT 3 [0,1,4,7,8],tT 4 [0,1,4,8],tT 5 [0,4,8,10],tT 6 [0,4,8,71],tT 7 [0,4,8,77],tT 8 [0,4,5],tT 9 [0,4,5],tT 10 [0,4,11],tT 11 [0,4,11,98],tT 12 [0,4,5],tT 13 [0,4,5]]
def tl31:TG:=[]
def ac31:ACode:=codeF Pg Tryz.f31 tr31 tl31
def rs31:List AResV:=resF Pg Tryz.f31
def pr31_0_0:PT (List RV):=pRs [pR true [rD (dX .f64),rD (dI .i64)],pR false [rD dB],pR true [rD (dI .i64),rD (dI .i64),rD (dI .i64),rD (dI .i64),rD (dI .i64),rD (dI .i64),rD (dI .i64),rD dL,rD (dI .i64),rD (dI .i64)]]
def ur31_0_0 {β:Type}(g:List RV->β):Nat->Nat->Int->Bool->Int->Int->Int->Int->Int->Int->Int->Rows->Int->Int->β:=pr31_0_0.unc g
def E31_0g (a:Tf55_0)(b:Tf35_0)(c:Tf36_0)(d:Tf56_0)(e:Tf51_0)(g:Tf53_0)(h:Tf57_0)(i:Tf59_0)(j:Tf58_0)(l:Tf29_0)(m:Tf60_0):EnvK:=EnvK.ofIO [⟨55,nt55,[⟨pa55_0,Fn55_0 a⟩]⟩,⟨35,nt35,[⟨pa35_0,Fn35_0 b⟩]⟩,⟨36,nt36,[⟨pa36_0,Fn36_0 c⟩]⟩,⟨56,nt56,[⟨pa56_0,Fn56_0 d⟩]⟩,⟨51,nt51,[⟨pa51_0,Fn51_0 e⟩]⟩,⟨53,nt53,[⟨pa53_0,Fn53_0 g⟩]⟩,⟨57,nt57,[⟨pa57_0,Fn57_0 h⟩]⟩,⟨59,nt59,[⟨pa59_0,Fn59_0 i⟩]⟩,⟨58,nt58,[⟨pa58_0,Fn58_0 j⟩]⟩,⟨29,nt29,[⟨pa29_0,Fn29_0 l⟩]⟩,⟨60,nt60,[⟨pa60_0,Fn60_0 m⟩]⟩] noSeq [(29,[0]),(51,[0]),(53,[0]),(55,[0]),(56,[0]),(57,[0]),(58,[0])]
def E31_0:EnvK:=E31_0g f55_0 f35_0 f36_0 f56_0 f51_0 f53_0 f57_0 f59_0 f58_0 f29_0 f60_0
theorem eo31_0:E31_0.Ok Pg:=EnvK.ofIO_ok noSeq_ok ⟨⟨io55_0,TT⟩,⟨io35_0,TT⟩,⟨io36_0,TT⟩,⟨io56_0,TT⟩,⟨io51_0,TT⟩,⟨io53_0,TT⟩,⟨io57_0,TT⟩,⟨io59_0,TT⟩,⟨io58_0,TT⟩,⟨io29_0,TT⟩,⟨io60_0,TT⟩,TT⟩
abbrev Tf31_0:Type 1:=(α:Type)->Int->Int->Int->Int->Rows->Int->Int->Int->(Nat->Nat->Int->Bool->Int->Op α)->Op α
def f31_0g (A:Tf29_0)(B:Tf35_0)(C:Tf36_0)(c:Tf51_0)(D:Tf53_0)(F:Tf55_0)(G:Tf56_0)(H:Tf57_0)(d:Tf58_0)(I:Tf59_0)(J:Tf60_0)(α:Type)(L a M N:Int)(e:Rows)(g h i:Int)(k1:Nat->Nat->Int->Bool->Int->Op α):Op α:=
 F α L a e g h i
 (fun j l m O=>B α (w64 ((w64 (a*M))*1048576)) 100000000
 (fun P=>C α (w64 ((w64 (a*N))*1048576)) 100000000
 (fun Q=>G α O P Q
 (fun o p q R=>c α R j l m j l m
 (fun T U V W=>c α W o p q o p q
 (fun X Y Z a0=>D α a0 T U V X Y Z
 (fun r s t b=>H α a e g h i
 (fun b1 b2 a1=>cK (a1 != 0)
 (cK (b != 0)
 (k1 0 0 0 false b)
 (I α r s t
 (fun a2 a3 a4 a5=>d α
 (k1 a2 a3 a4 false a5))))
 (A α b r s t
 (fun w a6 b3 b4 z=>cK (z != 0)
 (k1 0 0 0 false z)
 (J α w a6
 (fun a7 a8 a9 b0=>d α
 (k1 a7 a8 a9 (decide (w < 0)) b0)))))))))))))
def f31_0 (α:Type)(a b c d:Int)(e:Rows)(g h i:Int)(k1:Nat->Nat->Int->Bool->Int->Op α):Op α:=f31_0g f29_0 f35_0 f36_0 f51_0 f53_0 f55_0 f56_0 f57_0 f58_0 f59_0 f60_0 α a b c d e g h i k1
def pa31_0:PT (List DV):=pA [pV false [(dMr [(dI .i64),(dI .i64),(dI .i64),(dI .i64),(dI .i64),(dI .i64),(dI .i64),dL,(dI .i64),(dI .i64)] 0)],vI]
def Fn31_0 (v:Tf31_0)(α:Type)(k:RT α):Int->Int->Int->Int->Int->Int->Int->Rows->Int->Int->Int->Op α:=fun h a b c i j l d e g m=>v α h a b c d e g m (fun o p q r s=>ur31_0_0 k o p q r s a b c i j l d e g)
def cm31_0g:MCode:=(emb ac31)
def cm31_0:MCode:=cm31_0g
theorem gm31_0:cm31_0.Good Pg E31_0 sh31:=(emb_good ac31)
theorem em31_0:cm31_0.erase=ac31:=(emb_erase _)
theorem fm31_0g (a:Tf55_0)(b:Tf35_0)(c:Tf36_0)(d:Tf56_0)(e:Tf51_0)(g:Tf53_0)(h:Tf57_0)(i:Tf59_0)(j:Tf58_0)(l:Tf29_0)(m:Tf60_0)(α:Type)(k:RT α):Fn31_0 (f31_0g l b c e g a d h j i m) α k=pa31_0.unc fun ds=>fnM Pg (E31_0g a b c d e g h i j l m) sh31 (cm31_0g ) rs31 k ds:=by kernel_rfl
theorem fm31_0:∀ (α:Type) (k:RT α),Fn31_0 f31_0 α k=pa31_0.unc fun ds=>fnM Pg E31_0 sh31 cm31_0 rs31 k ds:=fm31_0g f55_0 f35_0 f36_0 f56_0 f51_0 f53_0 f57_0 f59_0 f58_0 f29_0 f60_0
theorem is31:FnIs Pg 31 nt31 tr31 tl31 ac31 rs31:=codeF_is Tryz.func31 (by kernel_rfl)
theorem io31_0:InstOk Pg 31 nt31 ⟨pa31_0,Fn31_0 f31_0⟩:=inst_ok eo31_0 followsTry is31 ⟨⟨sh31,cm31_0,em31_0,gm31_0,fm31_0⟩⟩
abbrev nt108:Nat:=81
def sh108:SG:=[(20,[.cpx .f64,.int .i64]),(26,[.sl]),(29,iS 5),(30,iS 5),(35,iT),(41,iS 4),(46,iS 2),(50,iT),(54,iT),(61,iT),(64,iT),(68,iT),(75,iT),(80,iS 4)]
def tr108:TG:=[tT 0 [0,1,4],tT 1 [0,1,4,5,6],tT 2 [0,1,4,6,7],tT 3 [0,4,6,7,8],tT 5 [0,4,6,7,8,33],tT 6 [0,4,7,8,37],tT 7 [0,4,7,8],tT 4 [0,4,7,8],tT 8 [0,4,7,8,41,42],tT 9 [0,4,7,8,41,42,43],tT 10 [0,4,7,8,9,10,41,42],tT 11 [0,4,7,8,9,10,41,42],tT 12 [0,4,7,8,41,42],tT 13 [0,4,7,8,41,42],tT 14 [0,4]]
def tl108:TG:=[tT 9 [0,4,7,8,41,42]]
def ac108:ACode:=codeF Pg Tryz.f108 tr108 tl108
def rs108:List AResV:=resF Pg Tryz.f108
def td108_23:OT:=tdC (MCode.sub [1,1,1,1,1,0,1,0] (emb ac108))
def p108_0_0:PT St:=pSv [(0,500000000,0)] [sl 0 (aV false [(cPtr 500000000 0)]),sP 4,sY 6 dB,sP 7,sP 8] [eBox 500000000 [xI,xI,xI,xI,xI,xI,xI,(cD dL),xI,xI],eBox 4 (xs 4),eBox 7 (xs 4),eBox 8 (xs 5)]
def u108_0_0 {β:Type}(g:St->β):Bool->Int->Int->Int->Int->Int->Int->Int->Rows->I15 β:=p108_0_0.unc g
def p108_0_1:PT St:=pSv [(0,500000000,0)] [sl 0 (aV false [(cPtr 500000000 0)]),sP 4,sY 6 dB,sP 7,sP 8,sY 33 dB] [eBox 500000000 [xI,xI,xI,xI,xI,xI,xI,(cD dL),xI,xI],eBox 4 (xs 4),eBox 7 (xs 4),eBox 8 (xs 5)]
def u108_0_1 {β:Type}(g:St->β):Bool->Bool->Int->Int->Int->Int->Int->Int->Int->Rows->I15 β:=p108_0_1.unc g
def p108_0_2:PT St:=pSv [(0,500000000,0)] [sl 0 (aV false [(cPtr 500000000 0)]),sP 4,sP 7,sP 8] [eBox 500000000 [xI,xI,xI,xI,xI,xI,xI,(cD dL),xI,xI],eBox 4 (xs 4),eBox 7 (xs 4),eBox 8 (xs 5)]
def u108_0_2 {β:Type}(g:St->β):Int->Int->Int->Int->Int->Int->Int->Rows->I15 β:=p108_0_2.unc g
def pr108_0_0:PT (List RV):=pRs [pR true [rD (dI .i64),rD (dI .i64),rD (dI .i64),rD (dI .i64)],pR true [rD (dI .i64),rD (dI .i64),rD (dI .i64),rD (dI .i64),rD (dI .i64),rD (dI .i64),rD (dI .i64),rD dL,rD (dI .i64),rD (dI .i64)]]
def ur108_0_0 {β:Type}(g:List RV->β):Int->Int->Int->Int->Int->Int->Int->Int->Int->Int->Int->Rows->Int->Int->β:=pr108_0_0.unc g
def E108_0g (a:Tf31_0)(b:Tf29_0)(c:Tf33_0)(d:Tf35_0)(e:Tf36_0):EnvK:=EnvK.ofIO [⟨31,nt31,[⟨pa31_0,Fn31_0 a⟩]⟩,⟨29,nt29,[⟨pa29_0,Fn29_0 b⟩]⟩,⟨33,nt33,[⟨pa33_0,Fn33_0 c⟩]⟩,⟨35,nt35,[⟨pa35_0,Fn35_0 d⟩]⟩,⟨36,nt36,[⟨pa36_0,Fn36_0 e⟩]⟩] noSeq [(29,[0]),(31,[0])]
def E108_0:EnvK:=E108_0g f31_0 f29_0 f33_0 f35_0 f36_0
theorem eo108_0:E108_0.Ok Pg:=EnvK.ofIO_ok noSeq_ok ⟨⟨io31_0,TT⟩,⟨io29_0,TT⟩,⟨io33_0,TT⟩,⟨io35_0,TT⟩,⟨io36_0,TT⟩,TT⟩
def c108_0_9g:MCode:=MCode.sub [1,1,1,1,0] (emb ac108)
def c108_0_9:MCode:=c108_0_9g
abbrev TJ108_0_0:Type 1:=(α:Type)->Bool->Int->Int->Int->Int->Int->(Bool->Op α)->(I4 (Op α))->Op α
def J108_0_0g (α:Type)(b:Bool)(c d e g a:Int)(k1:Bool->Op α)(k2:I4 (Op α)):Op α:=
 cK (a != 0)
 (k1 (a != 0))
 (cK b
 (k2 0 0 e g)
 (k2 c d 0 0))
def J108_0_0 (α:Type)(a:Bool)(b c d e g:Int)(k1:Bool->Op α)(k2:I4 (Op α)):Op α:=J108_0_0g α a b c d e g k1 k2
def F108_0_0 (v:TJ108_0_0)(α:Type)(K:KT α):Bool->Int->Int->Int->Int->Int->Int->Int->Rows->I15 (Op α):=fun c d e g h i j l m o p q r s t w z A B C D F G a=>v α c w z A B a (fun b=>u108_0_1 (K .normal) c b d e g h i j l m o p q r s t w z A B C D F G a) (fun b H I J=>u108_0_2 (K .normal) d e g h i j l m o p q r s t b H I J C D F G a)
theorem m108_0_0g (a:Tf31_0)(b:Tf29_0)(c:Tf33_0)(d:Tf35_0)(e:Tf36_0)(α:Type)(K:KT α):F108_0_0 (J108_0_0g ) α K=p108_0_0.unc fun σ=>runM Pg (E108_0g a b c d e) sh108 (c108_0_9g ) K σ:=by kernel_rfl
theorem m108_0_0:∀ (α:Type) (K:KT α),F108_0_0 J108_0_0 α K=p108_0_0.unc fun σ=>runM Pg E108_0 sh108 c108_0_9 K σ:=m108_0_0g f31_0 f29_0 f33_0 f35_0 f36_0
abbrev Tf108_0:Type 1:=(α:Type)->Int->Int->Int->Int->Int->Int->Rows->Int->Int->Int->(I5 (Op α))->Op α
def f108_0g (r:TJ108_0_0)(s:Tf29_0)(t:Tf31_0)(a:Tf33_0)(b:Tf35_0)(c:Tf36_0)(α:Type)(w z A B d e:Int)(i:Rows)(C D j:Int)(k1:I5 (Op α)):Op α:=
 t α w z A B i C D j
 (fun F G H I J=>s α J F G H
 (fun l m o p q=>rowK i (w64 (j - 1)) [.int .i64,.int .i64,.int .i64,.int .i64,.int .i64]
 (fun a7 a8 g h L=>r α I l m o p L
 (fun a9=>a α l m
 (fun M N=>b α (w64 ((w64 (4*M))*g)) e
 (fun O=>c α (w64 ((w64 (4*N))*h)) d
 (fun P=>a α o p
 (fun Q R=>b α (w64 ((w64 (4*Q))*g)) e
 (fun T=>c α (w64 ((w64 (4*R))*h)) d
 (fun U=>k1 O P T U q)))))))
 (fun V W X Y=>a α V W
 (fun Z a0=>b α (w64 ((w64 (4*Z))*g)) e
 (fun a1=>c α (w64 ((w64 (4*a0))*h)) d
 (fun a2=>a α X Y
 (fun a3 a4=>b α (w64 ((w64 (4*a3))*g)) e
 (fun a5=>c α (w64 ((w64 (4*a4))*h)) d
 (fun a6=>k1 a1 a2 a5 a6 q))))))))))
def f108_0 (α:Type)(a b c d e g:Int)(h:Rows)(i j l:Int)(k1:I5 (Op α)):Op α:=f108_0g J108_0_0 f29_0 f31_0 f33_0 f35_0 f36_0 α a b c d e g h i j l k1
def pa108_0:PT (List DV):=pA [pV false [(dMr [(dI .i64),(dI .i64),(dI .i64),(dI .i64),(dI .i64),(dI .i64),(dI .i64),dL,(dI .i64),(dI .i64)] 0)],vI]
def Fn108_0 (v:Tf108_0)(α:Type)(k:RT α):Int->Int->Int->Int->Int->Int->Int->Rows->Int->Int->Int->Op α:=fun j a b c l d e g h i m=>v α j a b c d e g h i m (fun o p q r s=>ur108_0_0 k o p q r s a b c l d e g h i)
def cm108_0g (a:TJ108_0_0):MCode:=(MCode.put (.m [⟨p108_0_0,F108_0_0 a⟩]) [1,1,1,1] (MCode.put (.u 3) [1,1,1,1,1,0,1,0] (emb ac108)))
def cm108_0:MCode:=cm108_0g J108_0_0
theorem gm108_0:cm108_0.Good Pg E108_0 sh108:=(put_seq (by kernel_rfl) (put_u (by decide) (emb_good ac108)) ⟨m108_0_0,TT⟩)
theorem em108_0:cm108_0.erase=ac108:=((put_erase _ _).trans ((put_erase _ _).trans (emb_erase _)))
theorem fm108_0g (a:Tf31_0)(b:Tf29_0)(c:Tf33_0)(d:Tf35_0)(e:Tf36_0)(g:TJ108_0_0)(α:Type)(k:RT α):Fn108_0 (f108_0g g b a c d e) α k=pa108_0.unc fun ds=>fnM Pg (E108_0g a b c d e) sh108 (cm108_0g g) rs108 k ds:=by kernel_rfl
theorem fm108_0:∀ (α:Type) (k:RT α),Fn108_0 f108_0 α k=pa108_0.unc fun ds=>fnM Pg E108_0 sh108 cm108_0 rs108 k ds:=fm108_0g f31_0 f29_0 f33_0 f35_0 f36_0 J108_0_0
theorem is108:FnIs Pg 108 nt108 tr108 tl108 ac108 rs108:=codeF_is Tryz.func108 (by kernel_rfl)
theorem io108_0:InstOk Pg 108 nt108 ⟨pa108_0,Fn108_0 f108_0⟩:=inst_ok eo108_0 followsTry is108 ⟨⟨sh108,cm108_0,em108_0,gm108_0,fm108_0⟩⟩
abbrev nt30:Nat:=35
def sh30:SG:=[(18,iT),(20,[.cpx .f64,.int .i64]),(30,[.cpx .f64,.int .i64]),(31,[.cpx .f64,.int .i64]),(33,[.cpx .f64,.int .i64])]
def tr30:TG:=[tT 0 [0,1,4],tT 1 [0,1,4,5],tT 2 [0,1,4,5,19],tT 3 [0,4],tT 4 [0,4,5,7],tT 5 [0,4]]
def tl30:TG:=[]
def ac30:ACode:=codeF Pg Tryz.f30 tr30 tl30
def rs30:List AResV:=resF Pg Tryz.f30
def pr30_0_0:PT (List RV):=pRs [pR true [rD (dX .f64),rD (dI .i64)],pR true [rD (dI .i64),rD (dI .i64),rD (dI .i64),rD (dI .i64),rD (dI .i64),rD (dI .i64),rD (dI .i64),rD dL,rD (dI .i64),rD (dI .i64)]]
def ur30_0_0 {β:Type}(g:List RV->β):Nat->Nat->Int->Int->Int->Int->Int->Int->Int->Int->Rows->Int->Int->β:=pr30_0_0.unc g
def E30_0g (a:Tf31_0)(b:Tf55_0)(c:Tf51_0)(d:Tf52_0):EnvK:=EnvK.ofIO [⟨31,nt31,[⟨pa31_0,Fn31_0 a⟩]⟩,⟨55,nt55,[⟨pa55_0,Fn55_0 b⟩]⟩,⟨51,nt51,[⟨pa51_0,Fn51_0 c⟩]⟩,⟨52,nt52,[⟨pa52_0,Fn52_0 d⟩]⟩] noSeq [(31,[0]),(51,[0]),(52,[0]),(55,[0])]
def E30_0:EnvK:=E30_0g f31_0 f55_0 f51_0 f52_0
theorem eo30_0:E30_0.Ok Pg:=EnvK.ofIO_ok noSeq_ok ⟨⟨io31_0,TT⟩,⟨io55_0,TT⟩,⟨io51_0,TT⟩,⟨io52_0,TT⟩,TT⟩
abbrev Tf30_0:Type 1:=(α:Type)->Int->Int->Int->Int->Int->Rows->Int->Int->Int->(Nat->Nat->Int->Int->Op α)->Op α
def f30_0g (p:Tf31_0)(q:Tf51_0)(r:Tf52_0)(s:Tf55_0)(α:Type)(t a w z A:Int)(b:Rows)(c d e:Int)(k1:Nat->Nat->Int->Int->Op α):Op α:=
 p α t a w z b c d e
 (fun g h i M j=>cK (A == 0)
 (k1 g h i j)
 (s α j a b c d e
 (fun l m o B=>q α B l m o l m o
 (fun C D F G=>r α G C D F g h i
 (fun H I J L=>k1 H I J L)))))
def f30_0 (α:Type)(a b c d e:Int)(g:Rows)(h i j:Int)(k1:Nat->Nat->Int->Int->Op α):Op α:=f30_0g f31_0 f51_0 f52_0 f55_0 α a b c d e g h i j k1
def pa30_0:PT (List DV):=pA [pV false [(dMr [(dI .i64),(dI .i64),(dI .i64),(dI .i64),(dI .i64),(dI .i64),(dI .i64),dL,(dI .i64),(dI .i64)] 0)],vI]
def Fn30_0 (v:Tf30_0)(α:Type)(k:RT α):Int->Int->Int->Int->Int->Int->Int->Rows->Int->Int->Int->Op α:=fun i a b c d j l e g h m=>v α i a b c d e g h m (fun o p q r=>ur30_0_0 k o p q r a b c d j l e g h)
def cm30_0g:MCode:=(emb ac30)
def cm30_0:MCode:=cm30_0g
theorem gm30_0:cm30_0.Good Pg E30_0 sh30:=(emb_good ac30)
theorem em30_0:cm30_0.erase=ac30:=(emb_erase _)
theorem fm30_0g (a:Tf31_0)(b:Tf55_0)(c:Tf51_0)(d:Tf52_0)(α:Type)(k:RT α):Fn30_0 (f30_0g a c d b) α k=pa30_0.unc fun ds=>fnM Pg (E30_0g a b c d) sh30 (cm30_0g ) rs30 k ds:=by kernel_rfl
theorem fm30_0:∀ (α:Type) (k:RT α),Fn30_0 f30_0 α k=pa30_0.unc fun ds=>fnM Pg E30_0 sh30 cm30_0 rs30 k ds:=fm30_0g f31_0 f55_0 f51_0 f52_0
theorem is30:FnIs Pg 30 nt30 tr30 tl30 ac30 rs30:=codeF_is Tryz.func30 (by kernel_rfl)
theorem io30_0:InstOk Pg 30 nt30 ⟨pa30_0,Fn30_0 f30_0⟩:=inst_ok eo30_0 followsTry is30 ⟨⟨sh30,cm30_0,em30_0,gm30_0,fm30_0⟩⟩
abbrev nt79:Nat:=95
def sh79:SG:=[(22,iT),(28,iT),(37,iT),(43,iT),(46,iT),(53,iS 2),(62,iT),(68,iS 2),(79,iT),(85,[.cpx .f64,.int .i64]),(90,iT),(92,iT)]
def tr79:TG:=[tT 0 [0,1,2,6],tT 1 [0,2,6,7],tT 2 [0,2,6,7,14],tT 3 [0,2,6,7,14,15],tT 4 [0,2,6,7,8,14],tT 5 [0,2,6,7,14],tT 6 [0,2,6,7,14],tT 7 [0,6,7,38],tT 8 [0,6],tT 9 [0,6,7,9],tT 10 [0,6,7,9,48],tT 11 [0,6,7,9],tT 12 [0,6,7,9,63],tT 13 [0,6],tT 14 [0,6,7,9,10],tT 15 [0,6,9,10],tT 16 [0,6,9,10,80],tT 17 [0,6],tT 18 [0,6]]
def tl79:TG:=[tT 3 [0,2,6,7,14]]
def ac79:ACode:=codeF Pg Tryz.f79 tr79 tl79
def rs79:List AResV:=resF Pg Tryz.f79
def td79_9:OT:=tdC (MCode.sub [1,1,0,1,0] (emb ac79))
def p79_0_0:PT St:=pSv [(0,500000000,0)] [sl 0 (aV false [(cPtr 500000000 0)]),sP 6,sP 7,sP 9] [eBox 500000000 [xI,xI,xI,xI,xI,xI,xI,(cD dL),xI,xI],eBox 6 [(cD (dX .f64)),xI],eBox 7 (xs 4),eBox 9 [(cD (dX .f64)),xI]]
def u79_0_0 {β:Type}(g:St->β):Int->Int->Int->Int->Int->Int->Int->Rows->Int->Int->Nat->Nat->Int->Int->Int->Int->Int->Nat->Nat->Int->β:=p79_0_0.unc g
def p79_0_1:PT St:=pSv [(0,500000000,0)] [sl 0 (aV false [(cPtr 500000000 0)]),sP 6,sP 7,sP 9,sY 48 dB] [eBox 500000000 [xI,xI,xI,xI,xI,xI,xI,(cD dL),xI,xI],eBox 6 [(cD (dX .f64)),xI],eBox 7 (xs 4),eBox 9 [(cD (dX .f64)),xI]]
def u79_0_1 {β:Type}(g:St->β):Bool->Int->Int->Int->Int->Int->Int->Int->Rows->Int->Int->Nat->Nat->Int->Int->Int->Int->Int->Nat->Nat->Int->β:=p79_0_1.unc g
def pr79_0_0:PT (List RV):=pRs [pR true [rD (dX .f64),rD (dI .i64)],pR true [rD (dI .i64),rD (dI .i64),rD (dI .i64),rD (dI .i64),rD (dI .i64),rD (dI .i64),rD (dI .i64),rD dL,rD (dI .i64),rD (dI .i64)]]
def ur79_0_0 {β:Type}(g:List RV->β):Nat->Nat->Int->Int->Int->Int->Int->Int->Int->Int->Rows->Int->Int->β:=pr79_0_0.unc g
def E79_0g (a:Tf108_0)(b:Tf109_0)(c:Tf58_0)(d:Tf110_0)(e:Tf56_0)(g:Tf51_0):EnvK:=EnvK.ofIO [⟨108,nt108,[⟨pa108_0,Fn108_0 a⟩]⟩,⟨109,nt109,[⟨pa109_0,Fn109_0 b⟩]⟩,⟨58,nt58,[⟨pa58_0,Fn58_0 c⟩]⟩,⟨110,nt110,[⟨pa110_0,Fn110_0 d⟩]⟩,⟨56,nt56,[⟨pa56_0,Fn56_0 e⟩]⟩,⟨51,nt51,[⟨pa51_0,Fn51_0 g⟩]⟩] noSeq [(51,[0]),(56,[0]),(58,[0]),(108,[0])]
def E79_0:EnvK:=E79_0g f108_0 f109_0 f58_0 f110_0 f56_0 f51_0
theorem eo79_0:E79_0.Ok Pg:=EnvK.ofIO_ok noSeq_ok ⟨⟨io108_0,TT⟩,⟨io109_0,TT⟩,⟨io58_0,TT⟩,⟨io110_0,TT⟩,⟨io56_0,TT⟩,⟨io51_0,TT⟩,TT⟩
def c79_0_28g:MCode:=MCode.sub [1,1,1,1,1,0] (emb ac79)
def c79_0_28:MCode:=c79_0_28g
abbrev TJ79_0_0:Type 1:=(α:Type)->Int->Int->(Int->Nat->Nat->Int->Op α)->(Bool->Op α)->Op α
def J79_0_0g (c:Tf109_0)(d:Tf58_0)(α:Type)(a b:Int)(k1:Int->Nat->Nat->Int->Op α)(k2:Bool->Op α):Op α:=
 cK (decide ((w64 (b - a)) < 1048576))
 (c α a b
 (fun e g h i=>d α
 (k1 i e g h)))
 (k2 (decide ((w64 (b - a)) < 1048576)))
def J79_0_0 (α:Type)(a b:Int)(k1:Int->Nat->Nat->Int->Op α)(k2:Bool->Op α):Op α:=J79_0_0g f109_0 f58_0 α a b k1 k2
def F79_0_0 (v:TJ79_0_0)(α:Type)(K:KT α):Int->Int->Int->Int->Int->Int->Int->Rows->Int->Int->Nat->Nat->Int->Int->Int->Int->Int->Nat->Nat->Int->Op α:=fun w d e g h i j l m o p q r a b s t z A B=>v α a b (fun c C D F=>u79_0_0 (K .normal) c d e g h i j l m o p q r a b s t C D F) (fun c=>u79_0_1 (K .normal) c w d e g h i j l m o p q r a b s t z A B)
theorem m79_0_0g (c:Tf108_0)(a:Tf109_0)(b:Tf58_0)(d:Tf110_0)(e:Tf56_0)(g:Tf51_0)(α:Type)(K:KT α):F79_0_0 (J79_0_0g a b) α K=p79_0_0.unc fun σ=>runM Pg (E79_0g c a b d e g) sh79 (c79_0_28g ) K σ:=by kernel_rfl
theorem m79_0_0:∀ (α:Type) (K:KT α),F79_0_0 J79_0_0 α K=p79_0_0.unc fun σ=>runM Pg E79_0 sh79 c79_0_28 K σ:=m79_0_0g f108_0 f109_0 f58_0 f110_0 f56_0 f51_0
abbrev Tf79_0:Type 1:=(α:Type)->Int->Int->Int->Int->Int->Int->Rows->Int->Int->Int->Int->(Nat->Nat->Int->Int->Op α)->Op α
def f79_0g (m:TJ79_0_0)(o:Tf108_0)(e:Tf110_0)(g:Tf51_0)(h:Tf56_0)(α:Type)(p q r s t w:Int)(z:Rows)(A B C a:Int)(k1:Nat->Nat->Int->Int->Op α):Op α:=
 o α p q r s t w z A B C
 (fun D F i j b=>cK (b != 0)
 (k1 0 0 0 b)
 (m α (w64 (a*D)) (w64 (a*F))
 (fun l G H I=>cK (l != 0)
 (k1 0 0 0 l)
 (e α (w64 (a*i)) (w64 (a*j))
 (fun J L c=>cK (c != 0)
 (k1 0 0 0 c)
 (h α c J L
 (fun M N O P=>g α P G H I M N O
 (fun Q R T U=>k1 Q R T U))))))
 (fun a5=>cK (b != 0)
 (k1 0 0 0 b)
 (e α (w64 (a*i)) (w64 (a*j))
 (fun V W d=>cK (d != 0)
 (k1 0 0 0 d)
 (h α d V W
 (fun X Y Z a0=>g α a0 0 0 1048576 X Y Z
 (fun a1 a2 a3 a4=>k1 a1 a2 a3 a4))))))))
def f79_0 (α:Type)(a b c d e g:Int)(h:Rows)(i j l m:Int)(k1:Nat->Nat->Int->Int->Op α):Op α:=f79_0g J79_0_0 f108_0 f110_0 f51_0 f56_0 α a b c d e g h i j l m k1
def pa79_0:PT (List DV):=pA [pV false [(dMr [(dI .i64),(dI .i64),(dI .i64),(dI .i64),(dI .i64),(dI .i64),(dI .i64),dL,(dI .i64),(dI .i64)] 0)],vI,vI]
def Fn79_0 (v:Tf79_0)(α:Type)(k:RT α):Int->Int->Int->Int->Int->Int->Int->Rows->I4 (Op α):=fun j a b c l d e g h i m o=>v α j a b c d e g h i m o (fun p q r s=>ur79_0_0 k p q r s a b c l d e g h i)
def cm79_0g (a:TJ79_0_0):MCode:=(MCode.put (.u 3) [1,1,0,1,0] (MCode.put (.m [⟨p79_0_0,F79_0_0 a⟩]) [1,1,1,1,1] (emb ac79)))
def cm79_0:MCode:=cm79_0g J79_0_0
theorem gm79_0:cm79_0.Good Pg E79_0 sh79:=(put_u (by decide) (put_seq (by kernel_rfl) (emb_good ac79) ⟨m79_0_0,TT⟩))
theorem em79_0:cm79_0.erase=ac79:=((put_erase _ _).trans ((put_erase _ _).trans (emb_erase _)))
theorem fm79_0g (a:Tf108_0)(g:Tf109_0)(h:Tf58_0)(b:Tf110_0)(c:Tf56_0)(d:Tf51_0)(e:TJ79_0_0)(α:Type)(k:RT α):Fn79_0 (f79_0g e a b d c) α k=pa79_0.unc fun ds=>fnM Pg (E79_0g a g h b c d) sh79 (cm79_0g e) rs79 k ds:=by kernel_rfl
theorem fm79_0:∀ (α:Type) (k:RT α),Fn79_0 f79_0 α k=pa79_0.unc fun ds=>fnM Pg E79_0 sh79 cm79_0 rs79 k ds:=fm79_0g f108_0 f109_0 f58_0 f110_0 f56_0 f51_0 J79_0_0
theorem is79:FnIs Pg 79 nt79 tr79 tl79 ac79 rs79:=codeF_is Tryz.func79 (by kernel_rfl)
theorem io79_0:InstOk Pg 79 nt79 ⟨pa79_0,Fn79_0 f79_0⟩:=inst_ok eo79_0 followsTry is79 ⟨⟨sh79,cm79_0,em79_0,gm79_0,fm79_0⟩⟩
abbrev nt49:Nat:=59
def sh49:SG:=[(22,[.sl]),(30,iT),(45,[.cpx .f64,.int .i64]),(51,[.cpx .f64,.int .i64,.cpx .f64,.int .i64,.cpx .f64,.int .i64,.cpx .f64,.int .i64]),(53,[.cpx .f64,.int .i64]),(54,[.cpx .f64,.int .i64]),(57,[.cpx .f64,.int .i64,.cpx .f64,.int .i64,.cpx .f64,.int .i64,.cpx .f64,.int .i64]),(58,[.cpx .f64,.int .i64])]
def tr49:TG:=[tT 0 [0,1,4,5],tT 1 [0,1,4,5,6,7],tT 2 [0,1,4,5,6,7,8],tT 3 [0,1,4,5,6,7,8,32],tT 5 [0,1,4,5,6,7,8,9],tT 6 [0,1,4,5,6,7,8,9,10],tT 7 [0,1,4,5,6,7,8,9,10,41],tT 8 [0,1,4,5,6,7,8,9,10],tT 9 [0,1,4,5,6,7,8],tT 4 [0,1,4,5,6,7,8],tT 10 [0,4,5]]
def tl49:TG:=[tT 3 [0,1,4,5,6,7,8]]
def ac49:ACode:=codeF Pg Tryz.f49 tr49 tl49
def rs49:List AResV:=resF Pg Tryz.f49
def td49_9:OT:=tdC (MCode.sub [1,1,0,1,0] (emb ac49))
def p49_0_0:PT St:=pSv [(0,500000000,0)] [sl 0 (aV false [(cPtr 500000000 0)]),sY 1 dB,sP 4,sP 5,sP 6,sP 7,sI 8,sP 9,sP 10] [eBox 500000000 [xI,xI,xI,xI,xI,xI,xI,(cD dL),xI,xI],eBox 4 [(cD (dX .f64)),xI,(cD (dX .f64)),xI,(cD (dX .f64)),xI,(cD (dX .f64)),xI],eBox 5 [(cD (dX .f64)),xI],eBox 6 [(cD (dX .f64)),xI,(cD (dX .f64)),xI,(cD (dX .f64)),xI,(cD (dX .f64)),xI],eBox 7 [(cD (dX .f64)),xI],eBox 9 [(cD (dX .f64)),xI],eBox 10 [(cD (dX .f64)),xI]]
def u49_0_0 {β:Type}(g:St->β):Bool->Int->Int->Int->Int->Int->Int->Int->Int->Rows->Int->Int->Nat->Nat->Int->Nat->Nat->Int->Nat->Nat->Int->Nat->Nat->Int->Nat->Nat->Int->Nat->Nat->Int->Nat->Nat->Int->Nat->Nat->Int->Nat->Nat->Int->Nat->Nat->Int->Nat->Nat->Int->Nat->Nat->Int->β:=p49_0_0.unc g
def p49_0_1:PT St:=pSv [(0,500000000,0)] [sl 0 (aV false [(cPtr 500000000 0)]),sY 1 dB,sP 4,sP 5,sP 6,sP 7,sI 8,sP 9,sP 10,sY 41 dB] [eBox 500000000 [xI,xI,xI,xI,xI,xI,xI,(cD dL),xI,xI],eBox 4 [(cD (dX .f64)),xI,(cD (dX .f64)),xI,(cD (dX .f64)),xI,(cD (dX .f64)),xI],eBox 5 [(cD (dX .f64)),xI],eBox 6 [(cD (dX .f64)),xI,(cD (dX .f64)),xI,(cD (dX .f64)),xI,(cD (dX .f64)),xI],eBox 7 [(cD (dX .f64)),xI],eBox 9 [(cD (dX .f64)),xI],eBox 10 [(cD (dX .f64)),xI]]
def u49_0_1 {β:Type}(g:St->β):Bool->Int->Bool->Int->Int->Int->Int->Int->Int->Int->Rows->Int->Int->Nat->Nat->Int->Nat->Nat->Int->Nat->Nat->Int->Nat->Nat->Int->Nat->Nat->Int->Nat->Nat->Int->Nat->Nat->Int->Nat->Nat->Int->Nat->Nat->Int->Nat->Nat->Int->Nat->Nat->Int->Nat->Nat->Int->β:=p49_0_1.unc g
def p49_0_2:PT St:=pSv [(0,500000000,0)] [sl 0 (aV false [(cPtr 500000000 0)]),sY 1 dB,sP 4,sP 5,sP 6,sP 7,sI 8] [eBox 500000000 [xI,xI,xI,xI,xI,xI,xI,(cD dL),xI,xI],eBox 4 [(cD (dX .f64)),xI,(cD (dX .f64)),xI,(cD (dX .f64)),xI,(cD (dX .f64)),xI],eBox 5 [(cD (dX .f64)),xI],eBox 6 [(cD (dX .f64)),xI,(cD (dX .f64)),xI,(cD (dX .f64)),xI,(cD (dX .f64)),xI],eBox 7 [(cD (dX .f64)),xI]]
def u49_0_2 {β:Type}(g:St->β):Bool->Int->Int->Int->Int->Int->Int->Int->Int->Rows->Int->Int->Nat->Nat->Int->Nat->Nat->Int->Nat->Nat->Int->Nat->Nat->Int->Nat->Nat->Int->Nat->Nat->Int->Nat->Nat->Int->Nat->Nat->Int->Nat->Nat->Int->Nat->Nat->Int->β:=p49_0_2.unc g
def p49_0_3:PT St:=pSv [(0,500000000,0)] [sl 0 (aV false [(cPtr 500000000 0)]),sY 1 dB,sP 4,sP 5,sP 6,sP 7,sI 8,sY 32 dB] [eBox 500000000 [xI,xI,xI,xI,xI,xI,xI,(cD dL),xI,xI],eBox 4 [(cD (dX .f64)),xI,(cD (dX .f64)),xI,(cD (dX .f64)),xI,(cD (dX .f64)),xI],eBox 5 [(cD (dX .f64)),xI],eBox 6 [(cD (dX .f64)),xI,(cD (dX .f64)),xI,(cD (dX .f64)),xI,(cD (dX .f64)),xI],eBox 7 [(cD (dX .f64)),xI]]
def u49_0_3 {β:Type}(g:St->β):Bool->Int->Bool->Int->Int->Int->Int->Int->Int->Int->Rows->Int->Int->Nat->Nat->Int->Nat->Nat->Int->Nat->Nat->Int->Nat->Nat->Int->Nat->Nat->Int->Nat->Nat->Int->Nat->Nat->Int->Nat->Nat->Int->Nat->Nat->Int->Nat->Nat->Int->β:=p49_0_3.unc g
def pr49_0_0:PT (List RV):=pRs [pR true [rD (dX .f64),rD (dI .i64),rD (dX .f64),rD (dI .i64),rD (dX .f64),rD (dI .i64),rD (dX .f64),rD (dI .i64)],pR true [rD (dX .f64),rD (dI .i64)],pR true [rD (dI .i64),rD (dI .i64),rD (dI .i64),rD (dI .i64),rD (dI .i64),rD (dI .i64),rD (dI .i64),rD dL,rD (dI .i64),rD (dI .i64)]]
def ur49_0_0 {β:Type}(g:List RV->β):Nat->Nat->Int->Nat->Nat->Int->Nat->Nat->Int->Nat->Nat->Int->Nat->Nat->Int->Int->Int->Int->Int->Int->Int->Int->Rows->Int->Int->β:=pr49_0_0.unc g
def E49_0g (a:Tf77_0)(b:Tf78_0)(c:Tf30_0)(d:Tf79_0)(e:Tf51_0)(g:Tf81_0)(h:Tf80_0):EnvK:=EnvK.ofIO [⟨77,nt77,[⟨pa77_0,Fn77_0 a⟩]⟩,⟨78,nt78,[⟨pa78_0,Fn78_0 b⟩]⟩,⟨30,nt30,[⟨pa30_0,Fn30_0 c⟩]⟩,⟨79,nt79,[⟨pa79_0,Fn79_0 d⟩]⟩,⟨51,nt51,[⟨pa51_0,Fn51_0 e⟩]⟩,⟨81,nt81,[⟨pa81_0,Fn81_0 g⟩]⟩,⟨80,nt80,[⟨pa80_0,Fn80_0 h⟩]⟩] noSeq [(30,[0]),(51,[0]),(79,[0]),(80,[0]),(81,[0])]
def E49_0:EnvK:=E49_0g f77_0 f78_0 f30_0 f79_0 f51_0 f81_0 f80_0
theorem eo49_0:E49_0.Ok Pg:=EnvK.ofIO_ok noSeq_ok ⟨⟨io77_0,TT⟩,⟨io78_0,TT⟩,⟨io30_0,TT⟩,⟨io79_0,TT⟩,⟨io51_0,TT⟩,⟨io81_0,TT⟩,⟨io80_0,TT⟩,TT⟩
def c49_0_20g:MCode:=MCode.sub [1,1,0,1,0,0,1,0,0,1,1,0] (emb ac49)
def c49_0_20:MCode:=c49_0_20g
abbrev TJ49_0_0:Type 1:=(α:Type)->Bool->Int->Int->Int->Int->Int->Int->Int->Rows->Int->Int->Nat->Nat->Int->(Int->Nat->Nat->Int->Op α)->(Op α)->Op α
def J49_0_0g (a:Tf51_0)(b:Tf79_0)(α:Type)(c:Bool)(d e g h i j l:Int)(m:Rows)(o p:Int)(q r:Nat)(s:Int)(k1:Int->Nat->Nat->Int->Op α)(k2:Op α):Op α:=
 cK c
 (b α e g h i j l m o p d 1
 (fun t w z A=>a α A q r s t w z
 (fun B C D F=>k1 F B C D)))
 (k2)
def J49_0_0 (α:Type)(a:Bool)(b c d e g h i:Int)(j:Rows)(l m:Int)(o p:Nat)(q:Int)(k1:Int->Nat->Nat->Int->Op α)(k2:Op α):Op α:=J49_0_0g f51_0 f79_0 α a b c d e g h i j l m o p q k1 k2
def F49_0_0 (v:TJ49_0_0)(α:Type)(K:KT α):Bool->Int->Int->Int->Int->Int->Int->Int->Int->Rows->Int->Int->Nat->Nat->Int->Nat->Nat->Int->Nat->Nat->Int->Nat->Nat->Int->Nat->Nat->Int->Nat->Nat->Int->Nat->Nat->Int->Nat->Nat->Int->Nat->Nat->Int->Nat->Nat->Int->Nat->Nat->Int->Nat->Nat->Int->Op α:=fun a b m c d e o g h i j l p q r s t w z A B C D F G H I J L M N O P Q R T U V W X Y Z a0 a1 a2 a3 a4 a5=>v α a b m c d e g h i j l X Y Z (fun a6 a7 a8 a9=>u49_0_0 (K .normal) a b a6 c d e o g h i j l p q r s t w z A B C D F G H I J L M N O P Q R T U V W a7 a8 a9 a0 a1 a2 a3 a4 a5) (u49_0_1 (K .normal) a b a m c d e o g h i j l p q r s t w z A B C D F G H I J L M N O P Q R T U V W X Y Z a0 a1 a2 a3 a4 a5)
theorem m49_0_0g (c:Tf77_0)(d:Tf78_0)(e:Tf30_0)(a:Tf79_0)(b:Tf51_0)(g:Tf81_0)(h:Tf80_0)(α:Type)(K:KT α):F49_0_0 (J49_0_0g b a) α K=p49_0_0.unc fun σ=>runM Pg (E49_0g c d e a b g h) sh49 (c49_0_20g ) K σ:=by kernel_rfl
theorem m49_0_0:∀ (α:Type) (K:KT α),F49_0_0 J49_0_0 α K=p49_0_0.unc fun σ=>runM Pg E49_0 sh49 c49_0_20 K σ:=m49_0_0g f77_0 f78_0 f30_0 f79_0 f51_0 f81_0 f80_0
def c49_0_9g (a:TJ49_0_0):MCode:=MCode.sub [1,1,0,1,0,0] (MCode.put (.m [⟨p49_0_0,F49_0_0 a⟩]) [1,1,0,1,0,0,1,0,0,1,1] (emb ac49))
def c49_0_9:MCode:=c49_0_9g J49_0_0
def S49_0_1g (R:TJ49_0_0)(T:Tf30_0)(U:Tf79_0)(F:Tf80_0)(G:Tf81_0)(α:Type)(V:Bool)(z A B W H I:Int)(c:Rows)(C D a b:Int)(d e:Nat)(g:Int)(h i:Nat)(j:Int)(l m:Nat)(o:Int)(p q:Nat)(r:Int)(s t:Nat)(w:Int)(kn:Int->Int->Nat->Nat->Int->Nat->Nat->Int->Nat->Nat->Int->Nat->Nat->Int->Nat->Nat->Int->Op α)(k1:Int->Bool->Int->Nat->Nat->Int->Nat->Nat->Int->Nat->Nat->Int->Nat->Nat->Int->Nat->Nat->Int->Op α):Op α:=
 cK (decide (a<=((List.length c:Nat):Int)))
 (cK (b == 0)
 (T α b z A B W c C D a
 (fun J L M X=>U α X z A B H I c C D a 2
 (fun N O P Q=>R α V a Q z A B H I c C D s t w
 (fun Y Z a0 a1=>G α Y J L M N O P
 (fun a2 a3 a4 a5 a6 a7 a8 a9 b0 b1 b2 b3 b4=>F α b4 d e g h i j l m o p q r a2 a3 a4 a5 a6 a7 a8 a9 b0 b1 b2 b3
 (fun b5 b6 b7 b8 b9 c0 c1 c2 c3 c4 c5 c6 c7=>kn (w64 (a+1)) c7 b5 b6 b7 b8 b9 c0 c1 c2 c3 c4 c5 c6 Z a0 a1)))
 (G α Q J L M N O P
 (fun c8 c9 d0 d1 d2 d3 d4 d5 d6 d7 d8 d9 e0=>F α e0 d e g h i j l m o p q r c8 c9 d0 d1 d2 d3 d4 d5 d6 d7 d8 d9
 (fun e1 e2 e3 e4 e5 e6 e7 e8 e9 g0 g1 g2 g3=>kn (w64 (a+1)) g3 e1 e2 e3 e4 e5 e6 e7 e8 e9 g0 g1 g2 s t w))))))
 (k1 a (b == 0) b d e g h i j l m o p q r s t w))
 (k1 a false b d e g h i j l m o p q r s t w)
def S49_0_1 (α:Type)(a:Bool)(b c d e g h:Int)(i:Rows)(j l m o:Int)(p q:Nat)(r:Int)(s t:Nat)(w:Int)(z A:Nat)(B:Int)(C D:Nat)(F:Int)(G H:Nat)(I:Int)(kn:Int->Int->Nat->Nat->Int->Nat->Nat->Int->Nat->Nat->Int->Nat->Nat->Int->Nat->Nat->Int->Op α)(k1:Int->Bool->Int->Nat->Nat->Int->Nat->Nat->Int->Nat->Nat->Int->Nat->Nat->Int->Nat->Nat->Int->Op α):Op α:=S49_0_1g J49_0_0 f30_0 f79_0 f80_0 f81_0 α a b c d e g h i j l m o p q r s t w z A B C D F G H I kn k1
def R49_0_1 (α:Type)(a:Bool)(b c d e g h:Int)(i:Rows)(j l:Int)(k1:Int->Bool->Int->Nat->Nat->Int->Nat->Nat->Int->Nat->Nat->Int->Nat->Nat->Int->Nat->Nat->Int->Op α):Nat->Int->Int->Nat->Nat->Int->Nat->Nat->Int->Nat->Nat->Int->Nat->Nat->Int->Nat->Nat->Int->Op α
 | 0=>fun _ _ _ _ _ _ _ _ _ _ _ _ _ _ _ _ _=>none
 | n+1=>fun m o p q r s t w z A B C D F G H I=>S49_0_1 α a b c d e g h i j l m o p q r s t w z A B C D F G H I (R49_0_1 α a b c d e g h i j l k1 n) k1
def L49_0_1 (α:Type)(a:Bool)(b c d e g h:Int)(i:Rows)(j l:Int)(k1:Int->Bool->Int->Nat->Nat->Int->Nat->Nat->Int->Nat->Nat->Int->Nat->Nat->Int->Nat->Nat->Int->Op α)(m o:Int)(p q:Nat)(r:Int)(s t:Nat)(w:Int)(z A:Nat)(B:Int)(C D:Nat)(F:Int)(G H:Nat)(I:Int):Op α:=R49_0_1 α a b c d e g h i j l k1 fuel m o p q r s t w z A B C D F G H I
abbrev TL49_0_1:Type 1:=(α:Type)->Bool->Int->Int->Int->Int->Int->Int->Rows->Int->Int->(Int->Bool->Int->Nat->Nat->Int->Nat->Nat->Int->Nat->Nat->Int->Nat->Nat->Int->Nat->Nat->Int->Op α)->Int->Int->Nat->Nat->Int->Nat->Nat->Int->Nat->Nat->Int->Nat->Nat->Int->Nat->Nat->Int->Op α
def F49_0_1 (v:TL49_0_1)(α:Type)(K:KT α):Bool->Int->Int->Int->Int->Int->Int->Int->Int->Rows->Int->Int->Nat->Nat->Int->Nat->Nat->Int->Nat->Nat->Int->Nat->Nat->Int->Nat->Nat->Int->Nat->Nat->Int->Nat->Nat->Int->Nat->Nat->Int->Nat->Nat->Int->Nat->Nat->Int->Op α:=fun a m o b c d e g h i j l p q r s t w z A B C D F G H I J L M N O P Q R T U V W X Y Z=>v α a b c d e g h i j l (fun a0 a1 a2 a3 a4 a5 a6 a7 a8 a9 b0 b1 b2 b3 b4 b5 b6 b7=>u49_0_3 (K (.exit 0)) a a0 a1 a2 b c d e g h i j l p q r s t w z A B C D F G H I a3 a4 a5 a6 a7 a8 a9 b0 b1 b2 b3 b4 b5 b6 b7) m o J L M N O P Q R T U V W X Y Z
theorem r49_0_1g (a5:Tf77_0)(a6:Tf78_0)(a0:Tf30_0)(a1:Tf79_0)(a7:Tf51_0)(a2:Tf81_0)(a3:Tf80_0)(a4:TJ49_0_0)(α:Type)(K:KT α)(Kn:SK α)(a:Bool)(b c d e g h i j:Int)(l:Rows)(m o:Int)(J L:Nat)(M:Int)(N O:Nat)(P:Int)(Q R:Nat)(T:Int)(U V:Nat)(W:Int)(X Y:Nat)(Z:Int)(p q:Nat)(r:Int)(s t:Nat)(w:Int)(z A:Nat)(B:Int)(C D:Nat)(F:Int)(G H:Nat)(I:Int):u49_0_2 (fun σ=>runM Pg (E49_0g a5 a6 a0 a1 a7 a2 a3) sh49 (c49_0_9g a4) (thenK (fun σ=>tidyK td49_9 σ Kn) K) σ) a b c d e g h i j l m o J L M N O P Q R T U V W X Y Z p q r s t w z A B C D F G H I=S49_0_1g a4 a0 a1 a3 a2 α a d e g h i j l m o b c p q r s t w z A B C D F G H I (fun b c p q r s t w z A B C D F G H I=>u49_0_2 Kn a b c d e g h i j l m o J L M N O P Q R T U V W X Y Z p q r s t w z A B C D F G H I) (fun a8 a9 b0 b1 b2 b3 b4 b5 b6 b7 b8 b9 c0 c1 c2 c3 c4 c5=>u49_0_3 (K (.exit 0)) a a8 a9 b0 d e g h i j l m o J L M N O P Q R T U V W X Y Z b1 b2 b3 b4 b5 b6 b7 b8 b9 c0 c1 c2 c3 c4 c5):=by kernel_rfl
theorem r49_0_1 (α:Type)(K:KT α)(Kn:SK α)(a:Bool)(b c d e g h i j:Int)(l:Rows)(m o:Int)(J L:Nat)(M:Int)(N O:Nat)(P:Int)(Q R:Nat)(T:Int)(U V:Nat)(W:Int)(X Y:Nat)(Z:Int)(p q:Nat)(r:Int)(s t:Nat)(w:Int)(z A:Nat)(B:Int)(C D:Nat)(F:Int)(G H:Nat)(I:Int):u49_0_2 (fun σ=>runM Pg E49_0 sh49 c49_0_9 (thenK (fun σ=>tidyK td49_9 σ Kn) K) σ) a b c d e g h i j l m o J L M N O P Q R T U V W X Y Z p q r s t w z A B C D F G H I=S49_0_1 α a d e g h i j l m o b c p q r s t w z A B C D F G H I (fun b c p q r s t w z A B C D F G H I=>u49_0_2 Kn a b c d e g h i j l m o J L M N O P Q R T U V W X Y Z p q r s t w z A B C D F G H I) (fun a0 a1 a2 a3 a4 a5 a6 a7 a8 a9 b0 b1 b2 b3 b4 b5 b6 b7=>u49_0_3 (K (.exit 0)) a a0 a1 a2 d e g h i j l m o J L M N O P Q R T U V W X Y Z a3 a4 a5 a6 a7 a8 a9 b0 b1 b2 b3 b4 b5 b6 b7):=r49_0_1g f77_0 f78_0 f30_0 f79_0 f51_0 f81_0 f80_0 J49_0_0 α K Kn a b c d e g h i j l m o J L M N O P Q R T U V W X Y Z p q r s t w z A B C D F G H I
theorem t49_0_1 (α:Type)(K:KT α):∀ (n:Nat) (a:Bool) (m o b c d e g h:Int) (i:Rows) (j l:Int) (J L:Nat) (M:Int) (N O:Nat) (P:Int) (Q R:Nat) (T:Int) (U V:Nat) (W:Int) (X Y:Nat) (Z:Int) (p q:Nat) (r:Int) (s t:Nat) (w:Int) (z A:Nat) (B:Int) (C D:Nat) (F:Int) (G H:Nat) (I:Int),R49_0_1 α a b c d e g h i j l (fun a0 a1 a2 a3 a4 a5 a6 a7 a8 a9 b0 b1 b2 b3 b4 b5 b6 b7=>u49_0_3 (K (.exit 0)) a a0 a1 a2 b c d e g h i j l J L M N O P Q R T U V W X Y Z a3 a4 a5 a6 a7 a8 a9 b0 b1 b2 b3 b4 b5 b6 b7) n m o p q r s t w z A B C D F G H I=u49_0_2 (loopT (runM Pg E49_0 sh49 c49_0_9) td49_9 K n) a m o b c d e g h i j l J L M N O P Q R T U V W X Y Z p q r s t w z A B C D F G H I:=by
 intro n
 induction n with
 | zero=>intros;rfl
 | succ n ih=>intro a m o b c d e g h i j l J L M N O P Q R T U V W X Y Z p q r s t w z A B C D F G H I;exact (congrArg (fun kn=>S49_0_1 α a b c d e g h i j l m o p q r s t w z A B C D F G H I kn (fun a0 a1 a2 a3 a4 a5 a6 a7 a8 a9 b0 b1 b2 b3 b4 b5 b6 b7=>u49_0_3 (K (.exit 0)) a a0 a1 a2 b c d e g h i j l J L M N O P Q R T U V W X Y Z a3 a4 a5 a6 a7 a8 a9 b0 b1 b2 b3 b4 b5 b6 b7)) (funext fun m=>funext fun o=>funext fun p=>funext fun q=>funext fun r=>funext fun s=>funext fun t=>funext fun w=>funext fun z=>funext fun A=>funext fun B=>funext fun C=>funext fun D=>funext fun F=>funext fun G=>funext fun H=>funext fun I=>ih a m o b c d e g h i j l J L M N O P Q R T U V W X Y Z p q r s t w z A B C D F G H I)).trans (r49_0_1 α K (loopT (runM Pg E49_0 sh49 c49_0_9) td49_9 K n) a m o b c d e g h i j l J L M N O P Q R T U V W X Y Z p q r s t w z A B C D F G H I).symm
theorem m49_0_1:∀ (α:Type) (K:KT α),F49_0_1 L49_0_1 α K=p49_0_2.unc fun σ=>loopT (runM Pg E49_0 sh49 c49_0_9) td49_9 K fuel σ:=fun α K=>by funext a b c d e g h i j l m o p q r s t w z A B C D F G H I J L M N O P Q R T U V W X Y Z;exact t49_0_1 α K fuel a b c d e g h i j l m o p q r s t w z A B C D F G H I J L M N O P Q R T U V W X Y Z
abbrev Tf49_0:Type 1:=(α:Type)->Int->Int->Int->Int->Int->Int->Int->Rows->Int->Int->Bool->(Nat->Nat->Int->Nat->Nat->Int->Nat->Nat->Int->Nat->Nat->Int->Nat->Nat->Int->Int->Op α)->Op α
def f49_0g (c:TL49_0_1)(a:Tf77_0)(b:Tf78_0)(α:Type)(d e g h i j l:Int)(m:Rows)(o p:Int)(q:Bool)(k1:Nat->Nat->Int->Nat->Nat->Int->Nat->Nat->Int->Nat->Nat->Int->Nat->Nat->Int->Int->Op α):Op α:=
 a α
 (b α
 (b α
 (a α
 (a α
 (c α q e g h i j l m o p
 (fun N O r s t w z A B C D F G H I J L M=>k1 s t w z A B C D F G H I J L M r) 1 d 4697254411347427328 0 0 0 0 0 0 0 0 4697254411347427328 0 0 4697254411347427328 0 0)))))
def f49_0 (α:Type)(a b c d e g h:Int)(i:Rows)(j l:Int)(m:Bool)(k1:Nat->Nat->Int->Nat->Nat->Int->Nat->Nat->Int->Nat->Nat->Int->Nat->Nat->Int->Int->Op α):Op α:=f49_0g L49_0_1 f77_0 f78_0 α a b c d e g h i j l m k1
def pa49_0:PT (List DV):=pA [pV false [(dMr [(dI .i64),(dI .i64),(dI .i64),(dI .i64),(dI .i64),(dI .i64),(dI .i64),dL,(dI .i64),(dI .i64)] 0)],pV false [dB]]
def Fn49_0 (v:Tf49_0)(α:Type)(k:RT α):Int->Int->Int->Int->Int->Int->Int->Rows->Int->Int->Bool->Op α:=fun l a b c d e g h i j m=>v α l a b c d e g h i j m (fun o p q r s t w z A B C D F G H I=>ur49_0_0 k o p q r s t w z A B C D F G H I a b c d e g h i j)
def cm49_0g (a:TL49_0_1):MCode:=(MCode.put (.m [⟨p49_0_2,F49_0_1 a⟩]) [1,1,0,1,0] (MCode.put (.m [⟨p49_0_0,F49_0_0 J49_0_0⟩]) [1,1,0,1,0,0,1,0,0,1,1] (emb ac49)))
def cm49_0:MCode:=cm49_0g L49_0_1
theorem gm49_0:cm49_0.Good Pg E49_0 sh49:=(put_loop (td:=td49_9) (by kernel_rfl) (put_seq (by kernel_rfl) (emb_good ac49) ⟨m49_0_0,TT⟩) ⟨m49_0_1,TT⟩)
theorem em49_0:cm49_0.erase=ac49:=((put_erase _ _).trans ((put_erase _ _).trans (emb_erase _)))
theorem fm49_0g (a:Tf77_0)(b:Tf78_0)(d:Tf30_0)(e:Tf79_0)(g:Tf51_0)(h:Tf81_0)(i:Tf80_0)(c:TL49_0_1)(α:Type)(k:RT α):Fn49_0 (f49_0g c a b) α k=pa49_0.unc fun ds=>fnM Pg (E49_0g a b d e g h i) sh49 (cm49_0g c) rs49 k ds:=by kernel_rfl
theorem fm49_0:∀ (α:Type) (k:RT α),Fn49_0 f49_0 α k=pa49_0.unc fun ds=>fnM Pg E49_0 sh49 cm49_0 rs49 k ds:=fm49_0g f77_0 f78_0 f30_0 f79_0 f51_0 f81_0 f80_0 L49_0_1
theorem is49:FnIs Pg 49 nt49 tr49 tl49 ac49 rs49:=codeF_is Tryz.func49 (by kernel_rfl)
theorem io49_0:InstOk Pg 49 nt49 ⟨pa49_0,Fn49_0 f49_0⟩:=inst_ok eo49_0 followsTry is49 ⟨⟨sh49,cm49_0,em49_0,gm49_0,fm49_0⟩⟩
abbrev nt28:Nat:=96
def sh28:SG:=[(26,[.sl]),(34,[.cpx .f64,.int .i64]),(39,[.cpx .f64,.int .i64]),(40,[.cpx .f64,.int .i64]),(47,[.cpx .f64,.int .i64]),(52,[.cpx .f64,.int .i64]),(53,[.cpx .f64,.int .i64]),(59,[.cpx .f64,.int .i64]),(60,[.cpx .f64,.int .i64]),(65,[.cpx .f64,.int .i64]),(66,[.cpx .f64,.int .i64]),(78,[.cpx .f64,.int .i64]),(79,[.cpx .f64,.int .i64]),(81,[.cpx .f64,.int .i64]),(83,[.cpx .f64,.int .i64]),(91,[.cpx .f64,.int .i64]),(92,[.cpx .f64,.int .i64]),(94,[.cpx .f64,.int .i64])]
def tr28:TG:=[tT 0 [0,1,4],tT 1 [0,1,4,5],tT 2 [0,1,4,5,6,7],tT 3 [0,1,4,5,6,7,8],tT 4 [0,1,4,5,6,7,8,9],tT 5 [0,1,4,5,7,9,10],tT 6 [0,1,4,5,7,10,11],tT 7 [0,1,4,5,7,10,11,12],tT 8 [0,4,5,7,10,11,12,68],tT 9 [0,4],tT 10 [0,4]]
def tl28:TG:=[]
def ac28:ACode:=codeF Pg Tryz.f28 tr28 tl28
def rs28:List AResV:=resF Pg Tryz.f28
def pr28_0_0:PT (List RV):=pRs [pR true [rD (dX .f64),rD (dI .i64)],pR true [rD (dI .i64),rD (dI .i64),rD (dI .i64),rD (dI .i64),rD (dI .i64),rD (dI .i64),rD (dI .i64),rD dL,rD (dI .i64),rD (dI .i64)]]
def ur28_0_0 {β:Type}(g:List RV->β):Nat->Nat->Int->Int->Int->Int->Int->Int->Int->Int->Rows->Int->Int->β:=pr28_0_0.unc g
def E28_0g (a:Tf30_0)(b:Tf49_0)(c:Tf51_0)(d:Tf50_0)(e:Tf52_0)(g:Tf53_0):EnvK:=EnvK.ofIO [⟨30,nt30,[⟨pa30_0,Fn30_0 a⟩]⟩,⟨49,nt49,[⟨pa49_0,Fn49_0 b⟩]⟩,⟨51,nt51,[⟨pa51_0,Fn51_0 c⟩]⟩,⟨50,nt50,[⟨pa50_0,Fn50_0 d⟩]⟩,⟨52,nt52,[⟨pa52_0,Fn52_0 e⟩]⟩,⟨53,nt53,[⟨pa53_0,Fn53_0 g⟩]⟩] noSeq [(30,[0]),(49,[0]),(50,[0]),(51,[0]),(52,[0]),(53,[0])]
def E28_0:EnvK:=E28_0g f30_0 f49_0 f51_0 f50_0 f52_0 f53_0
theorem eo28_0:E28_0.Ok Pg:=EnvK.ofIO_ok noSeq_ok ⟨⟨io30_0,TT⟩,⟨io49_0,TT⟩,⟨io51_0,TT⟩,⟨io50_0,TT⟩,⟨io52_0,TT⟩,⟨io53_0,TT⟩,TT⟩
abbrev Tf28_0:Type 1:=(α:Type)->Int->Int->Int->Int->Int->Int->Int->Rows->Int->Int->Bool->(Nat->Nat->Int->Int->Op α)->Op α
def f28_0g (p:Tf30_0)(L:Tf49_0)(a:Tf50_0)(b:Tf51_0)(q:Tf52_0)(M:Tf53_0)(α:Type)(N d e g h O P:Int)(c:Rows)(i j:Int)(r:Bool)(k1:Nat->Nat->Int->Int->Op α):Op α:=
 p α N d e g h c i j 0
 (fun l m o Q=>L α Q d e g h O P c i j r
 (fun R T U V W X Y Z a0 a1 a2 a3 a4 a5 a6 a7=>p α a7 d e g h c i j (w64 (((List.length c:Nat):Int)+1))
 (fun s t w a8=>b α a8 V W X s t w
 (fun a9 b0 b1 b2=>a α b2 R T U a9 b0 b1
 (fun b3 b4 b5 b6=>b α b6 a1 a2 a3 s t w
 (fun b7 b8 b9 c0=>a α c0 Y Z a0 b7 b8 b9
 (fun z A B c1=>b α c1 l m o b3 b4 b5
 (fun C D F c2=>a α c2 C D F z A B
 (fun G H I J=>cK r
 (a α J l m o l m o
 (fun c3 c4 c5 c6=>b α c6 c3 c4 c5 a4 a5 a6
 (fun c7 c8 c9 d0=>q α d0 c7 c8 c9 G H I
 (fun d1 d2 d3 d4=>k1 d1 d2 d3 d4))))
 (M α J C D F z A B
 (fun d5 d6 d7 d8=>q α d8 d5 d6 d7 G H I
 (fun d9 e0 e1 e2=>k1 d9 e0 e1 e2))))))))))))
def f28_0 (α:Type)(a b c d e g h:Int)(i:Rows)(j l:Int)(m:Bool)(k1:Nat->Nat->Int->Int->Op α):Op α:=f28_0g f30_0 f49_0 f50_0 f51_0 f52_0 f53_0 α a b c d e g h i j l m k1
def pa28_0:PT (List DV):=pA [pV false [(dMr [(dI .i64),(dI .i64),(dI .i64),(dI .i64),(dI .i64),(dI .i64),(dI .i64),dL,(dI .i64),(dI .i64)] 0)],pV false [dB]]
def Fn28_0 (v:Tf28_0)(α:Type)(k:RT α):Int->Int->Int->Int->Int->Int->Int->Rows->Int->Int->Bool->Op α:=fun l a b c d e g h i j m=>v α l a b c d e g h i j m (fun o p q r=>ur28_0_0 k o p q r a b c d e g h i j)
def cm28_0g:MCode:=(emb ac28)
def cm28_0:MCode:=cm28_0g
theorem gm28_0:cm28_0.Good Pg E28_0 sh28:=(emb_good ac28)
theorem em28_0:cm28_0.erase=ac28:=(emb_erase _)
theorem fm28_0g (a:Tf30_0)(b:Tf49_0)(c:Tf51_0)(d:Tf50_0)(e:Tf52_0)(g:Tf53_0)(α:Type)(k:RT α):Fn28_0 (f28_0g a b d c e g) α k=pa28_0.unc fun ds=>fnM Pg (E28_0g a b c d e g) sh28 (cm28_0g ) rs28 k ds:=by kernel_rfl
theorem fm28_0:∀ (α:Type) (k:RT α),Fn28_0 f28_0 α k=pa28_0.unc fun ds=>fnM Pg E28_0 sh28 cm28_0 rs28 k ds:=fm28_0g f30_0 f49_0 f51_0 f50_0 f52_0 f53_0
theorem is28:FnIs Pg 28 nt28 tr28 tl28 ac28 rs28:=codeF_is Tryz.func28 (by kernel_rfl)
theorem io28_0:InstOk Pg 28 nt28 ⟨pa28_0,Fn28_0 f28_0⟩:=inst_ok eo28_0 followsTry is28 ⟨⟨sh28,cm28_0,em28_0,gm28_0,fm28_0⟩⟩
abbrev nt9:Nat:=123
def sh9:SG:=[(17,[.int .i64,.int .i64,.int .i64,.int .i64,.int .i64,.int .i64,.sl,.int .i64,.int .i64]),(30,[.sl]),(58,iT),(65,iT),(67,iT),(71,[.cpx .f64,.int .i64]),(80,[.cpx .f64,.int .i64]),(88,iS 2),(90,iS 2),(93,iT),(95,iT),(98,iT),(101,iT),(103,iT),(106,iT),(117,iS 2),(119,iS 2),(122,iS 6)]
def tr9:TG:=[tT 0 [1,2],tT 1 [1,2,4,5],tT 2 [1,2,4,5,22],tT 3 [2,3],tT 4 [1,2,4,6],tT 5 [1,2,4,6,7],tT 6 [2,4,6,7,8],tT 7 [2,4,6,7,8,9,10],tT 8 [2,4,6,7,9,10,12],tT 9 [2,4,6,7,9,10,12,59],tT 10 [2,3],tT 11 [2,4,6,7,9,10,12,68],tT 12 [2,3],tT 13 [2,4,5,7,9,10,12,13],tT 14 [2,4,5,7,9,10,12,13,76],tT 15 [2,3],tT 16 [2,4,5,9,10,12,13,14],tT 17 [2,4,5,9,10,12,13,14,85],tT 18 [2,3],tT 19 [2,4,9,10,12,13,14],tT 20 [2,4,12,15],tT 21 [2,4,15,111],tT 22 [2,4,15],tT 23 [2,15,115],tT 24 [2,15],tT 25 [2,3]]
def tl9:TG:=[]
def ac9:ACode:=codeF Pg Tryz.f9 tr9 tl9
def rs9:List AResV:=resF Pg Tryz.f9
def p9_0_0:PT St:=pS [sP 2,sl 4 (aV false [(cPtr 18 0)]),sY 12 dB,sP 15] [eBox 2 (xs 6),eBox 18 [xI,xI,xI,xI,xI,xI,xI,(cD dL),xI,xI],eBox 15 (xs 6)]
def u9_0_0 {β:Type}(g:St->β):Bool->Int->Int->Int->Int->Int->Int->Int->Int->Int->Int->Int->Int->Int->Rows->I8 β:=p9_0_0.unc g
def p9_0_1:PT St:=pS [sP 2,sl 4 (aV false [(cPtr 18 0)]),sP 15] [eBox 2 (xs 6),eBox 18 [xI,xI,xI,xI,xI,xI,xI,(cD dL),xI,xI],eBox 15 (xs 6)]
def u9_0_1 {β:Type}(g:St->β):Int->Int->Int->Int->Int->Int->Int->Int->Int->Int->Int->Int->Int->Rows->I8 β:=p9_0_1.unc g
def p9_0_2:PT St:=pS [sP 2,sl 4 (aV false [(cPtr 18 0)]),sP 15,sY 111 dB] [eBox 2 (xs 6),eBox 18 [xI,xI,xI,xI,xI,xI,xI,(cD dL),xI,xI],eBox 15 (xs 6)]
def u9_0_2 {β:Type}(g:St->β):Bool->Int->Int->Int->Int->Int->Int->Int->Int->Int->Int->Int->Int->Int->Rows->I8 β:=p9_0_2.unc g
def pr9_0_0:PT (List RV):=pRs [pR true [rD (dI .i64),rD (dI .i64),rD (dI .i64),rD (dI .i64),rD (dI .i64),rD (dI .i64)],wI]
def ur9_0_0 {β:Type}(g:List RV->β):I7 β:=pr9_0_0.unc g
def E9_0g (a:Tf27_0)(b:Tf28_0)(c:Tf30_0)(d:Tf29_0)(e:Tf31_0)(g:Tf32_0)(h:Tf33_0)(i:Tf34_0)(j:Tf35_0)(l:Tf36_0)(m:Tf37_0)(o:Tf38_0):EnvK:=EnvK.ofIO [⟨27,nt27,[⟨pa27_0,Fn27_0 a⟩]⟩,⟨28,nt28,[⟨pa28_0,Fn28_0 b⟩]⟩,⟨30,nt30,[⟨pa30_0,Fn30_0 c⟩]⟩,⟨29,nt29,[⟨pa29_0,Fn29_0 d⟩]⟩,⟨31,nt31,[⟨pa31_0,Fn31_0 e⟩]⟩,⟨32,nt32,[⟨pa32_0,Fn32_0 g⟩]⟩,⟨33,nt33,[⟨pa33_0,Fn33_0 h⟩]⟩,⟨34,nt34,[⟨pa34_0,Fn34_0 i⟩]⟩,⟨35,nt35,[⟨pa35_0,Fn35_0 j⟩]⟩,⟨36,nt36,[⟨pa36_0,Fn36_0 l⟩]⟩,⟨37,nt37,[⟨pa37_0,Fn37_0 m⟩]⟩,⟨38,nt38,[⟨pa38_0,Fn38_0 o⟩]⟩] noSeq [(28,[0]),(29,[0]),(30,[0]),(31,[0]),(37,[0])]
def E9_0:EnvK:=E9_0g f27_0 f28_0 f30_0 f29_0 f31_0 f32_0 f33_0 f34_0 f35_0 f36_0 f37_0 f38_0
theorem eo9_0:E9_0.Ok Pg:=EnvK.ofIO_ok noSeq_ok ⟨⟨io27_0,TT⟩,⟨io28_0,TT⟩,⟨io30_0,TT⟩,⟨io29_0,TT⟩,⟨io31_0,TT⟩,⟨io32_0,TT⟩,⟨io33_0,TT⟩,⟨io34_0,TT⟩,⟨io35_0,TT⟩,⟨io36_0,TT⟩,⟨io37_0,TT⟩,⟨io38_0,TT⟩,TT⟩
def c9_0_53g:MCode:=MCode.sub [1,1,1,1,1,1,1,1,1,1,1,1,1,1,1,1,0] (emb ac9)
def c9_0_53:MCode:=c9_0_53g
abbrev TJ9_0_0:Type 1:=(α:Type)->Bool->(Op α)->(Op α)->Op α
def J9_0_0g (α:Type)(a:Bool)(k1:Op α)(k2:Op α):Op α:=
 cK a
 (k1)
 (k2)
def J9_0_0 (α:Type)(a:Bool)(k1:Op α)(k2:Op α):Op α:=J9_0_0g α a k1 k2
def F9_0_0 (v:TJ9_0_0)(α:Type)(K:KT α):Bool->Int->Int->Int->Int->Int->Int->Int->Int->Int->Int->Int->Int->Int->Rows->I8 (Op α):=fun a b c d e g h i j l m o p q r s t w z C D A B=>v α a (u9_0_1 (K .normal) b c d e g h i j l m o p q r s t w z 0 0 A B) (u9_0_2 (K .normal) a b c d e g h i j l m o p q r s t w z C D A B)
theorem m9_0_0g (a:Tf27_0)(b:Tf28_0)(c:Tf30_0)(d:Tf29_0)(e:Tf31_0)(g:Tf32_0)(h:Tf33_0)(i:Tf34_0)(j:Tf35_0)(l:Tf36_0)(m:Tf37_0)(o:Tf38_0)(α:Type)(K:KT α):F9_0_0 (J9_0_0g ) α K=p9_0_0.unc fun σ=>runM Pg (E9_0g a b c d e g h i j l m o) sh9 (c9_0_53g ) K σ:=by kernel_rfl
theorem m9_0_0:∀ (α:Type) (K:KT α),F9_0_0 J9_0_0 α K=p9_0_0.unc fun σ=>runM Pg E9_0 sh9 c9_0_53 K σ:=m9_0_0g f27_0 f28_0 f30_0 f29_0 f31_0 f32_0 f33_0 f34_0 f35_0 f36_0 f37_0 f38_0
abbrev Tf9_0:Type 1:=(α:Type)->Int->Int->Int->Int->Int->Int->Rows->Int->Int->(I7 (Op α))->Op α
def f9_0g (H:TJ9_0_0)(I:Tf27_0)(q:Tf28_0)(r:Tf29_0)(s:Tf30_0)(J:Tf31_0)(t:Tf32_0)(L:Tf33_0)(w:Tf34_0)(M:Tf35_0)(N:Tf36_0)(z:Tf37_0)(A:Tf38_0)(α:Type)(b e g j l m:Int)(a:Rows)(c d:Int)(k1:I7 (Op α)):Op α:=
 I α b e g j l m a c d
 (fun B=>cK (B != 0)
 (k1 0 0 0 0 0 0 B)
 (q α 0 b e g j l m a c d false
 (fun O P Q R=>q α R b e g j l m a c d true
 (fun T U V W=>s α W b e g j a c d (w64 (((List.length a:Nat):Int)+1))
 (fun X Y Z a0=>r α a0 X Y Z
 (fun a1 a2 c5 c6 a3=>s α a3 b e g j a c d 0
 (fun a4 a5 a6 a7=>r α a7 a4 a5 a6
 (fun C a8 c7 c8 a9=>J α a9 b e g a c d (w64 (((List.length a:Nat):Int)+1))
 (fun c9 d0 d1 b0 D=>cK (D != 0)
 (k1 0 0 0 0 0 0 D)
 (cK (decide (C<=0))
 (k1 0 0 0 0 0 0 9)
 (t α O P Q
 (fun b1 b2 F=>cK (F != 0)
 (k1 0 0 0 0 0 0 F)
 (t α T U V
 (fun b3 b4 G=>cK (G != 0)
 (k1 0 0 0 0 0 0 G)
 (L α a1 a2
 (fun b5 b6=>w α b1 b2
 (fun h i=>M α (w64 (b5*b3)) a8
 (fun b7=>N α (w64 (b6*b4)) C
 (fun b8=>w α b7 b8
 (fun o p=>H α b0
 (z α b a c d
 (fun b9=>cK b9
 (A α h i 0 0
 (fun c0 c1=>k1 h i 0 0 c0 c1 0))
 (k1 h i 0 0 0 0 0)))
 (z α b a c d
 (fun c2=>cK c2
 (A α h i o p
 (fun c3 c4=>k1 h i o p c3 c4 0))
 (k1 h i o p 0 0 0)))))))))))))))))))))))
def f9_0 (α:Type)(a b c d e g:Int)(h:Rows)(i j:Int)(k1:I7 (Op α)):Op α:=f9_0g J9_0_0 f27_0 f28_0 f29_0 f30_0 f31_0 f32_0 f33_0 f34_0 f35_0 f36_0 f37_0 f38_0 α a b c d e g h i j k1
def pa9_0:PT (List DV):=pA [pV true [(dI .i64),(dI .i64),(dI .i64),(dI .i64),(dI .i64),(dI .i64),dL,(dI .i64),(dI .i64)]]
def Fn9_0 (v:Tf9_0)(α:Type)(k:RT α):Int->Int->Int->Int->Int->Int->Rows->Int->Int->Op α:=fun a b c d e g h i j=>v α a b c d e g h i j (fun l m o p q r s=>ur9_0_0 k l m o p q r s)
def cm9_0g (a:TJ9_0_0):MCode:=(MCode.put (.m [⟨p9_0_0,F9_0_0 a⟩]) [1,1,1,1,1,1,1,1,1,1,1,1,1,1,1,1] (emb ac9))
def cm9_0:MCode:=cm9_0g J9_0_0
theorem gm9_0:cm9_0.Good Pg E9_0 sh9:=(put_seq (by kernel_rfl) (emb_good ac9) ⟨m9_0_0,TT⟩)
theorem em9_0:cm9_0.erase=ac9:=((put_erase _ _).trans (emb_erase _))
theorem fm9_0g (a:Tf27_0)(b:Tf28_0)(c:Tf30_0)(d:Tf29_0)(e:Tf31_0)(g:Tf32_0)(h:Tf33_0)(i:Tf34_0)(j:Tf35_0)(l:Tf36_0)(m:Tf37_0)(o:Tf38_0)(p:TJ9_0_0)(α:Type)(k:RT α):Fn9_0 (f9_0g p a b d c e g h i j l m o) α k=pa9_0.unc fun ds=>fnM Pg (E9_0g a b c d e g h i j l m o) sh9 (cm9_0g p) rs9 k ds:=by kernel_rfl
theorem fm9_0:∀ (α:Type) (k:RT α),Fn9_0 f9_0 α k=pa9_0.unc fun ds=>fnM Pg E9_0 sh9 cm9_0 rs9 k ds:=fm9_0g f27_0 f28_0 f30_0 f29_0 f31_0 f32_0 f33_0 f34_0 f35_0 f36_0 f37_0 f38_0 J9_0_0
theorem is9:FnIs Pg 9 nt9 tr9 tl9 ac9 rs9:=codeF_is Tryz.func9 (by kernel_rfl)
theorem io9_0:InstOk Pg 9 nt9 ⟨pa9_0,Fn9_0 f9_0⟩:=inst_ok eo9_0 followsTry is9 ⟨⟨sh9,cm9_0,em9_0,gm9_0,fm9_0⟩⟩
end
end Go.AM.K
