/- Printed by KGen. -/
import Derived.Test.YtamjfkiklngagaaGreatProg
import Derived.Test.YtamjfkiklngagaaGreatKMa
namespace Go.AM.K
open Go.Proofs
set_option maxRecDepth 100000
set_option linter.unusedVariables false
noncomputable section
theorem TT:True:=True.intro
abbrev sY (n:Nat)(x:_):=sl n (aV false [cD x])
abbrev ln9 (n:Nat):Go.Op:=.call { callee:=.builtin .len,args:=#[(.tmp n)],argTypes:=#[9] }
abbrev Pg:=Tryz.prog
abbrev I8 (t:Type):Type:=Int->Int->Int->Int->Int->Int->Int->Int->t
abbrev I15 (t:Type):Type:=Int->Int->Int->Int->Int->Int->Int->Int->Int->Int->Int->Int->Int->Int->Int->t
theorem followsTry:Pg.follows .mixedOrders=true:=by kernel_rfl
abbrev nt76:Nat:=9
def sh76:SG:=[(4,iT),(6,iT)]
def tr76:TG:=[tT 0 [1],tT 1 [2]]
def tl76:TG:=[]
def ac76:ACode:=codeF Pg Tryz.f76 tr76 tl76
def rs76:List AResV:=resF Pg Tryz.f76
def pr76_0_0:PT (List RV):=pRs [pR false [rD dB]]
def ur76_0_0 {β:Type}(g:List RV->β):Bool->β:=pr76_0_0.unc g
def E76_0g:EnvK:=EnvK.of [] noSeq
def E76_0:EnvK:=E76_0g
theorem eo76_0:E76_0.Ok Pg:=EnvK.of_ok noSeq_ok TT
abbrev Tf76_0:Type 1:=(α:Type)->Int->Int->(Bool->Op α)->Op α
def f76_0g (α:Type)(a b:Int)(k1:Bool->Op α):Op α:=
 k1 (decide (2<=(w64 (b - a))))
def f76_0 (α:Type)(a b:Int)(k1:Bool->Op α):Op α:=f76_0g α a b k1
def pa76_0:PT (List DV):=pA [pV true [(dI .i64),(dI .i64)]]
def Fn76_0 (v:Tf76_0)(α:Type)(k:RT α):Int->Int->Op α:=fun a b=>v α a b (fun c=>ur76_0_0 k c)
def cm76_0g:MCode:=(emb ac76)
def cm76_0:MCode:=cm76_0g
theorem gm76_0:cm76_0.Good Pg E76_0 sh76:=(emb_good ac76)
theorem em76_0:cm76_0.erase=ac76:=(emb_erase _)
theorem fm76_0g (α:Type)(k:RT α):Fn76_0 (f76_0g ) α k=pa76_0.unc fun ds=>fnM Pg (E76_0g ) sh76 (cm76_0g ) rs76 k ds:=by kernel_rfl
theorem fm76_0:∀ (α:Type) (k:RT α),Fn76_0 f76_0 α k=pa76_0.unc fun ds=>fnM Pg E76_0 sh76 cm76_0 rs76 k ds:=fm76_0g
theorem is76:FnIs Pg 76 nt76 tr76 tl76 ac76 rs76:=codeF_is Tryz.func76 (by kernel_rfl)
theorem io76_0:InstOk Pg 76 nt76 ⟨pa76_0,Fn76_0 f76_0⟩:=inst_ok eo76_0 followsTry is76 ⟨⟨sh76,cm76_0,em76_0,gm76_0,fm76_0⟩⟩
abbrev nt111:Nat:=9
def sh111:SG:=[(4,iT),(6,iT)]
def tr111:TG:=[tT 0 [1],tT 1 [2]]
def tl111:TG:=[]
def ac111:ACode:=codeF Pg Tryz.f111 tr111 tl111
def rs111:List AResV:=resF Pg Tryz.f111
def pr111_0_0:PT (List RV):=pRs [wI]
def ur111_0_0 {β:Type}(g:List RV->β):Int->β:=pr111_0_0.unc g
def E111_0g:EnvK:=EnvK.of [] noSeq
def E111_0:EnvK:=E111_0g
theorem eo111_0:E111_0.Ok Pg:=EnvK.of_ok noSeq_ok TT
abbrev Tf111_0:Type 1:=(α:Type)->Int->Int->(Int->Op α)->Op α
def f111_0g (α:Type)(a b:Int)(k1:Int->Op α):Op α:=
 k1 (Int.fdiv (w64 (a+b)) (2 ^ 1))
def f111_0 (α:Type)(a b:Int)(k1:Int->Op α):Op α:=f111_0g α a b k1
def pa111_0:PT (List DV):=pA [pV true [(dI .i64),(dI .i64)]]
def Fn111_0 (v:Tf111_0)(α:Type)(k:RT α):Int->Int->Op α:=fun a b=>v α a b (fun c=>ur111_0_0 k c)
def cm111_0g:MCode:=(emb ac111)
def cm111_0:MCode:=cm111_0g
theorem gm111_0:cm111_0.Good Pg E111_0 sh111:=(emb_good ac111)
theorem em111_0:cm111_0.erase=ac111:=(emb_erase _)
theorem fm111_0g (α:Type)(k:RT α):Fn111_0 (f111_0g ) α k=pa111_0.unc fun ds=>fnM Pg (E111_0g ) sh111 (cm111_0g ) rs111 k ds:=by kernel_rfl
theorem fm111_0:∀ (α:Type) (k:RT α),Fn111_0 f111_0 α k=pa111_0.unc fun ds=>fnM Pg E111_0 sh111 cm111_0 rs111 k ds:=fm111_0g
theorem is111:FnIs Pg 111 nt111 tr111 tl111 ac111 rs111:=codeF_is Tryz.func111 (by kernel_rfl)
theorem io111_0:InstOk Pg 111 nt111 ⟨pa111_0,Fn111_0 f111_0⟩:=inst_ok eo111_0 followsTry is111 ⟨⟨sh111,cm111_0,em111_0,gm111_0,fm111_0⟩⟩
abbrev nt12:Nat:=16
def sh12:SG:=[]
def tr12:TG:=[tT 0 [0,1],tT 1 [0,1,5],tT 2 [5,12],tT 3 [5],tT 4 [4]]
def tl12:TG:=[]
def ac12:ACode:=codeF Pg Tryz.f12 tr12 tl12
def rs12:List AResV:=resF Pg Tryz.f12
def pr12_0_0:PT (List RV):=pRs [wI]
def ur12_0_0 {β:Type}(g:List RV->β):Int->β:=pr12_0_0.unc g
def E12_0g:EnvK:=EnvK.of [] noSeq
def E12_0:EnvK:=E12_0g
theorem eo12_0:E12_0.Ok Pg:=EnvK.of_ok noSeq_ok TT
abbrev Tf12_0:Type 1:=(α:Type)->Int->Int->(Int->Op α)->Op α
def f12_0g (α:Type)(b a:Int)(k1:Int->Op α):Op α:=
 gK (a != 0) (gK (a != 0) (cK (decide ((Int.tmod b a) < 0))
 (k1 (w64 ((w64 (Int.tdiv b a)) - 1)))
 (k1 (w64 (Int.tdiv b a)))))
def f12_0 (α:Type)(a b:Int)(k1:Int->Op α):Op α:=f12_0g α a b k1
def pa12_0:PT (List DV):=pA [vI,vI]
def Fn12_0 (v:Tf12_0)(α:Type)(k:RT α):Int->Int->Op α:=fun a b=>v α a b (fun c=>ur12_0_0 k c)
def cm12_0g:MCode:=(emb ac12)
def cm12_0:MCode:=cm12_0g
theorem gm12_0:cm12_0.Good Pg E12_0 sh12:=(emb_good ac12)
theorem em12_0:cm12_0.erase=ac12:=(emb_erase _)
theorem fm12_0g (α:Type)(k:RT α):Fn12_0 (f12_0g ) α k=pa12_0.unc fun ds=>fnM Pg (E12_0g ) sh12 (cm12_0g ) rs12 k ds:=by kernel_rfl
theorem fm12_0:∀ (α:Type) (k:RT α),Fn12_0 f12_0 α k=pa12_0.unc fun ds=>fnM Pg E12_0 sh12 cm12_0 rs12 k ds:=fm12_0g
theorem is12:FnIs Pg 12 nt12 tr12 tl12 ac12 rs12:=codeF_is Tryz.func12 (by kernel_rfl)
theorem io12_0:InstOk Pg 12 nt12 ⟨pa12_0,Fn12_0 f12_0⟩:=inst_ok eo12_0 followsTry is12 ⟨⟨sh12,cm12_0,em12_0,gm12_0,fm12_0⟩⟩
abbrev nt11:Nat:=15
def sh11:SG:=[]
def tr11:TG:=[tT 0 [0,1,2],tT 1 [6]]
def tl11:TG:=[]
def ac11:ACode:=codeF Pg Tryz.f11 tr11 tl11
def rs11:List AResV:=resF Pg Tryz.f11
def pr11_0_0:PT (List RV):=pRs [pR false [rD dB]]
def ur11_0_0 {β:Type}(g:List RV->β):Bool->β:=pr11_0_0.unc g
def E11_0g:EnvK:=EnvK.of [] noSeq
def E11_0:EnvK:=E11_0g
theorem eo11_0:E11_0.Ok Pg:=EnvK.of_ok noSeq_ok TT
abbrev Tf11_0:Type 1:=(α:Type)->Int->Int->Int->(Bool->Op α)->Op α
def f11_0g (α:Type)(a b c:Int)(k1:Bool->Op α):Op α:=
 cK (decide (b<=a))
 (k1 (decide (a<=c)))
 (k1 false)
def f11_0 (α:Type)(a b c:Int)(k1:Bool->Op α):Op α:=f11_0g α a b c k1
def pa11_0:PT (List DV):=pA [vI,vI,vI]
def Fn11_0 (v:Tf11_0)(α:Type)(k:RT α):Int->Int->Int->Op α:=fun a b c=>v α a b c (fun d=>ur11_0_0 k d)
def cm11_0g:MCode:=(emb ac11)
def cm11_0:MCode:=cm11_0g
theorem gm11_0:cm11_0.Good Pg E11_0 sh11:=(emb_good ac11)
theorem em11_0:cm11_0.erase=ac11:=(emb_erase _)
theorem fm11_0g (α:Type)(k:RT α):Fn11_0 (f11_0g ) α k=pa11_0.unc fun ds=>fnM Pg (E11_0g ) sh11 (cm11_0g ) rs11 k ds:=by kernel_rfl
theorem fm11_0:∀ (α:Type) (k:RT α),Fn11_0 f11_0 α k=pa11_0.unc fun ds=>fnM Pg E11_0 sh11 cm11_0 rs11 k ds:=fm11_0g
theorem is11:FnIs Pg 11 nt11 tr11 tl11 ac11 rs11:=codeF_is Tryz.func11 (by kernel_rfl)
theorem io11_0:InstOk Pg 11 nt11 ⟨pa11_0,Fn11_0 f11_0⟩:=inst_ok eo11_0 followsTry is11 ⟨⟨sh11,cm11_0,em11_0,gm11_0,fm11_0⟩⟩
abbrev nt10:Nat:=15
def sh10:SG:=[(8,iS 2),(12,iS 2),(14,iS 2)]
def tr10:TG:=[tT 0 [1,2,4],tT 1 [1,2,4,6],tT 2 [4],tT 3 [2,4,10],tT 4 [4],tT 5 [4]]
def tl10:TG:=[]
def ac10:ACode:=codeF Pg Tryz.f10 tr10 tl10
def rs10:List AResV:=resF Pg Tryz.f10
def pr10_0_0:PT (List RV):=pRs [pR true [rD (dI .i64),rD (dI .i64)]]
def ur10_0_0 {β:Type}(g:List RV->β):Int->Int->β:=pr10_0_0.unc g
def E10_0g:EnvK:=EnvK.of [] noSeq
def E10_0:EnvK:=E10_0g
theorem eo10_0:E10_0.Ok Pg:=EnvK.of_ok noSeq_ok TT
abbrev Tf10_0:Type 1:=(α:Type)->Int->Int->Int->Int->Int->Int->Int->(Int->Int->Op α)->Op α
def f10_0g (α:Type)(b c d e g h a:Int)(k1:Int->Int->Op α):Op α:=
 cK (a == 0)
 (k1 b c)
 (cK (a == 1)
 (k1 d e)
 (k1 g h))
def f10_0 (α:Type)(a b c d e g h:Int)(k1:Int->Int->Op α):Op α:=f10_0g α a b c d e g h k1
def pa10_0:PT (List DV):=pA [pV true [(dI .i64),(dI .i64),(dI .i64),(dI .i64),(dI .i64),(dI .i64)],vI]
def Fn10_0 (v:Tf10_0)(α:Type)(k:RT α):I7 (Op α):=fun a b c d e g h=>v α a b c d e g h (fun i j=>ur10_0_0 k i j)
def cm10_0g:MCode:=(emb ac10)
def cm10_0:MCode:=cm10_0g
theorem gm10_0:cm10_0.Good Pg E10_0 sh10:=(emb_good ac10)
theorem em10_0:cm10_0.erase=ac10:=(emb_erase _)
theorem fm10_0g (α:Type)(k:RT α):Fn10_0 (f10_0g ) α k=pa10_0.unc fun ds=>fnM Pg (E10_0g ) sh10 (cm10_0g ) rs10 k ds:=by kernel_rfl
theorem fm10_0:∀ (α:Type) (k:RT α),Fn10_0 f10_0 α k=pa10_0.unc fun ds=>fnM Pg E10_0 sh10 cm10_0 rs10 k ds:=fm10_0g
theorem is10:FnIs Pg 10 nt10 tr10 tl10 ac10 rs10:=codeF_is Tryz.func10 (by kernel_rfl)
theorem io10_0:InstOk Pg 10 nt10 ⟨pa10_0,Fn10_0 f10_0⟩:=inst_ok eo10_0 followsTry is10 ⟨⟨sh10,cm10_0,em10_0,gm10_0,fm10_0⟩⟩
abbrev nt37:Nat:=20
def sh37:SG:=[(6,iT),(9,iT),(13,iT),(16,iT)]
def tr37:TG:=[tT 0 [2,3,4],tT 1 [4]]
def tl37:TG:=[]
def ac37:ACode:=codeF Pg Tryz.f37 tr37 tl37
def rs37:List AResV:=resF Pg Tryz.f37
def pr37_0_0:PT (List RV):=pRs [pR true [rD (dI .i64),rD (dI .i64)]]
def ur37_0_0 {β:Type}(g:List RV->β):Int->Int->β:=pr37_0_0.unc g
def E37_0g:EnvK:=EnvK.of [] noSeq
def E37_0:EnvK:=E37_0g
theorem eo37_0:E37_0.Ok Pg:=EnvK.of_ok noSeq_ok TT
abbrev Tf37_0:Type 1:=(α:Type)->Int->Int->Int->Int->(Int->Int->Op α)->Op α
def f37_0g (α:Type)(a b c d:Int)(k1:Int->Int->Op α):Op α:=
 k1 (if (w64 ((w64 (1048576 - b)) - d)) > 0 then (w64 ((w64 (1048576 - b)) - d)) else 0) (if (w64 ((w64 (1048576 - a)) - c)) > 0 then (w64 ((w64 (1048576 - a)) - c)) else 0)
def f37_0 (α:Type)(a b c d:Int)(k1:Int->Int->Op α):Op α:=f37_0g α a b c d k1
def pa37_0:PT (List DV):=pA [pV true [(dI .i64),(dI .i64)],pV true [(dI .i64),(dI .i64)]]
def Fn37_0 (v:Tf37_0)(α:Type)(k:RT α):I4 (Op α):=fun a b c d=>v α a b c d (fun e g=>ur37_0_0 k e g)
def cm37_0g:MCode:=(emb ac37)
def cm37_0:MCode:=cm37_0g
theorem gm37_0:cm37_0.Good Pg E37_0 sh37:=(emb_good ac37)
theorem em37_0:cm37_0.erase=ac37:=(emb_erase _)
theorem fm37_0g (α:Type)(k:RT α):Fn37_0 (f37_0g ) α k=pa37_0.unc fun ds=>fnM Pg (E37_0g ) sh37 (cm37_0g ) rs37 k ds:=by kernel_rfl
theorem fm37_0:∀ (α:Type) (k:RT α),Fn37_0 f37_0 α k=pa37_0.unc fun ds=>fnM Pg E37_0 sh37 cm37_0 rs37 k ds:=fm37_0g
theorem is37:FnIs Pg 37 nt37 tr37 tl37 ac37 rs37:=codeF_is Tryz.func37 (by kernel_rfl)
theorem io37_0:InstOk Pg 37 nt37 ⟨pa37_0,Fn37_0 f37_0⟩:=inst_ok eo37_0 followsTry is37 ⟨⟨sh37,cm37_0,em37_0,gm37_0,fm37_0⟩⟩
abbrev nt33:Nat:=10
def sh33:SG:=[(4,iT),(7,iT)]
def tr33:TG:=[tT 0 [1,2],tT 1 [2]]
def tl33:TG:=[]
def ac33:ACode:=codeF Pg Tryz.f33 tr33 tl33
def rs33:List AResV:=resF Pg Tryz.f33
def pr33_0_0:PT (List RV):=pRs [pR true [rD (dI .i64),rD (dI .i64)]]
def ur33_0_0 {β:Type}(g:List RV->β):Int->Int->β:=pr33_0_0.unc g
def E33_0g:EnvK:=EnvK.of [] noSeq
def E33_0:EnvK:=E33_0g
theorem eo33_0:E33_0.Ok Pg:=EnvK.of_ok noSeq_ok TT
abbrev Tf33_0:Type 1:=(α:Type)->Int->Int->(Int->Int->Op α)->Op α
def f33_0g (α:Type)(a b:Int)(k1:Int->Int->Op α):Op α:=
 k1 (if 1048576 < a then 1048576 else a) (if 1048576 < b then 1048576 else b)
def f33_0 (α:Type)(a b:Int)(k1:Int->Int->Op α):Op α:=f33_0g α a b k1
def pa33_0:PT (List DV):=pA [pV true [(dI .i64),(dI .i64)]]
def Fn33_0 (v:Tf33_0)(α:Type)(k:RT α):Int->Int->Op α:=fun a b=>v α a b (fun c d=>ur33_0_0 k c d)
def cm33_0g:MCode:=(emb ac33)
def cm33_0:MCode:=cm33_0g
theorem gm33_0:cm33_0.Good Pg E33_0 sh33:=(emb_good ac33)
theorem em33_0:cm33_0.erase=ac33:=(emb_erase _)
theorem fm33_0g (α:Type)(k:RT α):Fn33_0 (f33_0g ) α k=pa33_0.unc fun ds=>fnM Pg (E33_0g ) sh33 (cm33_0g ) rs33 k ds:=by kernel_rfl
theorem fm33_0:∀ (α:Type) (k:RT α),Fn33_0 f33_0 α k=pa33_0.unc fun ds=>fnM Pg E33_0 sh33 cm33_0 rs33 k ds:=fm33_0g
theorem is33:FnIs Pg 33 nt33 tr33 tl33 ac33 rs33:=codeF_is Tryz.func33 (by kernel_rfl)
theorem io33_0:InstOk Pg 33 nt33 ⟨pa33_0,Fn33_0 f33_0⟩:=inst_ok eo33_0 followsTry is33 ⟨⟨sh33,cm33_0,em33_0,gm33_0,fm33_0⟩⟩
abbrev nt156:Nat:=11
def sh156:SG:=[]
def tr156:TG:=[tT 0 [0],tT 1 [0,3],tT 2 [0,3,7],tT 3 [0,3],tT 4 [2]]
def tl156:TG:=[tT 2 [0,3]]
def ac156:ACode:=codeF Pg Tryz.f156 tr156 tl156
def rs156:List AResV:=resF Pg Tryz.f156
def td156_7:OT:=tdC (MCode.sub [1,1,0,0] (emb ac156))
def p156_0_0:PT St:=pS [sI 0,sI 3] []
def u156_0_0 {β:Type}(g:St->β):Int->Int->β:=p156_0_0.unc g
def p156_0_1:PT St:=pS [sI 0,sI 3,sY 7 dB] []
def u156_0_1 {β:Type}(g:St->β):Int->Int->Bool->β:=p156_0_1.unc g
def pr156_0_0:PT (List RV):=pRs [wI]
def ur156_0_0 {β:Type}(g:List RV->β):Int->β:=pr156_0_0.unc g
def E156_0g:EnvK:=EnvK.of [] noSeq
def E156_0:EnvK:=E156_0g
theorem eo156_0:E156_0.Ok Pg:=EnvK.of_ok noSeq_ok TT
def c156_0_7g:MCode:=MCode.sub [1,1,0,0,0] (emb ac156)
def c156_0_7:MCode:=c156_0_7g
def S156_0_0g (α:Type)(b a:Int)(kn:Int->Op α)(k1:Int->Bool->Op α):Op α:=
 gK (decide (0<=a)) (cK (decide ((w64 (1048576*2 ^ (min (Int.toNat a) 64))) < b))
 (kn (w64 (a+1)))
 (k1 a (decide ((w64 (1048576*2 ^ (min (Int.toNat a) 64))) < b))))
def S156_0_0 (α:Type)(a b:Int)(kn:Int->Op α)(k1:Int->Bool->Op α):Op α:=S156_0_0g α a b kn k1
def R156_0_0 (α:Type)(a:Int)(k1:Int->Bool->Op α):Nat->Int->Op α
 | 0,_=>none
 | n+1,b=>S156_0_0 α a b (R156_0_0 α a k1 n) k1
def L156_0_0 (α:Type)(a:Int)(k1:Int->Bool->Op α)(b:Int):Op α:=R156_0_0 α a k1 fuel b
abbrev TL156_0_0:Type 1:=(α:Type)->Int->(Int->Bool->Op α)->Int->Op α
def F156_0_0 (v:TL156_0_0)(α:Type)(K:KT α):Int->Int->Op α:=fun a b=>v α a (fun c d=>u156_0_1 (K (.exit 0)) a c d) b
theorem r156_0_0g (α:Type)(K:KT α)(Kn:SK α)(a b:Int):u156_0_0 (fun σ=>runM Pg (E156_0g ) sh156 (c156_0_7g ) (thenK (fun σ=>tidyK td156_7 σ Kn) K) σ) a b=S156_0_0g α a b (fun b=>u156_0_0 Kn a b) (fun c d=>u156_0_1 (K (.exit 0)) a c d):=by kernel_rfl
theorem r156_0_0 (α:Type)(K:KT α)(Kn:SK α)(a b:Int):u156_0_0 (fun σ=>runM Pg E156_0 sh156 c156_0_7 (thenK (fun σ=>tidyK td156_7 σ Kn) K) σ) a b=S156_0_0 α a b (fun b=>u156_0_0 Kn a b) (fun c d=>u156_0_1 (K (.exit 0)) a c d):=r156_0_0g α K Kn a b
theorem t156_0_0 (α:Type)(K:KT α):∀ (n:Nat) (a b:Int),R156_0_0 α a (fun c d=>u156_0_1 (K (.exit 0)) a c d) n b=u156_0_0 (loopT (runM Pg E156_0 sh156 c156_0_7) td156_7 K n) a b:=by
 intro n
 induction n with
 | zero=>intros;rfl
 | succ n ih=>intro a b;exact (congrArg (fun kn=>S156_0_0 α a b kn (fun c d=>u156_0_1 (K (.exit 0)) a c d)) (funext fun b=>ih a b)).trans (r156_0_0 α K (loopT (runM Pg E156_0 sh156 c156_0_7) td156_7 K n) a b).symm
theorem m156_0_0:∀ (α:Type) (K:KT α),F156_0_0 L156_0_0 α K=p156_0_0.unc fun σ=>loopT (runM Pg E156_0 sh156 c156_0_7) td156_7 K fuel σ:=fun α K=>funext fun a=>funext fun b=>t156_0_0 α K fuel a b
abbrev Tf156_0:Type 1:=(α:Type)->Int->(Int->Op α)->Op α
def f156_0g (a:TL156_0_0)(α:Type)(b:Int)(k1:Int->Op α):Op α:=
 a α b
 (fun c d=>k1 c) 0
def f156_0 (α:Type)(a:Int)(k1:Int->Op α):Op α:=f156_0g L156_0_0 α a k1
def pa156_0:PT (List DV):=pA [vI]
def Fn156_0 (v:Tf156_0)(α:Type)(k:RT α):Int->Op α:=fun a=>v α a (fun b=>ur156_0_0 k b)
def cm156_0g (a:TL156_0_0):MCode:=(MCode.put (.m [⟨p156_0_0,F156_0_0 a⟩]) [1,1,0,0] (emb ac156))
def cm156_0:MCode:=cm156_0g L156_0_0
theorem gm156_0:cm156_0.Good Pg E156_0 sh156:=(put_loop (td:=td156_7) (by kernel_rfl) (emb_good ac156) ⟨m156_0_0,TT⟩)
theorem em156_0:cm156_0.erase=ac156:=((put_erase _ _).trans (emb_erase _))
theorem fm156_0g (a:TL156_0_0)(α:Type)(k:RT α):Fn156_0 (f156_0g a) α k=pa156_0.unc fun ds=>fnM Pg (E156_0g ) sh156 (cm156_0g a) rs156 k ds:=by kernel_rfl
theorem fm156_0:∀ (α:Type) (k:RT α),Fn156_0 f156_0 α k=pa156_0.unc fun ds=>fnM Pg E156_0 sh156 cm156_0 rs156 k ds:=fm156_0g L156_0_0
theorem is156:FnIs Pg 156 nt156 tr156 tl156 ac156 rs156:=codeF_is Tryz.func156 (by kernel_rfl)
theorem io156_0:InstOk Pg 156 nt156 ⟨pa156_0,Fn156_0 f156_0⟩:=inst_ok eo156_0 followsTry is156 ⟨⟨sh156,cm156_0,em156_0,gm156_0,fm156_0⟩⟩
abbrev nt32:Nat:=10
def sh32:SG:=[(4,iT),(7,iT)]
def tr32:TG:=[tT 0 [1,2],tT 1 [2]]
def tl32:TG:=[]
def ac32:ACode:=codeF Pg Tryz.f32 tr32 tl32
def rs32:List AResV:=resF Pg Tryz.f32
def pr32_0_0:PT (List RV):=pRs [pR true [rD (dI .i64),rD (dI .i64)]]
def ur32_0_0 {β:Type}(g:List RV->β):Int->Int->β:=pr32_0_0.unc g
def E32_0g:EnvK:=EnvK.of [] noSeq
def E32_0:EnvK:=E32_0g
theorem eo32_0:E32_0.Ok Pg:=EnvK.of_ok noSeq_ok TT
abbrev Tf32_0:Type 1:=(α:Type)->Int->Int->(Int->Int->Op α)->Op α
def f32_0g (α:Type)(a b:Int)(k1:Int->Int->Op α):Op α:=
 k1 (if a > 0 then a else 0) (if b > 0 then b else 0)
def f32_0 (α:Type)(a b:Int)(k1:Int->Int->Op α):Op α:=f32_0g α a b k1
def pa32_0:PT (List DV):=pA [pV true [(dI .i64),(dI .i64)]]
def Fn32_0 (v:Tf32_0)(α:Type)(k:RT α):Int->Int->Op α:=fun a b=>v α a b (fun c d=>ur32_0_0 k c d)
def cm32_0g:MCode:=(emb ac32)
def cm32_0:MCode:=cm32_0g
theorem gm32_0:cm32_0.Good Pg E32_0 sh32:=(emb_good ac32)
theorem em32_0:cm32_0.erase=ac32:=(emb_erase _)
theorem fm32_0g (α:Type)(k:RT α):Fn32_0 (f32_0g ) α k=pa32_0.unc fun ds=>fnM Pg (E32_0g ) sh32 (cm32_0g ) rs32 k ds:=by kernel_rfl
theorem fm32_0:∀ (α:Type) (k:RT α),Fn32_0 f32_0 α k=pa32_0.unc fun ds=>fnM Pg E32_0 sh32 cm32_0 rs32 k ds:=fm32_0g
theorem is32:FnIs Pg 32 nt32 tr32 tl32 ac32 rs32:=codeF_is Tryz.func32 (by kernel_rfl)
theorem io32_0:InstOk Pg 32 nt32 ⟨pa32_0,Fn32_0 f32_0⟩:=inst_ok eo32_0 followsTry is32 ⟨⟨sh32,cm32_0,em32_0,gm32_0,fm32_0⟩⟩
abbrev nt86:Nat:=2
def sh86:SG:=[]
def tr86:TG:=[tT 0 [0],tT 1 [0]]
def tl86:TG:=[]
def ac86:ACode:=codeF Pg Tryz.f86 tr86 tl86
def rs86:List AResV:=resF Pg Tryz.f86
def pr86_0_0:PT (List RV):=pRs [pR true [rD (dX .f64),rD (dI .i64)]]
def ur86_0_0 {β:Type}(g:List RV->β):Nat->Nat->Int->β:=pr86_0_0.unc g
def E86_0g:EnvK:=EnvK.of [] noSeq
def E86_0:EnvK:=E86_0g
theorem eo86_0:E86_0.Ok Pg:=EnvK.of_ok noSeq_ok TT
abbrev Tf86_0:Type 1:=(α:Type)->(Op α)->Op α
def f86_0g (α:Type)(k1:Op α):Op α:=
 k1
def f86_0 (α:Type)(k1:Op α):Op α:=f86_0g α k1
def pa86_0:PT (List DV):=pA []
def Fn86_0 (v:Tf86_0)(α:Type)(k:RT α):Op α:=v α (ur86_0_0 k 0 0 0)
def cm86_0g:MCode:=(emb ac86)
def cm86_0:MCode:=cm86_0g
theorem gm86_0:cm86_0.Good Pg E86_0 sh86:=(emb_good ac86)
theorem em86_0:cm86_0.erase=ac86:=(emb_erase _)
theorem fm86_0g (α:Type)(k:RT α):Fn86_0 (f86_0g ) α k=pa86_0.unc fun ds=>fnM Pg (E86_0g ) sh86 (cm86_0g ) rs86 k ds:=by kernel_rfl
theorem fm86_0:∀ (α:Type) (k:RT α),Fn86_0 f86_0 α k=pa86_0.unc fun ds=>fnM Pg E86_0 sh86 cm86_0 rs86 k ds:=fm86_0g
theorem is86:FnIs Pg 86 nt86 tr86 tl86 ac86 rs86:=codeF_is Tryz.func86 (by kernel_rfl)
theorem io86_0:InstOk Pg 86 nt86 ⟨pa86_0,Fn86_0 f86_0⟩:=inst_ok eo86_0 followsTry is86 ⟨⟨sh86,cm86_0,em86_0,gm86_0,fm86_0⟩⟩
abbrev nt85:Nat:=2
def sh85:SG:=[]
def tr85:TG:=[tT 0 [0],tT 1 [0]]
def tl85:TG:=[]
def ac85:ACode:=codeF Pg Tryz.f85 tr85 tl85
def rs85:List AResV:=resF Pg Tryz.f85
def pr85_0_0:PT (List RV):=pRs [pR true [rD (dX .f64),rD (dI .i64)]]
def ur85_0_0 {β:Type}(g:List RV->β):Nat->Nat->Int->β:=pr85_0_0.unc g
def E85_0g:EnvK:=EnvK.of [] noSeq
def E85_0:EnvK:=E85_0g
theorem eo85_0:E85_0.Ok Pg:=EnvK.of_ok noSeq_ok TT
abbrev Tf85_0:Type 1:=(α:Type)->(Op α)->Op α
def f85_0g (α:Type)(k1:Op α):Op α:=
 k1
def f85_0 (α:Type)(k1:Op α):Op α:=f85_0g α k1
def pa85_0:PT (List DV):=pA []
def Fn85_0 (v:Tf85_0)(α:Type)(k:RT α):Op α:=v α (ur85_0_0 k 4697254411347427328 0 0)
def cm85_0g:MCode:=(emb ac85)
def cm85_0:MCode:=cm85_0g
theorem gm85_0:cm85_0.Good Pg E85_0 sh85:=(emb_good ac85)
theorem em85_0:cm85_0.erase=ac85:=(emb_erase _)
theorem fm85_0g (α:Type)(k:RT α):Fn85_0 (f85_0g ) α k=pa85_0.unc fun ds=>fnM Pg (E85_0g ) sh85 (cm85_0g ) rs85 k ds:=by kernel_rfl
theorem fm85_0:∀ (α:Type) (k:RT α),Fn85_0 f85_0 α k=pa85_0.unc fun ds=>fnM Pg E85_0 sh85 cm85_0 rs85 k ds:=fm85_0g
theorem is85:FnIs Pg 85 nt85 tr85 tl85 ac85 rs85:=codeF_is Tryz.func85 (by kernel_rfl)
theorem io85_0:InstOk Pg 85 nt85 ⟨pa85_0,Fn85_0 f85_0⟩:=inst_ok eo85_0 followsTry is85 ⟨⟨sh85,cm85_0,em85_0,gm85_0,fm85_0⟩⟩
abbrev nt126:Nat:=9
def sh126:SG:=[(4,iT),(6,iT)]
def tr126:TG:=[tT 0 [1,2],tT 1 [2]]
def tl126:TG:=[]
def ac126:ACode:=codeF Pg Tryz.f126 tr126 tl126
def rs126:List AResV:=resF Pg Tryz.f126
def pr126_0_0:PT (List RV):=pRs [pR true [rD (dI .i64),rD (dI .i64)]]
def ur126_0_0 {β:Type}(g:List RV->β):Int->Int->β:=pr126_0_0.unc g
def E126_0g:EnvK:=EnvK.of [] noSeq
def E126_0:EnvK:=E126_0g
theorem eo126_0:E126_0.Ok Pg:=EnvK.of_ok noSeq_ok TT
abbrev Tf126_0:Type 1:=(α:Type)->Int->(Int->Op α)->Op α
def f126_0g (α:Type)(a:Int)(k1:Int->Op α):Op α:=
 k1 (w64 (0 - a))
def f126_0 (α:Type)(a:Int)(k1:Int->Op α):Op α:=f126_0g α a k1
def pa126_0:PT (List DV):=pA [pV true [(dI .i64),(dI .i64)]]
def Fn126_0 (v:Tf126_0)(α:Type)(k:RT α):Int->Int->Op α:=fun a b=>v α b (fun c=>ur126_0_0 k a c)
def cm126_0g:MCode:=(emb ac126)
def cm126_0:MCode:=cm126_0g
theorem gm126_0:cm126_0.Good Pg E126_0 sh126:=(emb_good ac126)
theorem em126_0:cm126_0.erase=ac126:=(emb_erase _)
theorem fm126_0g (α:Type)(k:RT α):Fn126_0 (f126_0g ) α k=pa126_0.unc fun ds=>fnM Pg (E126_0g ) sh126 (cm126_0g ) rs126 k ds:=by kernel_rfl
theorem fm126_0:∀ (α:Type) (k:RT α),Fn126_0 f126_0 α k=pa126_0.unc fun ds=>fnM Pg E126_0 sh126 cm126_0 rs126 k ds:=fm126_0g
theorem is126:FnIs Pg 126 nt126 tr126 tl126 ac126 rs126:=codeF_is Tryz.func126 (by kernel_rfl)
theorem io126_0:InstOk Pg 126 nt126 ⟨pa126_0,Fn126_0 f126_0⟩:=inst_ok eo126_0 followsTry is126 ⟨⟨sh126,cm126_0,em126_0,gm126_0,fm126_0⟩⟩
abbrev nt95:Nat:=13
def sh95:SG:=[(6,iT),(10,iT)]
def tr95:TG:=[tT 0 [0,1,3],tT 1 [3]]
def tl95:TG:=[]
def ac95:ACode:=codeF Pg Tryz.f95 tr95 tl95
def rs95:List AResV:=resF Pg Tryz.f95
def pr95_0_0:PT (List RV):=pRs [pR true [rD (dI .i64),rD (dI .i64)]]
def ur95_0_0 {β:Type}(g:List RV->β):Int->Int->β:=pr95_0_0.unc g
def E95_0g:EnvK:=EnvK.of [] noSeq
def E95_0:EnvK:=E95_0g
theorem eo95_0:E95_0.Ok Pg:=EnvK.of_ok noSeq_ok TT
abbrev Tf95_0:Type 1:=(α:Type)->Int->Int->(Int->Int->Op α)->Op α
def f95_0g (α:Type)(a b:Int)(k1:Int->Int->Op α):Op α:=
 k1 (w64 (a - b)) (w64 (a+b))
def f95_0 (α:Type)(a b:Int)(k1:Int->Int->Op α):Op α:=f95_0g α a b k1
def pa95_0:PT (List DV):=pA [vI,pV false [(dP [(dI .i64),(dI .i64),(dI .i64)] 0)]]
def Fn95_0 (v:Tf95_0)(α:Type)(k:RT α):I4 (Op α):=fun a e g b=>v α a b (fun c d=>ur95_0_0 k c d)
def cm95_0g:MCode:=(emb ac95)
def cm95_0:MCode:=cm95_0g
theorem gm95_0:cm95_0.Good Pg E95_0 sh95:=(emb_good ac95)
theorem em95_0:cm95_0.erase=ac95:=(emb_erase _)
theorem fm95_0g (α:Type)(k:RT α):Fn95_0 (f95_0g ) α k=pa95_0.unc fun ds=>fnM Pg (E95_0g ) sh95 (cm95_0g ) rs95 k ds:=by kernel_rfl
theorem fm95_0:∀ (α:Type) (k:RT α),Fn95_0 f95_0 α k=pa95_0.unc fun ds=>fnM Pg E95_0 sh95 cm95_0 rs95 k ds:=fm95_0g
theorem is95:FnIs Pg 95 nt95 tr95 tl95 ac95 rs95:=codeF_is Tryz.func95 (by kernel_rfl)
theorem io95_0:InstOk Pg 95 nt95 ⟨pa95_0,Fn95_0 f95_0⟩:=inst_ok eo95_0 followsTry is95 ⟨⟨sh95,cm95_0,em95_0,gm95_0,fm95_0⟩⟩
abbrev nt157:Nat:=25
def sh157:SG:=[]
def tr157:TG:=[tT 0 [0,2],tT 1 [0,2,4],tT 2 [0],tT 3 [0,2],tT 4 [0,2,8],tT 5 [0,2],tT 6 [0,2],tT 7 [0,2,14],tT 8 [0,2],tT 9 [0,2],tT 10 [2]]
def tl157:TG:=[]
def ac157:ACode:=codeF Pg Tryz.f157 tr157 tl157
def rs157:List AResV:=resF Pg Tryz.f157
def p157_0_0:PT St:=pS [sY 0 (dI .u64),sI 2] []
def u157_0_0 {β:Type}(g:St->β):Int->Int->β:=p157_0_0.unc g
def p157_0_1:PT St:=pS [sY 0 (dI .u64),sI 2,sY 4 dB] []
def u157_0_1 {β:Type}(g:St->β):Int->Int->Bool->β:=p157_0_1.unc g
def p157_0_2:PT St:=pS [sY 0 (dI .u64),sI 2,sY 8 dB] []
def u157_0_2 {β:Type}(g:St->β):Int->Int->Bool->β:=p157_0_2.unc g
def p157_0_3:PT St:=pS [sY 0 (dI .u64),sI 2,sY 14 dB] []
def u157_0_3 {β:Type}(g:St->β):Int->Int->Bool->β:=p157_0_3.unc g
def pr157_0_0:PT (List RV):=pRs [wI]
def ur157_0_0 {β:Type}(g:List RV->β):Int->β:=pr157_0_0.unc g
def E157_0g:EnvK:=EnvK.of [] noSeq
def E157_0:EnvK:=E157_0g
theorem eo157_0:E157_0.Ok Pg:=EnvK.of_ok noSeq_ok TT
def c157_0_17g:MCode:=MCode.sub [1,1,1,0] (emb ac157)
def c157_0_17:MCode:=c157_0_17g
abbrev TJ157_0_2:Type 1:=(α:Type)->Int->Int->(Int->Int->Op α)->(Bool->Op α)->Op α
def J157_0_2g (α:Type)(a b:Int)(k1:Int->Int->Op α)(k2:Bool->Op α):Op α:=
 cK (decide (256<=a))
 (k1 (Int.fdiv a (2 ^ 8)) (w64 (b+8)))
 (k2 (decide (256<=a)))
def J157_0_2 (α:Type)(a b:Int)(k1:Int->Int->Op α)(k2:Bool->Op α):Op α:=J157_0_2g α a b k1 k2
def F157_0_2 (v:TJ157_0_2)(α:Type)(K:KT α):Int->Int->Op α:=fun b c=>v α b c (fun a d=>u157_0_0 (K .normal) a d) (fun a=>u157_0_3 (K .normal) b c a)
theorem m157_0_2g (α:Type)(K:KT α):F157_0_2 (J157_0_2g ) α K=p157_0_0.unc fun σ=>runM Pg (E157_0g ) sh157 (c157_0_17g ) K σ:=by kernel_rfl
theorem m157_0_2:∀ (α:Type) (K:KT α),F157_0_2 J157_0_2 α K=p157_0_0.unc fun σ=>runM Pg E157_0 sh157 c157_0_17 K σ:=m157_0_2g
abbrev TJ157_0_3:Type 1:=(α:Type)->Int->Int->(Int->Int->Op α)->(Bool->Op α)->Op α
def J157_0_3g (α:Type)(a b:Int)(k1:Int->Int->Op α)(k2:Bool->Op α):Op α:=
 cK (decide (256<=a))
 (k1 (Int.fdiv a (2 ^ 8)) (w64 (b+8)))
 (k2 (decide (256<=a)))
def J157_0_3 (α:Type)(a b:Int)(k1:Int->Int->Op α)(k2:Bool->Op α):Op α:=J157_0_3g α a b k1 k2
def F157_0_3 (v:TJ157_0_3)(α:Type)(K:KT α):Int->Int->Bool->Op α:=fun b c e=>v α b c (fun a d=>u157_0_0 (K .normal) a d) (fun a=>u157_0_3 (K .normal) b c a)
theorem m157_0_3g (α:Type)(K:KT α):F157_0_3 (J157_0_3g ) α K=p157_0_2.unc fun σ=>runM Pg (E157_0g ) sh157 (c157_0_17g ) K σ:=by kernel_rfl
theorem m157_0_3:∀ (α:Type) (K:KT α),F157_0_3 J157_0_3 α K=p157_0_2.unc fun σ=>runM Pg E157_0 sh157 c157_0_17 K σ:=m157_0_3g
def c157_0_10g:MCode:=MCode.sub [1,1,0] (emb ac157)
def c157_0_10:MCode:=c157_0_10g
abbrev TJ157_0_1:Type 1:=(α:Type)->Int->Int->(Int->Int->Op α)->(Bool->Op α)->Op α
def J157_0_1g (α:Type)(a b:Int)(k1:Int->Int->Op α)(k2:Bool->Op α):Op α:=
 cK (decide (65536<=a))
 (k1 (Int.fdiv a (2 ^ 16)) (w64 (b+16)))
 (k2 (decide (65536<=a)))
def J157_0_1 (α:Type)(a b:Int)(k1:Int->Int->Op α)(k2:Bool->Op α):Op α:=J157_0_1g α a b k1 k2
def F157_0_1 (v:TJ157_0_1)(α:Type)(K:KT α):Int->Int->Op α:=fun b c=>v α b c (fun a d=>u157_0_0 (K .normal) a d) (fun a=>u157_0_2 (K .normal) b c a)
theorem m157_0_1g (α:Type)(K:KT α):F157_0_1 (J157_0_1g ) α K=p157_0_0.unc fun σ=>runM Pg (E157_0g ) sh157 (c157_0_10g ) K σ:=by kernel_rfl
theorem m157_0_1:∀ (α:Type) (K:KT α),F157_0_1 J157_0_1 α K=p157_0_0.unc fun σ=>runM Pg E157_0 sh157 c157_0_10 K σ:=m157_0_1g
abbrev TJ157_0_4:Type 1:=(α:Type)->Int->Int->(Int->Int->Op α)->(Bool->Op α)->Op α
def J157_0_4g (α:Type)(a b:Int)(k1:Int->Int->Op α)(k2:Bool->Op α):Op α:=
 cK (decide (65536<=a))
 (k1 (Int.fdiv a (2 ^ 16)) (w64 (b+16)))
 (k2 (decide (65536<=a)))
def J157_0_4 (α:Type)(a b:Int)(k1:Int->Int->Op α)(k2:Bool->Op α):Op α:=J157_0_4g α a b k1 k2
def F157_0_4 (v:TJ157_0_4)(α:Type)(K:KT α):Int->Int->Bool->Op α:=fun b c e=>v α b c (fun a d=>u157_0_0 (K .normal) a d) (fun a=>u157_0_2 (K .normal) b c a)
theorem m157_0_4g (α:Type)(K:KT α):F157_0_4 (J157_0_4g ) α K=p157_0_1.unc fun σ=>runM Pg (E157_0g ) sh157 (c157_0_10g ) K σ:=by kernel_rfl
theorem m157_0_4:∀ (α:Type) (K:KT α),F157_0_4 J157_0_4 α K=p157_0_1.unc fun σ=>runM Pg E157_0 sh157 c157_0_10 K σ:=m157_0_4g
def c157_0_3g:MCode:=MCode.sub [1,0] (emb ac157)
def c157_0_3:MCode:=c157_0_3g
abbrev TJ157_0_0:Type 1:=(α:Type)->Int->(Int->Op α)->(Bool->Op α)->Op α
def J157_0_0g (α:Type)(a:Int)(k1:Int->Op α)(k2:Bool->Op α):Op α:=
 cK (decide (4294967296<=a))
 (k1 (Int.fdiv a (2 ^ 32)))
 (k2 (decide (4294967296<=a)))
def J157_0_0 (α:Type)(a:Int)(k1:Int->Op α)(k2:Bool->Op α):Op α:=J157_0_0g α a k1 k2
def F157_0_0 (v:TJ157_0_0)(α:Type)(K:KT α):Int->Int->Op α:=fun b c=>v α b (fun a=>u157_0_0 (K .normal) a 32) (fun a=>u157_0_1 (K .normal) b c a)
theorem m157_0_0g (α:Type)(K:KT α):F157_0_0 (J157_0_0g ) α K=p157_0_0.unc fun σ=>runM Pg (E157_0g ) sh157 (c157_0_3g ) K σ:=by kernel_rfl
theorem m157_0_0:∀ (α:Type) (K:KT α),F157_0_0 J157_0_0 α K=p157_0_0.unc fun σ=>runM Pg E157_0 sh157 c157_0_3 K σ:=m157_0_0g
abbrev Tf157_0:Type 1:=(α:Type)->Int->(Int->Op α)->Op α
def f157_0g (j:TJ157_0_0)(l:TJ157_0_1)(c:TJ157_0_2)(d:TJ157_0_3)(m:TJ157_0_4)(α:Type)(a:Int)(k1:Int->Op α):Op α:=
 j α a
 (fun b=>l α b 32
 (fun e g=>c α e g
 (fun o p=>sixK (⟨#[0,1,2,2,3,3,3,3,4,4,4,4,4,4,4,4,5,5,5,5,5,5,5,5,5,5,5,5,5,5,5,5,6,6,6,6,6,6,6,6,6,6,6,6,6,6,6,6,6,6,6,6,6,6,6,6,6,6,6,6,6,6,6,6,7,7,7,7,7,7,7,7,7,7,7,7,7,7,7,7,7,7,7,7,7,7,7,7,7,7,7,7,7,7,7,7,7,7,7,7,7,7,7,7,7,7,7,7,7,7,7,7,7,7,7,7,7,7,7,7,7,7,7,7,7,7,7,7,8,8,8,8,8,8,8,8,8,8,8,8,8,8,8,8,8,8,8,8,8,8,8,8,8,8,8,8,8,8,8,8,8,8,8,8,8,8,8,8,8,8,8,8,8,8,8,8,8,8,8,8,8,8,8,8,8,8,8,8,8,8,8,8,8,8,8,8,8,8,8,8,8,8,8,8,8,8,8,8,8,8,8,8,8,8,8,8,8,8,8,8,8,8,8,8,8,8,8,8,8,8,8,8,8,8,8,8,8,8,8,8,8,8,8,8,8,8,8,8,8,8,8,8,8,8,8,8]⟩:BA) (IntKind.wrap .u8 (o))
 (fun q=>k1 (w64 (p+(w64 (((UInt8.toNat q:Nat):Int)))))))
 (fun J=>sixK (⟨#[0,1,2,2,3,3,3,3,4,4,4,4,4,4,4,4,5,5,5,5,5,5,5,5,5,5,5,5,5,5,5,5,6,6,6,6,6,6,6,6,6,6,6,6,6,6,6,6,6,6,6,6,6,6,6,6,6,6,6,6,6,6,6,6,7,7,7,7,7,7,7,7,7,7,7,7,7,7,7,7,7,7,7,7,7,7,7,7,7,7,7,7,7,7,7,7,7,7,7,7,7,7,7,7,7,7,7,7,7,7,7,7,7,7,7,7,7,7,7,7,7,7,7,7,7,7,7,7,8,8,8,8,8,8,8,8,8,8,8,8,8,8,8,8,8,8,8,8,8,8,8,8,8,8,8,8,8,8,8,8,8,8,8,8,8,8,8,8,8,8,8,8,8,8,8,8,8,8,8,8,8,8,8,8,8,8,8,8,8,8,8,8,8,8,8,8,8,8,8,8,8,8,8,8,8,8,8,8,8,8,8,8,8,8,8,8,8,8,8,8,8,8,8,8,8,8,8,8,8,8,8,8,8,8,8,8,8,8,8,8,8,8,8,8,8,8,8,8,8,8,8,8,8,8,8,8]⟩:BA) (IntKind.wrap .u8 (e))
 (fun r=>k1 (w64 (g+(w64 (((UInt8.toNat r:Nat):Int))))))))
 (fun L=>d α b 32
 (fun s t=>sixK (⟨#[0,1,2,2,3,3,3,3,4,4,4,4,4,4,4,4,5,5,5,5,5,5,5,5,5,5,5,5,5,5,5,5,6,6,6,6,6,6,6,6,6,6,6,6,6,6,6,6,6,6,6,6,6,6,6,6,6,6,6,6,6,6,6,6,7,7,7,7,7,7,7,7,7,7,7,7,7,7,7,7,7,7,7,7,7,7,7,7,7,7,7,7,7,7,7,7,7,7,7,7,7,7,7,7,7,7,7,7,7,7,7,7,7,7,7,7,7,7,7,7,7,7,7,7,7,7,7,7,8,8,8,8,8,8,8,8,8,8,8,8,8,8,8,8,8,8,8,8,8,8,8,8,8,8,8,8,8,8,8,8,8,8,8,8,8,8,8,8,8,8,8,8,8,8,8,8,8,8,8,8,8,8,8,8,8,8,8,8,8,8,8,8,8,8,8,8,8,8,8,8,8,8,8,8,8,8,8,8,8,8,8,8,8,8,8,8,8,8,8,8,8,8,8,8,8,8,8,8,8,8,8,8,8,8,8,8,8,8,8,8,8,8,8,8,8,8,8,8,8,8,8,8,8,8,8,8]⟩:BA) (IntKind.wrap .u8 (s))
 (fun w=>k1 (w64 (t+(w64 (((UInt8.toNat w:Nat):Int)))))))
 (fun M=>sixK (⟨#[0,1,2,2,3,3,3,3,4,4,4,4,4,4,4,4,5,5,5,5,5,5,5,5,5,5,5,5,5,5,5,5,6,6,6,6,6,6,6,6,6,6,6,6,6,6,6,6,6,6,6,6,6,6,6,6,6,6,6,6,6,6,6,6,7,7,7,7,7,7,7,7,7,7,7,7,7,7,7,7,7,7,7,7,7,7,7,7,7,7,7,7,7,7,7,7,7,7,7,7,7,7,7,7,7,7,7,7,7,7,7,7,7,7,7,7,7,7,7,7,7,7,7,7,7,7,7,7,8,8,8,8,8,8,8,8,8,8,8,8,8,8,8,8,8,8,8,8,8,8,8,8,8,8,8,8,8,8,8,8,8,8,8,8,8,8,8,8,8,8,8,8,8,8,8,8,8,8,8,8,8,8,8,8,8,8,8,8,8,8,8,8,8,8,8,8,8,8,8,8,8,8,8,8,8,8,8,8,8,8,8,8,8,8,8,8,8,8,8,8,8,8,8,8,8,8,8,8,8,8,8,8,8,8,8,8,8,8,8,8,8,8,8,8,8,8,8,8,8,8,8,8,8,8,8,8]⟩:BA) (IntKind.wrap .u8 (b))
 (fun z=>k1 (w64 (32+(w64 (((UInt8.toNat z:Nat):Int)))))))))
 (fun N=>m α a 0
 (fun h i=>c α h i
 (fun A B=>sixK (⟨#[0,1,2,2,3,3,3,3,4,4,4,4,4,4,4,4,5,5,5,5,5,5,5,5,5,5,5,5,5,5,5,5,6,6,6,6,6,6,6,6,6,6,6,6,6,6,6,6,6,6,6,6,6,6,6,6,6,6,6,6,6,6,6,6,7,7,7,7,7,7,7,7,7,7,7,7,7,7,7,7,7,7,7,7,7,7,7,7,7,7,7,7,7,7,7,7,7,7,7,7,7,7,7,7,7,7,7,7,7,7,7,7,7,7,7,7,7,7,7,7,7,7,7,7,7,7,7,7,8,8,8,8,8,8,8,8,8,8,8,8,8,8,8,8,8,8,8,8,8,8,8,8,8,8,8,8,8,8,8,8,8,8,8,8,8,8,8,8,8,8,8,8,8,8,8,8,8,8,8,8,8,8,8,8,8,8,8,8,8,8,8,8,8,8,8,8,8,8,8,8,8,8,8,8,8,8,8,8,8,8,8,8,8,8,8,8,8,8,8,8,8,8,8,8,8,8,8,8,8,8,8,8,8,8,8,8,8,8,8,8,8,8,8,8,8,8,8,8,8,8,8,8,8,8,8,8]⟩:BA) (IntKind.wrap .u8 (A))
 (fun C=>k1 (w64 (B+(w64 (((UInt8.toNat C:Nat):Int)))))))
 (fun O=>sixK (⟨#[0,1,2,2,3,3,3,3,4,4,4,4,4,4,4,4,5,5,5,5,5,5,5,5,5,5,5,5,5,5,5,5,6,6,6,6,6,6,6,6,6,6,6,6,6,6,6,6,6,6,6,6,6,6,6,6,6,6,6,6,6,6,6,6,7,7,7,7,7,7,7,7,7,7,7,7,7,7,7,7,7,7,7,7,7,7,7,7,7,7,7,7,7,7,7,7,7,7,7,7,7,7,7,7,7,7,7,7,7,7,7,7,7,7,7,7,7,7,7,7,7,7,7,7,7,7,7,7,8,8,8,8,8,8,8,8,8,8,8,8,8,8,8,8,8,8,8,8,8,8,8,8,8,8,8,8,8,8,8,8,8,8,8,8,8,8,8,8,8,8,8,8,8,8,8,8,8,8,8,8,8,8,8,8,8,8,8,8,8,8,8,8,8,8,8,8,8,8,8,8,8,8,8,8,8,8,8,8,8,8,8,8,8,8,8,8,8,8,8,8,8,8,8,8,8,8,8,8,8,8,8,8,8,8,8,8,8,8,8,8,8,8,8,8,8,8,8,8,8,8,8,8,8,8,8,8]⟩:BA) (IntKind.wrap .u8 (h))
 (fun D=>k1 (w64 (i+(w64 (((UInt8.toNat D:Nat):Int))))))))
 (fun P=>d α a 0
 (fun F G=>sixK (⟨#[0,1,2,2,3,3,3,3,4,4,4,4,4,4,4,4,5,5,5,5,5,5,5,5,5,5,5,5,5,5,5,5,6,6,6,6,6,6,6,6,6,6,6,6,6,6,6,6,6,6,6,6,6,6,6,6,6,6,6,6,6,6,6,6,7,7,7,7,7,7,7,7,7,7,7,7,7,7,7,7,7,7,7,7,7,7,7,7,7,7,7,7,7,7,7,7,7,7,7,7,7,7,7,7,7,7,7,7,7,7,7,7,7,7,7,7,7,7,7,7,7,7,7,7,7,7,7,7,8,8,8,8,8,8,8,8,8,8,8,8,8,8,8,8,8,8,8,8,8,8,8,8,8,8,8,8,8,8,8,8,8,8,8,8,8,8,8,8,8,8,8,8,8,8,8,8,8,8,8,8,8,8,8,8,8,8,8,8,8,8,8,8,8,8,8,8,8,8,8,8,8,8,8,8,8,8,8,8,8,8,8,8,8,8,8,8,8,8,8,8,8,8,8,8,8,8,8,8,8,8,8,8,8,8,8,8,8,8,8,8,8,8,8,8,8,8,8,8,8,8,8,8,8,8,8,8]⟩:BA) (IntKind.wrap .u8 (F))
 (fun H=>k1 (w64 (G+(w64 (((UInt8.toNat H:Nat):Int)))))))
 (fun Q=>sixK (⟨#[0,1,2,2,3,3,3,3,4,4,4,4,4,4,4,4,5,5,5,5,5,5,5,5,5,5,5,5,5,5,5,5,6,6,6,6,6,6,6,6,6,6,6,6,6,6,6,6,6,6,6,6,6,6,6,6,6,6,6,6,6,6,6,6,7,7,7,7,7,7,7,7,7,7,7,7,7,7,7,7,7,7,7,7,7,7,7,7,7,7,7,7,7,7,7,7,7,7,7,7,7,7,7,7,7,7,7,7,7,7,7,7,7,7,7,7,7,7,7,7,7,7,7,7,7,7,7,7,8,8,8,8,8,8,8,8,8,8,8,8,8,8,8,8,8,8,8,8,8,8,8,8,8,8,8,8,8,8,8,8,8,8,8,8,8,8,8,8,8,8,8,8,8,8,8,8,8,8,8,8,8,8,8,8,8,8,8,8,8,8,8,8,8,8,8,8,8,8,8,8,8,8,8,8,8,8,8,8,8,8,8,8,8,8,8,8,8,8,8,8,8,8,8,8,8,8,8,8,8,8,8,8,8,8,8,8,8,8,8,8,8,8,8,8,8,8,8,8,8,8,8,8,8,8,8,8]⟩:BA) (IntKind.wrap .u8 (a))
 (fun I=>k1 (w64 (0+(w64 (((UInt8.toNat I:Nat):Int)))))))))
def f157_0 (α:Type)(a:Int)(k1:Int->Op α):Op α:=f157_0g J157_0_0 J157_0_1 J157_0_2 J157_0_3 J157_0_4 α a k1
def pa157_0:PT (List DV):=pA [pV false [(dI .u64)]]
def Fn157_0 (v:Tf157_0)(α:Type)(k:RT α):Int->Op α:=fun a=>v α a (fun b=>ur157_0_0 k b)
def cm157_0g (a:TJ157_0_0)(b:TJ157_0_1)(c:TJ157_0_4)(d:TJ157_0_2)(e:TJ157_0_3):MCode:=(MCode.put (.m [⟨p157_0_0,F157_0_0 a⟩]) [1] (MCode.put (.m [⟨p157_0_0,F157_0_1 b⟩,⟨p157_0_1,F157_0_4 c⟩]) [1,1] (MCode.put (.m [⟨p157_0_0,F157_0_2 d⟩,⟨p157_0_2,F157_0_3 e⟩]) [1,1,1] (emb ac157))))
def cm157_0:MCode:=cm157_0g J157_0_0 J157_0_1 J157_0_4 J157_0_2 J157_0_3
theorem gm157_0:cm157_0.Good Pg E157_0 sh157:=(put_seq (by kernel_rfl) (put_seq (by kernel_rfl) (put_seq (by kernel_rfl) (emb_good ac157) ⟨m157_0_2,m157_0_3,TT⟩) ⟨m157_0_1,m157_0_4,TT⟩) ⟨m157_0_0,TT⟩)
theorem em157_0:cm157_0.erase=ac157:=((put_erase _ _).trans ((put_erase _ _).trans ((put_erase _ _).trans (emb_erase _))))
theorem fm157_0g (a:TJ157_0_0)(b:TJ157_0_1)(c:TJ157_0_4)(d:TJ157_0_2)(e:TJ157_0_3)(α:Type)(k:RT α):Fn157_0 (f157_0g a b d e c) α k=pa157_0.unc fun ds=>fnM Pg (E157_0g ) sh157 (cm157_0g a b c d e) rs157 k ds:=by kernel_rfl
theorem fm157_0:∀ (α:Type) (k:RT α),Fn157_0 f157_0 α k=pa157_0.unc fun ds=>fnM Pg E157_0 sh157 cm157_0 rs157 k ds:=fm157_0g J157_0_0 J157_0_1 J157_0_4 J157_0_2 J157_0_3
theorem is157:FnIs Pg 157 nt157 tr157 tl157 ac157 rs157:=codeF_is Tryz.func157 (by kernel_rfl)
theorem io157_0:InstOk Pg 157 nt157 ⟨pa157_0,Fn157_0 f157_0⟩:=inst_ok eo157_0 followsTry is157 ⟨⟨sh157,cm157_0,em157_0,gm157_0,fm157_0⟩⟩
abbrev nt136:Nat:=51
def sh136:SG:=[]
def tr136:TG:=[tT 0 [0,1],tT 1 [0,1,6],tT 2 [0,1,6,7],tT 3 [0,1,6,7,8],tT 4 [0,1,6,7,8,9],tT 5 [0,1,6,7,8,9,10],tT 6 [0,1,6,7,9,11],tT 7 [0,1,6,7,9,11,12],tT 8 [0,1,6,7,9,12,13],tT 9 [0,1,7,9,12,13],tT 10 [0,1,4],tT 11 [4,5]]
def tl136:TG:=[]
def ac136:ACode:=codeF Pg Tryz.f136 tr136 tl136
def rs136:List AResV:=resF Pg Tryz.f136
def pr136_0_0:PT (List RV):=pRs [pR false [rD (dI .u64)],pR false [rD (dI .u64)]]
def ur136_0_0 {β:Type}(g:List RV->β):Int->Int->β:=pr136_0_0.unc g
def E136_0g:EnvK:=EnvK.of [] noSeq
def E136_0:EnvK:=E136_0g
theorem eo136_0:E136_0.Ok Pg:=EnvK.of_ok noSeq_ok TT
abbrev Tf136_0:Type 1:=(α:Type)->Int->Int->(Int->Int->Op α)->Op α
def f136_0g (α:Type)(a b:Int)(k1:Int->Int->Op α):Op α:=
 k1 (IntKind.wrap .u64 ((IntKind.wrap .u64 ((IntKind.wrap .u64 ((Int.fdiv a (2 ^ 32))*(Int.fdiv b (2 ^ 32))))+(Int.fdiv (IntKind.wrap .u64 ((IntKind.wrap .u64 ((Int.fdiv a (2 ^ 32))*(iAnd .u64 b 4294967295)))+(Int.fdiv (IntKind.wrap .u64 ((iAnd .u64 a 4294967295)*(iAnd .u64 b 4294967295))) (2 ^ 32)))) (2 ^ 32))))+(Int.fdiv (IntKind.wrap .u64 ((iAnd .u64 (IntKind.wrap .u64 ((IntKind.wrap .u64 ((Int.fdiv a (2 ^ 32))*(iAnd .u64 b 4294967295)))+(Int.fdiv (IntKind.wrap .u64 ((iAnd .u64 a 4294967295)*(iAnd .u64 b 4294967295))) (2 ^ 32)))) 4294967295)+(IntKind.wrap .u64 ((iAnd .u64 a 4294967295)*(Int.fdiv b (2 ^ 32)))))) (2 ^ 32)))) (IntKind.wrap .u64 (a*b))
def f136_0 (α:Type)(a b:Int)(k1:Int->Int->Op α):Op α:=f136_0g α a b k1
def pa136_0:PT (List DV):=pA [pV false [(dI .u64)],pV false [(dI .u64)]]
def Fn136_0 (v:Tf136_0)(α:Type)(k:RT α):Int->Int->Op α:=fun a b=>v α a b (fun c d=>ur136_0_0 k c d)
def cm136_0g:MCode:=(emb ac136)
def cm136_0:MCode:=cm136_0g
theorem gm136_0:cm136_0.Good Pg E136_0 sh136:=(emb_good ac136)
theorem em136_0:cm136_0.erase=ac136:=(emb_erase _)
theorem fm136_0g (α:Type)(k:RT α):Fn136_0 (f136_0g ) α k=pa136_0.unc fun ds=>fnM Pg (E136_0g ) sh136 (cm136_0g ) rs136 k ds:=by kernel_rfl
theorem fm136_0:∀ (α:Type) (k:RT α),Fn136_0 f136_0 α k=pa136_0.unc fun ds=>fnM Pg E136_0 sh136 cm136_0 rs136 k ds:=fm136_0g
theorem is136:FnIs Pg 136 nt136 tr136 tl136 ac136 rs136:=codeF_is Tryz.func136 (by kernel_rfl)
theorem io136_0:InstOk Pg 136 nt136 ⟨pa136_0,Fn136_0 f136_0⟩:=inst_ok eo136_0 followsTry is136 ⟨⟨sh136,cm136_0,em136_0,gm136_0,fm136_0⟩⟩
abbrev nt104:Nat:=7
def sh104:SG:=[]
def tr104:TG:=[tT 0 [0],tT 1 [2]]
def tl104:TG:=[]
def ac104:ACode:=codeF Pg Tryz.f104 tr104 tl104
def rs104:List AResV:=resF Pg Tryz.f104
def pr104_0_0:PT (List RV):=pRs [wI]
def ur104_0_0 {β:Type}(g:List RV->β):Int->β:=pr104_0_0.unc g
def E104_0g:EnvK:=EnvK.of [] noSeq
def E104_0:EnvK:=E104_0g
theorem eo104_0:E104_0.Ok Pg:=EnvK.of_ok noSeq_ok TT
abbrev Tf104_0:Type 1:=(α:Type)->Int->(Int->Op α)->Op α
def f104_0g (α:Type)(a:Int)(k1:Int->Op α):Op α:=
 k1 (if (w64 (0 - a)) > a then (w64 (0 - a)) else a)
def f104_0 (α:Type)(a:Int)(k1:Int->Op α):Op α:=f104_0g α a k1
def pa104_0:PT (List DV):=pA [vI]
def Fn104_0 (v:Tf104_0)(α:Type)(k:RT α):Int->Op α:=fun a=>v α a (fun b=>ur104_0_0 k b)
def cm104_0g:MCode:=(emb ac104)
def cm104_0:MCode:=cm104_0g
theorem gm104_0:cm104_0.Good Pg E104_0 sh104:=(emb_good ac104)
theorem em104_0:cm104_0.erase=ac104:=(emb_erase _)
theorem fm104_0g (α:Type)(k:RT α):Fn104_0 (f104_0g ) α k=pa104_0.unc fun ds=>fnM Pg (E104_0g ) sh104 (cm104_0g ) rs104 k ds:=by kernel_rfl
theorem fm104_0:∀ (α:Type) (k:RT α),Fn104_0 f104_0 α k=pa104_0.unc fun ds=>fnM Pg E104_0 sh104 cm104_0 rs104 k ds:=fm104_0g
theorem is104:FnIs Pg 104 nt104 tr104 tl104 ac104 rs104:=codeF_is Tryz.func104 (by kernel_rfl)
theorem io104_0:InstOk Pg 104 nt104 ⟨pa104_0,Fn104_0 f104_0⟩:=inst_ok eo104_0 followsTry is104 ⟨⟨sh104,cm104_0,em104_0,gm104_0,fm104_0⟩⟩
abbrev nt130:Nat:=16
def sh130:SG:=[(6,iT),(8,iT),(11,iT),(13,iT)]
def tr130:TG:=[tT 0 [2,3,4],tT 1 [4]]
def tl130:TG:=[]
def ac130:ACode:=codeF Pg Tryz.f130 tr130 tl130
def rs130:List AResV:=resF Pg Tryz.f130
def pr130_0_0:PT (List RV):=pRs [pR true [rD (dI .i64),rD (dI .i64)]]
def ur130_0_0 {β:Type}(g:List RV->β):Int->Int->β:=pr130_0_0.unc g
def E130_0g:EnvK:=EnvK.of [] noSeq
def E130_0:EnvK:=E130_0g
theorem eo130_0:E130_0.Ok Pg:=EnvK.of_ok noSeq_ok TT
abbrev Tf130_0:Type 1:=(α:Type)->Int->Int->Int->Int->(Int->Int->Op α)->Op α
def f130_0g (α:Type)(a b c d:Int)(k1:Int->Int->Op α):Op α:=
 k1 (w64 (a - c)) (w64 (b - d))
def f130_0 (α:Type)(a b c d:Int)(k1:Int->Int->Op α):Op α:=f130_0g α a b c d k1
def pa130_0:PT (List DV):=pA [pV true [(dI .i64),(dI .i64)],pV true [(dI .i64),(dI .i64)]]
def Fn130_0 (v:Tf130_0)(α:Type)(k:RT α):I4 (Op α):=fun a b c d=>v α a b c d (fun e g=>ur130_0_0 k e g)
def cm130_0g:MCode:=(emb ac130)
def cm130_0:MCode:=cm130_0g
theorem gm130_0:cm130_0.Good Pg E130_0 sh130:=(emb_good ac130)
theorem em130_0:cm130_0.erase=ac130:=(emb_erase _)
theorem fm130_0g (α:Type)(k:RT α):Fn130_0 (f130_0g ) α k=pa130_0.unc fun ds=>fnM Pg (E130_0g ) sh130 (cm130_0g ) rs130 k ds:=by kernel_rfl
theorem fm130_0:∀ (α:Type) (k:RT α),Fn130_0 f130_0 α k=pa130_0.unc fun ds=>fnM Pg E130_0 sh130 cm130_0 rs130 k ds:=fm130_0g
theorem is130:FnIs Pg 130 nt130 tr130 tl130 ac130 rs130:=codeF_is Tryz.func130 (by kernel_rfl)
theorem io130_0:InstOk Pg 130 nt130 ⟨pa130_0,Fn130_0 f130_0⟩:=inst_ok eo130_0 followsTry is130 ⟨⟨sh130,cm130_0,em130_0,gm130_0,fm130_0⟩⟩
abbrev nt135:Nat:=5
def sh135:SG:=[]
def tr135:TG:=[tT 0 [0],tT 1 [2]]
def tl135:TG:=[]
def ac135:ACode:=codeF Pg Tryz.f135 tr135 tl135
def rs135:List AResV:=resF Pg Tryz.f135
def pr135_0_0:PT (List RV):=pRs [pR false [rD (dF .f64)]]
def ur135_0_0 {β:Type}(g:List RV->β):Nat->β:=pr135_0_0.unc g
def E135_0g:EnvK:=EnvK.of [] noSeq
def E135_0:EnvK:=E135_0g
theorem eo135_0:E135_0.Ok Pg:=EnvK.of_ok noSeq_ok TT
abbrev Tf135_0:Type 1:=(α:Type)->Nat->(Nat->Op α)->Op α
def f135_0g (α:Type)(a:Nat)(k1:Nat->Op α):Op α:=
 flK ((FloatKind.format .f64).sqrt a)
 (fun b=>k1 b)
def f135_0 (α:Type)(a:Nat)(k1:Nat->Op α):Op α:=f135_0g α a k1
def pa135_0:PT (List DV):=pA [pV false [(dF .f64)]]
def Fn135_0 (v:Tf135_0)(α:Type)(k:RT α):Nat->Op α:=fun a=>v α a (fun b=>ur135_0_0 k b)
def cm135_0g:MCode:=(emb ac135)
def cm135_0:MCode:=cm135_0g
theorem gm135_0:cm135_0.Good Pg E135_0 sh135:=(emb_good ac135)
theorem em135_0:cm135_0.erase=ac135:=(emb_erase _)
theorem fm135_0g (α:Type)(k:RT α):Fn135_0 (f135_0g ) α k=pa135_0.unc fun ds=>fnM Pg (E135_0g ) sh135 (cm135_0g ) rs135 k ds:=by kernel_rfl
theorem fm135_0:∀ (α:Type) (k:RT α),Fn135_0 f135_0 α k=pa135_0.unc fun ds=>fnM Pg E135_0 sh135 cm135_0 rs135 k ds:=fm135_0g
theorem is135:FnIs Pg 135 nt135 tr135 tl135 ac135 rs135:=codeF_is Tryz.func135 (by kernel_rfl)
theorem io135_0:InstOk Pg 135 nt135 ⟨pa135_0,Fn135_0 f135_0⟩:=inst_ok eo135_0 followsTry is135 ⟨⟨sh135,cm135_0,em135_0,gm135_0,fm135_0⟩⟩
abbrev nt127:Nat:=14
def sh127:SG:=[(4,iT),(6,iT),(9,iT),(11,iT)]
def tr127:TG:=[tT 0 [1],tT 1 [2]]
def tl127:TG:=[]
def ac127:ACode:=codeF Pg Tryz.f127 tr127 tl127
def rs127:List AResV:=resF Pg Tryz.f127
def pr127_0_0:PT (List RV):=pRs [wI]
def ur127_0_0 {β:Type}(g:List RV->β):Int->β:=pr127_0_0.unc g
def E127_0g:EnvK:=EnvK.of [] noSeq
def E127_0:EnvK:=E127_0g
theorem eo127_0:E127_0.Ok Pg:=EnvK.of_ok noSeq_ok TT
abbrev Tf127_0:Type 1:=(α:Type)->Int->Int->(Int->Op α)->Op α
def f127_0g (α:Type)(a b:Int)(k1:Int->Op α):Op α:=
 k1 (w64 ((w64 (a*a))+(w64 (b*b))))
def f127_0 (α:Type)(a b:Int)(k1:Int->Op α):Op α:=f127_0g α a b k1
def pa127_0:PT (List DV):=pA [pV true [(dI .i64),(dI .i64)]]
def Fn127_0 (v:Tf127_0)(α:Type)(k:RT α):Int->Int->Op α:=fun a b=>v α a b (fun c=>ur127_0_0 k c)
def cm127_0g:MCode:=(emb ac127)
def cm127_0:MCode:=cm127_0g
theorem gm127_0:cm127_0.Good Pg E127_0 sh127:=(emb_good ac127)
theorem em127_0:cm127_0.erase=ac127:=(emb_erase _)
theorem fm127_0g (α:Type)(k:RT α):Fn127_0 (f127_0g ) α k=pa127_0.unc fun ds=>fnM Pg (E127_0g ) sh127 (cm127_0g ) rs127 k ds:=by kernel_rfl
theorem fm127_0:∀ (α:Type) (k:RT α),Fn127_0 f127_0 α k=pa127_0.unc fun ds=>fnM Pg E127_0 sh127 cm127_0 rs127 k ds:=fm127_0g
theorem is127:FnIs Pg 127 nt127 tr127 tl127 ac127 rs127:=codeF_is Tryz.func127 (by kernel_rfl)
theorem io127_0:InstOk Pg 127 nt127 ⟨pa127_0,Fn127_0 f127_0⟩:=inst_ok eo127_0 followsTry is127 ⟨⟨sh127,cm127_0,em127_0,gm127_0,fm127_0⟩⟩
abbrev nt122:Nat:=28
def sh122:SG:=[(6,iT),(8,iT),(11,iT),(13,iT),(17,iT),(19,iT),(22,iT),(24,iT)]
def tr122:TG:=[tT 0 [2,3,4],tT 1 [4]]
def tl122:TG:=[]
def ac122:ACode:=codeF Pg Tryz.f122 tr122 tl122
def rs122:List AResV:=resF Pg Tryz.f122
def pr122_0_0:PT (List RV):=pRs [pR true [rD (dI .i64),rD (dI .i64)]]
def ur122_0_0 {β:Type}(g:List RV->β):Int->Int->β:=pr122_0_0.unc g
def E122_0g:EnvK:=EnvK.of [] noSeq
def E122_0:EnvK:=E122_0g
theorem eo122_0:E122_0.Ok Pg:=EnvK.of_ok noSeq_ok TT
abbrev Tf122_0:Type 1:=(α:Type)->Int->Int->Int->Int->(Int->Int->Op α)->Op α
def f122_0g (α:Type)(a b c d:Int)(k1:Int->Int->Op α):Op α:=
 k1 (w64 ((w64 (a*c)) - (w64 (b*d)))) (w64 ((w64 (a*d))+(w64 (b*c))))
def f122_0 (α:Type)(a b c d:Int)(k1:Int->Int->Op α):Op α:=f122_0g α a b c d k1
def pa122_0:PT (List DV):=pA [pV true [(dI .i64),(dI .i64)],pV true [(dI .i64),(dI .i64)]]
def Fn122_0 (v:Tf122_0)(α:Type)(k:RT α):I4 (Op α):=fun a b c d=>v α a b c d (fun e g=>ur122_0_0 k e g)
def cm122_0g:MCode:=(emb ac122)
def cm122_0:MCode:=cm122_0g
theorem gm122_0:cm122_0.Good Pg E122_0 sh122:=(emb_good ac122)
theorem em122_0:cm122_0.erase=ac122:=(emb_erase _)
theorem fm122_0g (α:Type)(k:RT α):Fn122_0 (f122_0g ) α k=pa122_0.unc fun ds=>fnM Pg (E122_0g ) sh122 (cm122_0g ) rs122 k ds:=by kernel_rfl
theorem fm122_0:∀ (α:Type) (k:RT α),Fn122_0 f122_0 α k=pa122_0.unc fun ds=>fnM Pg E122_0 sh122 cm122_0 rs122 k ds:=fm122_0g
theorem is122:FnIs Pg 122 nt122 tr122 tl122 ac122 rs122:=codeF_is Tryz.func122 (by kernel_rfl)
theorem io122_0:InstOk Pg 122 nt122 ⟨pa122_0,Fn122_0 f122_0⟩:=inst_ok eo122_0 followsTry is122 ⟨⟨sh122,cm122_0,em122_0,gm122_0,fm122_0⟩⟩
abbrev nt120:Nat:=16
def sh120:SG:=[(6,iT),(8,iT),(11,iT),(13,iT)]
def tr120:TG:=[tT 0 [2,3,4],tT 1 [4]]
def tl120:TG:=[]
def ac120:ACode:=codeF Pg Tryz.f120 tr120 tl120
def rs120:List AResV:=resF Pg Tryz.f120
def pr120_0_0:PT (List RV):=pRs [pR true [rD (dI .i64),rD (dI .i64)]]
def ur120_0_0 {β:Type}(g:List RV->β):Int->Int->β:=pr120_0_0.unc g
def E120_0g:EnvK:=EnvK.of [] noSeq
def E120_0:EnvK:=E120_0g
theorem eo120_0:E120_0.Ok Pg:=EnvK.of_ok noSeq_ok TT
abbrev Tf120_0:Type 1:=(α:Type)->Int->Int->Int->Int->(Int->Int->Op α)->Op α
def f120_0g (α:Type)(a b c d:Int)(k1:Int->Int->Op α):Op α:=
 k1 (w64 (a+c)) (w64 (b+d))
def f120_0 (α:Type)(a b c d:Int)(k1:Int->Int->Op α):Op α:=f120_0g α a b c d k1
def pa120_0:PT (List DV):=pA [pV true [(dI .i64),(dI .i64)],pV true [(dI .i64),(dI .i64)]]
def Fn120_0 (v:Tf120_0)(α:Type)(k:RT α):I4 (Op α):=fun a b c d=>v α a b c d (fun e g=>ur120_0_0 k e g)
def cm120_0g:MCode:=(emb ac120)
def cm120_0:MCode:=cm120_0g
theorem gm120_0:cm120_0.Good Pg E120_0 sh120:=(emb_good ac120)
theorem em120_0:cm120_0.erase=ac120:=(emb_erase _)
theorem fm120_0g (α:Type)(k:RT α):Fn120_0 (f120_0g ) α k=pa120_0.unc fun ds=>fnM Pg (E120_0g ) sh120 (cm120_0g ) rs120 k ds:=by kernel_rfl
theorem fm120_0:∀ (α:Type) (k:RT α),Fn120_0 f120_0 α k=pa120_0.unc fun ds=>fnM Pg E120_0 sh120 cm120_0 rs120 k ds:=fm120_0g
theorem is120:FnIs Pg 120 nt120 tr120 tl120 ac120 rs120:=codeF_is Tryz.func120 (by kernel_rfl)
theorem io120_0:InstOk Pg 120 nt120 ⟨pa120_0,Fn120_0 f120_0⟩:=inst_ok eo120_0 followsTry is120 ⟨⟨sh120,cm120_0,em120_0,gm120_0,fm120_0⟩⟩
abbrev nt133:Nat:=16
def sh133:SG:=[(9,iT),(12,iT),(15,iS 2)]
def tr133:TG:=[tT 0 [1,2,4],tT 1 [2,4,5,6],tT 2 [2,4,5,6,7],tT 3 [2,4,5,6],tT 4 [2,4,5,6],tT 5 [4]]
def tl133:TG:=[tT 2 [2,4,5,6]]
def ac133:ACode:=codeF Pg Tryz.f133 tr133 tl133
def rs133:List AResV:=resF Pg Tryz.f133
def td133_7:OT:=tdC (MCode.sub [1,0,1,0] (emb ac133))
def p133_0_0:PT St:=pS [sP 2,sP 4,sI 5,sI 6] [eBox 2 [xI,xI],eBox 4 [xI,xI]]
def u133_0_0 {β:Type}(g:St->β):I6 β:=p133_0_0.unc g
def p133_0_1:PT St:=pS [sP 2,sP 4,sI 5,sI 6,sY 7 dB] [eBox 2 [xI,xI],eBox 4 [xI,xI]]
def u133_0_1 {β:Type}(g:St->β):Int->Int->Bool->I4 β:=p133_0_1.unc g
def pr133_0_0:PT (List RV):=pRs [pR true [rD (dI .i64),rD (dI .i64)]]
def ur133_0_0 {β:Type}(g:List RV->β):Int->Int->β:=pr133_0_0.unc g
def E133_0g:EnvK:=EnvK.of [] noSeq
def E133_0:EnvK:=E133_0g
theorem eo133_0:E133_0.Ok Pg:=EnvK.of_ok noSeq_ok TT
def c133_0_7g:MCode:=MCode.sub [1,0,1,0,0] (emb ac133)
def c133_0_7:MCode:=c133_0_7g
def S133_0_0g (α:Type)(b a c d:Int)(kn:Int->Int->Int->Op α)(k1:Int->Bool->Int->Int->Op α):Op α:=
 cK (decide (a < b))
 (kn (w64 (a+1)) (w64 (0 - d)) c)
 (k1 a (decide (a < b)) c d)
def S133_0_0 (α:Type)(a b c d:Int)(kn:Int->Int->Int->Op α)(k1:Int->Bool->Int->Int->Op α):Op α:=S133_0_0g α a b c d kn k1
def R133_0_0 (α:Type)(a:Int)(k1:Int->Bool->Int->Int->Op α):Nat->Int->Int->Int->Op α
 | 0,_,_,_=>none
 | n+1,b,c,d=>S133_0_0 α a b c d (R133_0_0 α a k1 n) k1
def L133_0_0 (α:Type)(a:Int)(k1:Int->Bool->Int->Int->Op α)(b c d:Int):Op α:=R133_0_0 α a k1 fuel b c d
abbrev TL133_0_0:Type 1:=(α:Type)->Int->(Int->Bool->Int->Int->Op α)->Int->Int->Int->Op α
def F133_0_0 (v:TL133_0_0)(α:Type)(K:KT α):I6 (Op α):=fun a b c d e g=>v α a (fun h i j l=>u133_0_1 (K (.exit 0)) a h i j l e g) b c d
theorem r133_0_0g (α:Type)(K:KT α)(Kn:SK α)(a b c d e g:Int):u133_0_0 (fun σ=>runM Pg (E133_0g ) sh133 (c133_0_7g ) (thenK (fun σ=>tidyK td133_7 σ Kn) K) σ) a b c d e g=S133_0_0g α a b c d (fun b c d=>u133_0_0 Kn a b c d e g) (fun h i j l=>u133_0_1 (K (.exit 0)) a h i j l e g):=by kernel_rfl
theorem r133_0_0 (α:Type)(K:KT α)(Kn:SK α)(a b c d e g:Int):u133_0_0 (fun σ=>runM Pg E133_0 sh133 c133_0_7 (thenK (fun σ=>tidyK td133_7 σ Kn) K) σ) a b c d e g=S133_0_0 α a b c d (fun b c d=>u133_0_0 Kn a b c d e g) (fun h i j l=>u133_0_1 (K (.exit 0)) a h i j l e g):=r133_0_0g α K Kn a b c d e g
theorem t133_0_0 (α:Type)(K:KT α):∀ (n:Nat) (a b c d e g:Int),R133_0_0 α a (fun h i j l=>u133_0_1 (K (.exit 0)) a h i j l e g) n b c d=u133_0_0 (loopT (runM Pg E133_0 sh133 c133_0_7) td133_7 K n) a b c d e g:=by
 intro n
 induction n with
 | zero=>intros;rfl
 | succ n ih=>intro a b c d e g;exact (congrArg (fun kn=>S133_0_0 α a b c d kn (fun h i j l=>u133_0_1 (K (.exit 0)) a h i j l e g)) (funext fun b=>funext fun c=>funext fun d=>ih a b c d e g)).trans (r133_0_0 α K (loopT (runM Pg E133_0 sh133 c133_0_7) td133_7 K n) a b c d e g).symm
theorem m133_0_0:∀ (α:Type) (K:KT α),F133_0_0 L133_0_0 α K=p133_0_0.unc fun σ=>loopT (runM Pg E133_0 sh133 c133_0_7) td133_7 K fuel σ:=fun α K=>by funext a b c d e g;exact t133_0_0 α K fuel a b c d e g
abbrev Tf133_0:Type 1:=(α:Type)->Int->Int->Int->(Int->Int->Op α)->Op α
def f133_0g (a:TL133_0_0)(α:Type)(b c d:Int)(k1:Int->Int->Op α):Op α:=
 a α d
 (fun h i e g=>k1 e g) 0 b c
def f133_0 (α:Type)(a b c:Int)(k1:Int->Int->Op α):Op α:=f133_0g L133_0_0 α a b c k1
def pa133_0:PT (List DV):=pA [pV true [(dI .i64),(dI .i64)],vI]
def Fn133_0 (v:Tf133_0)(α:Type)(k:RT α):Int->Int->Int->Op α:=fun a b c=>v α a b c (fun d e=>ur133_0_0 k d e)
def cm133_0g (a:TL133_0_0):MCode:=(MCode.put (.m [⟨p133_0_0,F133_0_0 a⟩]) [1,0,1,0] (emb ac133))
def cm133_0:MCode:=cm133_0g L133_0_0
theorem gm133_0:cm133_0.Good Pg E133_0 sh133:=(put_loop (td:=td133_7) (by kernel_rfl) (emb_good ac133) ⟨m133_0_0,TT⟩)
theorem em133_0:cm133_0.erase=ac133:=((put_erase _ _).trans (emb_erase _))
theorem fm133_0g (a:TL133_0_0)(α:Type)(k:RT α):Fn133_0 (f133_0g a) α k=pa133_0.unc fun ds=>fnM Pg (E133_0g ) sh133 (cm133_0g a) rs133 k ds:=by kernel_rfl
theorem fm133_0:∀ (α:Type) (k:RT α),Fn133_0 f133_0 α k=pa133_0.unc fun ds=>fnM Pg E133_0 sh133 cm133_0 rs133 k ds:=fm133_0g L133_0_0
theorem is133:FnIs Pg 133 nt133 tr133 tl133 ac133 rs133:=codeF_is Tryz.func133 (by kernel_rfl)
theorem io133_0:InstOk Pg 133 nt133 ⟨pa133_0,Fn133_0 f133_0⟩:=inst_ok eo133_0 followsTry is133 ⟨⟨sh133,cm133_0,em133_0,gm133_0,fm133_0⟩⟩
abbrev nt140:Nat:=10
def sh140:SG:=[]
def tr140:TG:=[tT 0 [0,2],tT 1 [2]]
def tl140:TG:=[]
def ac140:ACode:=codeF Pg Tryz.f140 tr140 tl140
def rs140:List AResV:=resF Pg Tryz.f140
def pr140_0_0:PT (List RV):=pRs [pR true [rD (dI .i64),rD (dI .i64)]]
def ur140_0_0 {β:Type}(g:List RV->β):Int->Int->β:=pr140_0_0.unc g
def E140_0g:EnvK:=EnvK.of [] noSeq
def E140_0:EnvK:=E140_0g
theorem eo140_0:E140_0.Ok Pg:=EnvK.of_ok noSeq_ok TT
abbrev Tf140_0:Type 1:=(α:Type)->Nat->Nat->(Int->Int->Op α)->Op α
def f140_0g (α:Type)(a b:Nat)(k1:Int->Int->Op α):Op α:=
 ivK (f2i .f64 a .i64)
 (fun c=>ivK (f2i .f64 b .i64)
 (fun d=>k1 c d))
def f140_0 (α:Type)(a b:Nat)(k1:Int->Int->Op α):Op α:=f140_0g α a b k1
def pa140_0:PT (List DV):=pA [pV false [(dX .f64)]]
def Fn140_0 (v:Tf140_0)(α:Type)(k:RT α):Nat->Nat->Op α:=fun a b=>v α a b (fun c d=>ur140_0_0 k c d)
def cm140_0g:MCode:=(emb ac140)
def cm140_0:MCode:=cm140_0g
theorem gm140_0:cm140_0.Good Pg E140_0 sh140:=(emb_good ac140)
theorem em140_0:cm140_0.erase=ac140:=(emb_erase _)
theorem fm140_0g (α:Type)(k:RT α):Fn140_0 (f140_0g ) α k=pa140_0.unc fun ds=>fnM Pg (E140_0g ) sh140 (cm140_0g ) rs140 k ds:=by kernel_rfl
theorem fm140_0:∀ (α:Type) (k:RT α),Fn140_0 f140_0 α k=pa140_0.unc fun ds=>fnM Pg E140_0 sh140 cm140_0 rs140 k ds:=fm140_0g
theorem is140:FnIs Pg 140 nt140 tr140 tl140 ac140 rs140:=codeF_is Tryz.func140 (by kernel_rfl)
theorem io140_0:InstOk Pg 140 nt140 ⟨pa140_0,Fn140_0 f140_0⟩:=inst_ok eo140_0 followsTry is140 ⟨⟨sh140,cm140_0,em140_0,gm140_0,fm140_0⟩⟩
abbrev nt139:Nat:=7
def sh139:SG:=[]
def tr139:TG:=[tT 0 [0],tT 1 [2]]
def tl139:TG:=[]
def ac139:ACode:=codeF Pg Tryz.f139 tr139 tl139
def rs139:List AResV:=resF Pg Tryz.f139
def pr139_0_0:PT (List RV):=pRs [pR false [rD (dF .f64)]]
def ur139_0_0 {β:Type}(g:List RV->β):Nat->β:=pr139_0_0.unc g
def E139_0g:EnvK:=EnvK.of [] noSeq
def E139_0:EnvK:=E139_0g
theorem eo139_0:E139_0.Ok Pg:=EnvK.of_ok noSeq_ok TT
abbrev Tf139_0:Type 1:=(α:Type)->Nat->(Nat->Op α)->Op α
def f139_0g (α:Type)(a:Nat)(k1:Nat->Op α):Op α:=
 k1 (Int.toNat (iAndNot .u64 ((a:Nat):Int) 9223372036854775808))
def f139_0 (α:Type)(a:Nat)(k1:Nat->Op α):Op α:=f139_0g α a k1
def pa139_0:PT (List DV):=pA [pV false [(dF .f64)]]
def Fn139_0 (v:Tf139_0)(α:Type)(k:RT α):Nat->Op α:=fun a=>v α a (fun b=>ur139_0_0 k b)
def cm139_0g:MCode:=(emb ac139)
def cm139_0:MCode:=cm139_0g
theorem gm139_0:cm139_0.Good Pg E139_0 sh139:=(emb_good ac139)
theorem em139_0:cm139_0.erase=ac139:=(emb_erase _)
theorem fm139_0g (α:Type)(k:RT α):Fn139_0 (f139_0g ) α k=pa139_0.unc fun ds=>fnM Pg (E139_0g ) sh139 (cm139_0g ) rs139 k ds:=by kernel_rfl
theorem fm139_0:∀ (α:Type) (k:RT α),Fn139_0 f139_0 α k=pa139_0.unc fun ds=>fnM Pg E139_0 sh139 cm139_0 rs139 k ds:=fm139_0g
theorem is139:FnIs Pg 139 nt139 tr139 tl139 ac139 rs139:=codeF_is Tryz.func139 (by kernel_rfl)
theorem io139_0:InstOk Pg 139 nt139 ⟨pa139_0,Fn139_0 f139_0⟩:=inst_ok eo139_0 followsTry is139 ⟨⟨sh139,cm139_0,em139_0,gm139_0,fm139_0⟩⟩
abbrev nt151:Nat:=7
def sh151:SG:=[]
def tr151:TG:=[tT 0 [0],tT 1 [2],tT 2 [2]]
def tl151:TG:=[]
def ac151:ACode:=codeF Pg Tryz.f151 tr151 tl151
def rs151:List AResV:=resF Pg Tryz.f151
def pr151_0_0:PT (List RV):=pRs [pR false [rD (dNan .f64)]]
def ur151_0_0 {β:Type}(g:List RV->β):β:=pr151_0_0.unc g
def pr151_0_1:PT (List RV):=pRs [pR false [rD (dF .f64)]]
def ur151_0_1 {β:Type}(g:List RV->β):Nat->β:=pr151_0_1.unc g
def E151_0g:EnvK:=EnvK.of [] noSeq
def E151_0:EnvK:=E151_0g
theorem eo151_0:E151_0.Ok Pg:=EnvK.of_ok noSeq_ok TT
abbrev Tf151_0:Type 1:=(α:Type)->Nat->(Op α)->(Nat->Op α)->Op α
def f151_0g (α:Type)(a:Nat)(k1:Op α)(k2:Nat->Op α):Op α:=
 cK (isNaNb .f64 a)
 (k1)
 (k2 (truncF a))
def f151_0 (α:Type)(a:Nat)(k1:Op α)(k2:Nat->Op α):Op α:=f151_0g α a k1 k2
def pa151_0:PT (List DV):=pA [pV false [(dF .f64)]]
def Fn151_0 (v:Tf151_0)(α:Type)(k:RT α):Nat->Op α:=fun a=>v α a (ur151_0_0 k ) (fun b=>ur151_0_1 k b)
def cm151_0g:MCode:=(emb ac151)
def cm151_0:MCode:=cm151_0g
theorem gm151_0:cm151_0.Good Pg E151_0 sh151:=(emb_good ac151)
theorem em151_0:cm151_0.erase=ac151:=(emb_erase _)
theorem fm151_0g (α:Type)(k:RT α):Fn151_0 (f151_0g ) α k=pa151_0.unc fun ds=>fnM Pg (E151_0g ) sh151 (cm151_0g ) rs151 k ds:=by kernel_rfl
theorem fm151_0:∀ (α:Type) (k:RT α),Fn151_0 f151_0 α k=pa151_0.unc fun ds=>fnM Pg E151_0 sh151 cm151_0 rs151 k ds:=fm151_0g
theorem is151:FnIs Pg 151 nt151 tr151 tl151 ac151 rs151:=codeF_is Tryz.func151 (by kernel_rfl)
theorem io151_0:InstOk Pg 151 nt151 ⟨pa151_0,Fn151_0 f151_0⟩:=inst_ok eo151_0 followsTry is151 ⟨⟨sh151,cm151_0,em151_0,gm151_0,fm151_0⟩⟩
abbrev nt124:Nat:=4
def sh124:SG:=[]
def tr124:TG:=[tT 0 [0],tT 1 [3],tT 2 [2],tT 3 [2]]
def tl124:TG:=[]
def ac124:ACode:=codeF Pg Tryz.f124 tr124 tl124
def rs124:List AResV:=resF Pg Tryz.f124
def pr124_0_0:PT (List RV):=pRs [wI]
def ur124_0_0 {β:Type}(g:List RV->β):Int->β:=pr124_0_0.unc g
def E124_0g:EnvK:=EnvK.of [] noSeq
def E124_0:EnvK:=E124_0g
theorem eo124_0:E124_0.Ok Pg:=EnvK.of_ok noSeq_ok TT
abbrev Tf124_0:Type 1:=(α:Type)->Bool->(Int->Op α)->Op α
def f124_0g (α:Type)(a:Bool)(k1:Int->Op α):Op α:=
 cK a
 (k1 1)
 (k1 0)
def f124_0 (α:Type)(a:Bool)(k1:Int->Op α):Op α:=f124_0g α a k1
def pa124_0:PT (List DV):=pA [pV false [dB]]
def Fn124_0 (v:Tf124_0)(α:Type)(k:RT α):Bool->Op α:=fun a=>v α a (fun b=>ur124_0_0 k b)
def cm124_0g:MCode:=(emb ac124)
def cm124_0:MCode:=cm124_0g
theorem gm124_0:cm124_0.Good Pg E124_0 sh124:=(emb_good ac124)
theorem em124_0:cm124_0.erase=ac124:=(emb_erase _)
theorem fm124_0g (α:Type)(k:RT α):Fn124_0 (f124_0g ) α k=pa124_0.unc fun ds=>fnM Pg (E124_0g ) sh124 (cm124_0g ) rs124 k ds:=by kernel_rfl
theorem fm124_0:∀ (α:Type) (k:RT α),Fn124_0 f124_0 α k=pa124_0.unc fun ds=>fnM Pg E124_0 sh124 cm124_0 rs124 k ds:=fm124_0g
theorem is124:FnIs Pg 124 nt124 tr124 tl124 ac124 rs124:=codeF_is Tryz.func124 (by kernel_rfl)
theorem io124_0:InstOk Pg 124 nt124 ⟨pa124_0,Fn124_0 f124_0⟩:=inst_ok eo124_0 followsTry is124 ⟨⟨sh124,cm124_0,em124_0,gm124_0,fm124_0⟩⟩
abbrev nt63:Nat:=12
def sh63:SG:=[(11,[.cpx .f64,.int .i64])]
def tr63:TG:=[tT 0 [0,2,4,6],tT 1 [0,4,6],tT 2 [0,6]]
def tl63:TG:=[]
def ac63:ACode:=codeF Pg Tryz.f63 tr63 tl63
def rs63:List AResV:=resF Pg Tryz.f63
def pr63_0_0:PT (List RV):=pRs [pR true [rD (dX .f64),rD (dI .i64)],pR true [rD (dI .i64),rD (dI .i64),rD (dI .i64),rD (dI .i64),rD (dI .i64),rD (dI .i64),rD (dI .i64),rD dL,rD (dI .i64),rD (dI .i64)]]
def ur63_0_0 {β:Type}(g:List RV->β):Nat->Nat->Int->Int->Int->Int->Int->Int->Int->Int->Rows->Int->Int->β:=pr63_0_0.unc g
def E63_0g:EnvK:=EnvK.of [] noSeq
def E63_0:EnvK:=E63_0g
theorem eo63_0:E63_0.Ok Pg:=EnvK.of_ok noSeq_ok TT
abbrev Tf63_0:Type 1:=(α:Type)->(Op α)->Op α
def f63_0g (α:Type)(k1:Op α):Op α:=
 k1
def f63_0 (α:Type)(k1:Op α):Op α:=f63_0g α k1
def pa63_0:PT (List DV):=pA [pV false [(dMr [(dI .i64),(dI .i64),(dI .i64),(dI .i64),(dI .i64),(dI .i64),(dI .i64),dL,(dI .i64),(dI .i64)] 0)],pV true [(dX .f64),(dI .i64)],vI]
def Fn63_0 (v:Tf63_0)(α:Type)(k:RT α):Int->Int->Int->Int->Int->Int->Int->Rows->Int->Int->Nat->Nat->Int->Int->Op α:=fun q a b c d e g h i j l m o p=>v α (ur63_0_0 k l m o p a b c d e g h i j)
def cm63_0g:MCode:=(emb ac63)
def cm63_0:MCode:=cm63_0g
theorem gm63_0:cm63_0.Good Pg E63_0 sh63:=(emb_good ac63)
theorem em63_0:cm63_0.erase=ac63:=(emb_erase _)
theorem fm63_0g (α:Type)(k:RT α):Fn63_0 (f63_0g ) α k=pa63_0.unc fun ds=>fnM Pg (E63_0g ) sh63 (cm63_0g ) rs63 k ds:=by kernel_rfl
theorem fm63_0:∀ (α:Type) (k:RT α),Fn63_0 f63_0 α k=pa63_0.unc fun ds=>fnM Pg E63_0 sh63 cm63_0 rs63 k ds:=fm63_0g
theorem is63:FnIs Pg 63 nt63 tr63 tl63 ac63 rs63:=codeF_is Tryz.func63 (by kernel_rfl)
theorem io63_0:InstOk Pg 63 nt63 ⟨pa63_0,Fn63_0 f63_0⟩:=inst_ok eo63_0 followsTry is63 ⟨⟨sh63,cm63_0,em63_0,gm63_0,fm63_0⟩⟩
abbrev nt148:Nat:=10
def sh148:SG:=[(4,iT),(7,iT)]
def tr148:TG:=[tT 0 [1],tT 1 [2]]
def tl148:TG:=[]
def ac148:ACode:=codeF Pg Tryz.f148 tr148 tl148
def rs148:List AResV:=resF Pg Tryz.f148
def pr148_0_0:PT (List RV):=pRs [pR false [rD (dX .f64)]]
def ur148_0_0 {β:Type}(g:List RV->β):Nat->Nat->β:=pr148_0_0.unc g
def E148_0g:EnvK:=EnvK.of [] noSeq
def E148_0:EnvK:=E148_0g
theorem eo148_0:E148_0.Ok Pg:=EnvK.of_ok noSeq_ok TT
abbrev Tf148_0:Type 1:=(α:Type)->Int->Int->(Nat->Nat->Op α)->Op α
def f148_0g (α:Type)(a b:Int)(k1:Nat->Nat->Op α):Op α:=
 k1 (FloatKind.nearest .f64 a) (FloatKind.nearest .f64 b)
def f148_0 (α:Type)(a b:Int)(k1:Nat->Nat->Op α):Op α:=f148_0g α a b k1
def pa148_0:PT (List DV):=pA [pV true [(dI .i64),(dI .i64)]]
def Fn148_0 (v:Tf148_0)(α:Type)(k:RT α):Int->Int->Op α:=fun a b=>v α a b (fun c d=>ur148_0_0 k c d)
def cm148_0g:MCode:=(emb ac148)
def cm148_0:MCode:=cm148_0g
theorem gm148_0:cm148_0.Good Pg E148_0 sh148:=(emb_good ac148)
theorem em148_0:cm148_0.erase=ac148:=(emb_erase _)
theorem fm148_0g (α:Type)(k:RT α):Fn148_0 (f148_0g ) α k=pa148_0.unc fun ds=>fnM Pg (E148_0g ) sh148 (cm148_0g ) rs148 k ds:=by kernel_rfl
theorem fm148_0:∀ (α:Type) (k:RT α),Fn148_0 f148_0 α k=pa148_0.unc fun ds=>fnM Pg E148_0 sh148 cm148_0 rs148 k ds:=fm148_0g
theorem is148:FnIs Pg 148 nt148 tr148 tl148 ac148 rs148:=codeF_is Tryz.func148 (by kernel_rfl)
theorem io148_0:InstOk Pg 148 nt148 ⟨pa148_0,Fn148_0 f148_0⟩:=inst_ok eo148_0 followsTry is148 ⟨⟨sh148,cm148_0,em148_0,gm148_0,fm148_0⟩⟩
abbrev nt68:Nat:=16
def sh68:SG:=[]
def tr68:TG:=[tT 0 [0,1],tT 1 [0,1,5],tT 2 [5,12],tT 3 [5],tT 4 [4]]
def tl68:TG:=[]
def ac68:ACode:=codeF Pg Tryz.f68 tr68 tl68
def rs68:List AResV:=resF Pg Tryz.f68
def pr68_0_0:PT (List RV):=pRs [wI]
def ur68_0_0 {β:Type}(g:List RV->β):Int->β:=pr68_0_0.unc g
def E68_0g:EnvK:=EnvK.of [] noSeq
def E68_0:EnvK:=E68_0g
theorem eo68_0:E68_0.Ok Pg:=EnvK.of_ok noSeq_ok TT
abbrev Tf68_0:Type 1:=(α:Type)->Int->Int->(Int->Op α)->Op α
def f68_0g (α:Type)(b a:Int)(k1:Int->Op α):Op α:=
 gK (a != 0) (gK (a != 0) (cK (decide ((Int.tmod b a) < 0))
 (k1 (w64 ((w64 (Int.tdiv b a)) - 1)))
 (k1 (w64 (Int.tdiv b a)))))
def f68_0 (α:Type)(a b:Int)(k1:Int->Op α):Op α:=f68_0g α a b k1
def pa68_0:PT (List DV):=pA [vI,vI]
def Fn68_0 (v:Tf68_0)(α:Type)(k:RT α):Int->Int->Op α:=fun a b=>v α a b (fun c=>ur68_0_0 k c)
def cm68_0g:MCode:=(emb ac68)
def cm68_0:MCode:=cm68_0g
theorem gm68_0:cm68_0.Good Pg E68_0 sh68:=(emb_good ac68)
theorem em68_0:cm68_0.erase=ac68:=(emb_erase _)
theorem fm68_0g (α:Type)(k:RT α):Fn68_0 (f68_0g ) α k=pa68_0.unc fun ds=>fnM Pg (E68_0g ) sh68 (cm68_0g ) rs68 k ds:=by kernel_rfl
theorem fm68_0:∀ (α:Type) (k:RT α),Fn68_0 f68_0 α k=pa68_0.unc fun ds=>fnM Pg E68_0 sh68 cm68_0 rs68 k ds:=fm68_0g
theorem is68:FnIs Pg 68 nt68 tr68 tl68 ac68 rs68:=codeF_is Tryz.func68 (by kernel_rfl)
theorem io68_0:InstOk Pg 68 nt68 ⟨pa68_0,Fn68_0 f68_0⟩:=inst_ok eo68_0 followsTry is68 ⟨⟨sh68,cm68_0,em68_0,gm68_0,fm68_0⟩⟩
abbrev nt108:Nat:=15
def sh108:SG:=[]
def tr108:TG:=[tT 0 [0,1,2],tT 1 [6]]
def tl108:TG:=[]
def ac108:ACode:=codeF Pg Tryz.f108 tr108 tl108
def rs108:List AResV:=resF Pg Tryz.f108
def pr108_0_0:PT (List RV):=pRs [pR false [rD dB]]
def ur108_0_0 {β:Type}(g:List RV->β):Bool->β:=pr108_0_0.unc g
def E108_0g:EnvK:=EnvK.of [] noSeq
def E108_0:EnvK:=E108_0g
theorem eo108_0:E108_0.Ok Pg:=EnvK.of_ok noSeq_ok TT
abbrev Tf108_0:Type 1:=(α:Type)->Int->Int->Int->(Bool->Op α)->Op α
def f108_0g (α:Type)(a b c:Int)(k1:Bool->Op α):Op α:=
 cK (decide (b<=a))
 (k1 (decide (a<=c)))
 (k1 false)
def f108_0 (α:Type)(a b c:Int)(k1:Bool->Op α):Op α:=f108_0g α a b c k1
def pa108_0:PT (List DV):=pA [vI,vI,vI]
def Fn108_0 (v:Tf108_0)(α:Type)(k:RT α):Int->Int->Int->Op α:=fun a b c=>v α a b c (fun d=>ur108_0_0 k d)
def cm108_0g:MCode:=(emb ac108)
def cm108_0:MCode:=cm108_0g
theorem gm108_0:cm108_0.Good Pg E108_0 sh108:=(emb_good ac108)
theorem em108_0:cm108_0.erase=ac108:=(emb_erase _)
theorem fm108_0g (α:Type)(k:RT α):Fn108_0 (f108_0g ) α k=pa108_0.unc fun ds=>fnM Pg (E108_0g ) sh108 (cm108_0g ) rs108 k ds:=by kernel_rfl
theorem fm108_0:∀ (α:Type) (k:RT α),Fn108_0 f108_0 α k=pa108_0.unc fun ds=>fnM Pg E108_0 sh108 cm108_0 rs108 k ds:=fm108_0g
theorem is108:FnIs Pg 108 nt108 tr108 tl108 ac108 rs108:=codeF_is Tryz.func108 (by kernel_rfl)
theorem io108_0:InstOk Pg 108 nt108 ⟨pa108_0,Fn108_0 f108_0⟩:=inst_ok eo108_0 followsTry is108 ⟨⟨sh108,cm108_0,em108_0,gm108_0,fm108_0⟩⟩
abbrev nt35:Nat:=11
def sh35:SG:=[]
def tr35:TG:=[tT 0 [0,1],tT 1 [4]]
def tl35:TG:=[]
def ac35:ACode:=codeF Pg Tryz.f35 tr35 tl35
def rs35:List AResV:=resF Pg Tryz.f35
def pr35_0_0:PT (List RV):=pRs [wI]
def ur35_0_0 {β:Type}(g:List RV->β):Int->β:=pr35_0_0.unc g
def E35_0g:EnvK:=EnvK.of [] noSeq
def E35_0:EnvK:=E35_0g
theorem eo35_0:E35_0.Ok Pg:=EnvK.of_ok noSeq_ok TT
abbrev Tf35_0:Type 1:=(α:Type)->Int->Int->(Int->Op α)->Op α
def f35_0g (α:Type)(b a:Int)(k1:Int->Op α):Op α:=
 gK (a != 0) (k1 (w64 (Int.tdiv (w64 ((w64 (b+a)) - 1)) a)))
def f35_0 (α:Type)(a b:Int)(k1:Int->Op α):Op α:=f35_0g α a b k1
def pa35_0:PT (List DV):=pA [vI,vI]
def Fn35_0 (v:Tf35_0)(α:Type)(k:RT α):Int->Int->Op α:=fun a b=>v α a b (fun c=>ur35_0_0 k c)
def cm35_0g:MCode:=(emb ac35)
def cm35_0:MCode:=cm35_0g
theorem gm35_0:cm35_0.Good Pg E35_0 sh35:=(emb_good ac35)
theorem em35_0:cm35_0.erase=ac35:=(emb_erase _)
theorem fm35_0g (α:Type)(k:RT α):Fn35_0 (f35_0g ) α k=pa35_0.unc fun ds=>fnM Pg (E35_0g ) sh35 (cm35_0g ) rs35 k ds:=by kernel_rfl
theorem fm35_0:∀ (α:Type) (k:RT α),Fn35_0 f35_0 α k=pa35_0.unc fun ds=>fnM Pg E35_0 sh35 cm35_0 rs35 k ds:=fm35_0g
theorem is35:FnIs Pg 35 nt35 tr35 tl35 ac35 rs35:=codeF_is Tryz.func35 (by kernel_rfl)
theorem io35_0:InstOk Pg 35 nt35 ⟨pa35_0,Fn35_0 f35_0⟩:=inst_ok eo35_0 followsTry is35 ⟨⟨sh35,cm35_0,em35_0,gm35_0,fm35_0⟩⟩
abbrev nt34:Nat:=8
def sh34:SG:=[]
def tr34:TG:=[tT 0 [0,1],tT 1 [4]]
def tl34:TG:=[]
def ac34:ACode:=codeF Pg Tryz.f34 tr34 tl34
def rs34:List AResV:=resF Pg Tryz.f34
def pr34_0_0:PT (List RV):=pRs [wI]
def ur34_0_0 {β:Type}(g:List RV->β):Int->β:=pr34_0_0.unc g
def E34_0g:EnvK:=EnvK.of [] noSeq
def E34_0:EnvK:=E34_0g
theorem eo34_0:E34_0.Ok Pg:=EnvK.of_ok noSeq_ok TT
abbrev Tf34_0:Type 1:=(α:Type)->Int->Int->(Int->Op α)->Op α
def f34_0g (α:Type)(b a:Int)(k1:Int->Op α):Op α:=
 gK (a != 0) (k1 (w64 (Int.tdiv b a)))
def f34_0 (α:Type)(a b:Int)(k1:Int->Op α):Op α:=f34_0g α a b k1
def pa34_0:PT (List DV):=pA [vI,vI]
def Fn34_0 (v:Tf34_0)(α:Type)(k:RT α):Int->Int->Op α:=fun a b=>v α a b (fun c=>ur34_0_0 k c)
def cm34_0g:MCode:=(emb ac34)
def cm34_0:MCode:=cm34_0g
theorem gm34_0:cm34_0.Good Pg E34_0 sh34:=(emb_good ac34)
theorem em34_0:cm34_0.erase=ac34:=(emb_erase _)
theorem fm34_0g (α:Type)(k:RT α):Fn34_0 (f34_0g ) α k=pa34_0.unc fun ds=>fnM Pg (E34_0g ) sh34 (cm34_0g ) rs34 k ds:=by kernel_rfl
theorem fm34_0:∀ (α:Type) (k:RT α),Fn34_0 f34_0 α k=pa34_0.unc fun ds=>fnM Pg E34_0 sh34 cm34_0 rs34 k ds:=fm34_0g
theorem is34:FnIs Pg 34 nt34 tr34 tl34 ac34 rs34:=codeF_is Tryz.func34 (by kernel_rfl)
theorem io34_0:InstOk Pg 34 nt34 ⟨pa34_0,Fn34_0 f34_0⟩:=inst_ok eo34_0 followsTry is34 ⟨⟨sh34,cm34_0,em34_0,gm34_0,fm34_0⟩⟩
abbrev nt62:Nat:=62
def sh62:SG:=[(14,iT),(19,iT),(27,[.sl]),(34,[.sl]),(37,iS 5),(38,iS 5),(40,iS 2),(42,iT),(48,iT),(54,iT),(61,iT)]
def tr62:TG:=[tT 0 [0,1,4],tT 1 [0,1,4,7],tT 2 [0,4,5],tT 3 [0,1,4,21],tT 4 [0,4,6],tT 5 [0,4,5],tT 6 [0,4,5]]
def tl62:TG:=[]
def ac62:ACode:=codeF Pg Tryz.f62 tr62 tl62
def rs62:List AResV:=resF Pg Tryz.f62
def pr62_0_0:PT (List RV):=pRs [pR true [rD (dI .i64),rD (dI .i64)],wI,pR true [rD (dI .i64),rD (dI .i64),rD (dI .i64),rD (dI .i64),rD (dI .i64),rD (dI .i64),rD (dI .i64),rD dL,rD (dI .i64),rD (dI .i64)]]
def ur62_0_0 {β:Type}(g:List RV->β):Int->Int->Int->Int->Int->Int->Int->Int->Int->Int->Rows->Int->Int->β:=pr62_0_0.unc g
def E62_0g:EnvK:=EnvK.of [] noSeq
def E62_0:EnvK:=E62_0g
theorem eo62_0:E62_0.Ok Pg:=EnvK.of_ok noSeq_ok TT
abbrev Tf62_0:Type 1:=(α:Type)->Int->Rows->Int->Int->Int->(Int->Int->Int->Op α)->Op α
def f62_0g (α:Type)(b:Int)(c:Rows)(d e a:Int)(k1:Int->Int->Int->Op α):Op α:=
 cK (a == 0)
 (k1 b b 0)
 (cK (decide (a<=((List.length c:Nat):Int)))
 (rowK c (w64 (a - 1)) [.int .i64,.int .i64,.int .i64,.int .i64,.int .i64]
 (fun g h j l i=>k1 g h i))
 (k1 d d e))
def f62_0 (α:Type)(a:Int)(b:Rows)(c d e:Int)(k1:Int->Int->Int->Op α):Op α:=f62_0g α a b c d e k1
def pa62_0:PT (List DV):=pA [pV false [(dMr [(dI .i64),(dI .i64),(dI .i64),(dI .i64),(dI .i64),(dI .i64),(dI .i64),dL,(dI .i64),(dI .i64)] 0)],vI]
def Fn62_0 (v:Tf62_0)(α:Type)(k:RT α):Int->Int->Int->Int->Int->Int->Int->Rows->Int->Int->Int->Op α:=fun e a g h i j l b c d m=>v α a b c d m (fun o p q=>ur62_0_0 k o p q e a g h i j l b c d)
def cm62_0g:MCode:=(emb ac62)
def cm62_0:MCode:=cm62_0g
theorem gm62_0:cm62_0.Good Pg E62_0 sh62:=(emb_good ac62)
theorem em62_0:cm62_0.erase=ac62:=(emb_erase _)
theorem fm62_0g (α:Type)(k:RT α):Fn62_0 (f62_0g ) α k=pa62_0.unc fun ds=>fnM Pg (E62_0g ) sh62 (cm62_0g ) rs62 k ds:=by kernel_rfl
theorem fm62_0:∀ (α:Type) (k:RT α),Fn62_0 f62_0 α k=pa62_0.unc fun ds=>fnM Pg E62_0 sh62 cm62_0 rs62 k ds:=fm62_0g
theorem is62:FnIs Pg 62 nt62 tr62 tl62 ac62 rs62:=codeF_is Tryz.func62 (by kernel_rfl)
theorem io62_0:InstOk Pg 62 nt62 ⟨pa62_0,Fn62_0 f62_0⟩:=inst_ok eo62_0 followsTry is62 ⟨⟨sh62,cm62_0,em62_0,gm62_0,fm62_0⟩⟩
abbrev nt81:Nat:=15
def sh81:SG:=[]
def tr81:TG:=[tT 0 [0,1,2],tT 1 [6]]
def tl81:TG:=[]
def ac81:ACode:=codeF Pg Tryz.f81 tr81 tl81
def rs81:List AResV:=resF Pg Tryz.f81
def pr81_0_0:PT (List RV):=pRs [pR false [rD dB]]
def ur81_0_0 {β:Type}(g:List RV->β):Bool->β:=pr81_0_0.unc g
def E81_0g:EnvK:=EnvK.of [] noSeq
def E81_0:EnvK:=E81_0g
theorem eo81_0:E81_0.Ok Pg:=EnvK.of_ok noSeq_ok TT
abbrev Tf81_0:Type 1:=(α:Type)->Int->Int->Int->(Bool->Op α)->Op α
def f81_0g (α:Type)(a b c:Int)(k1:Bool->Op α):Op α:=
 cK (decide (b<=a))
 (k1 (decide (a<=c)))
 (k1 false)
def f81_0 (α:Type)(a b c:Int)(k1:Bool->Op α):Op α:=f81_0g α a b c k1
def pa81_0:PT (List DV):=pA [vI,vI,vI]
def Fn81_0 (v:Tf81_0)(α:Type)(k:RT α):Int->Int->Int->Op α:=fun a b c=>v α a b c (fun d=>ur81_0_0 k d)
def cm81_0g:MCode:=(emb ac81)
def cm81_0:MCode:=cm81_0g
theorem gm81_0:cm81_0.Good Pg E81_0 sh81:=(emb_good ac81)
theorem em81_0:cm81_0.erase=ac81:=(emb_erase _)
theorem fm81_0g (α:Type)(k:RT α):Fn81_0 (f81_0g ) α k=pa81_0.unc fun ds=>fnM Pg (E81_0g ) sh81 (cm81_0g ) rs81 k ds:=by kernel_rfl
theorem fm81_0:∀ (α:Type) (k:RT α),Fn81_0 f81_0 α k=pa81_0.unc fun ds=>fnM Pg E81_0 sh81 cm81_0 rs81 k ds:=fm81_0g
theorem is81:FnIs Pg 81 nt81 tr81 tl81 ac81 rs81:=codeF_is Tryz.func81 (by kernel_rfl)
theorem io81_0:InstOk Pg 81 nt81 ⟨pa81_0,Fn81_0 f81_0⟩:=inst_ok eo81_0 followsTry is81 ⟨⟨sh81,cm81_0,em81_0,gm81_0,fm81_0⟩⟩
abbrev nt52:Nat:=20
def sh52:SG:=[(8,iT),(10,iS 2),(12,iT),(14,iS 2),(16,[.sl]),(18,iS 2)]
def tr52:TG:=[(0,⟨[3,4,5,6],true,[⟨true,6,6,30606,5⟩],[]⟩),(1,⟨[6],true,[⟨true,6,6,30606,5⟩],[]⟩)]
def tl52:TG:=[]
def ac52:ACode:=codeF Pg Tryz.f52 tr52 tl52
def rs52:List AResV:=resF Pg Tryz.f52
def pr52_0_0:PT (List RV):=pRs [pR true [rD (dI .i64),rD (dI .i64),rD (dI .i64),rD (dI .i64),rD (dI .i64),rD (dI .i64),rD dL,rD (dI .i64),rD (dI .i64)]]
def ur52_0_0 {β:Type}(g:List RV->β):Int->Int->Int->Int->Int->Int->Rows->Int->Int->β:=pr52_0_0.unc g
def E52_0g:EnvK:=EnvK.of [] noSeq
def E52_0:EnvK:=E52_0g
theorem eo52_0:E52_0.Ok Pg:=EnvK.of_ok noSeq_ok TT
abbrev Tf52_0:Type 1:=(α:Type)->(Op α)->Op α
def f52_0g (α:Type)(k1:Op α):Op α:=
 k1
def f52_0 (α:Type)(k1:Op α):Op α:=f52_0g α k1
def pa52_0:PT (List DV):=pA [pV true [dL,dL,(dI .i64),(dI .i64)],pV true [(dI .i64),(dI .i64),(dI .i64),(dI .i64),(dI .i64),(dI .i64),(dI .i64),(dI .i64),(dI .i64)],pV true [(dI .i64),(dI .i64),(dI .i64),(dI .i64)]]
def Fn52_0 (v:Tf52_0)(α:Type)(k:RT α):Rows->Rows->I15 (Op α):=fun l a b c m d e o p q r s t g h i j=>v α (ur52_0_0 k e i j d g h a b c)
def cm52_0g:MCode:=(emb ac52)
def cm52_0:MCode:=cm52_0g
theorem gm52_0:cm52_0.Good Pg E52_0 sh52:=(emb_good ac52)
theorem em52_0:cm52_0.erase=ac52:=(emb_erase _)
theorem fm52_0g (α:Type)(k:RT α):Fn52_0 (f52_0g ) α k=pa52_0.unc fun ds=>fnM Pg (E52_0g ) sh52 (cm52_0g ) rs52 k ds:=by kernel_rfl
theorem fm52_0:∀ (α:Type) (k:RT α),Fn52_0 f52_0 α k=pa52_0.unc fun ds=>fnM Pg E52_0 sh52 cm52_0 rs52 k ds:=fm52_0g
theorem is52:FnIs Pg 52 nt52 tr52 tl52 ac52 rs52:=codeF_is Tryz.func52 (by kernel_rfl)
theorem io52_0:InstOk Pg 52 nt52 ⟨pa52_0,Fn52_0 f52_0⟩:=inst_ok eo52_0 followsTry is52 ⟨⟨sh52,cm52_0,em52_0,gm52_0,fm52_0⟩⟩
abbrev nt22:Nat:=8
def sh22:SG:=[(4,iS 2),(6,iS 2)]
def tr22:TG:=[tT 0 [1,2],tT 1 [2]]
def tl22:TG:=[]
def ac22:ACode:=codeF Pg Tryz.f22 tr22 tl22
def rs22:List AResV:=resF Pg Tryz.f22
def pr22_0_0:PT (List RV):=pRs [pR true [rD (dI .i64),rD (dI .i64),rD (dI .i64),rD (dI .i64)]]
def ur22_0_0 {β:Type}(g:List RV->β):I4 β:=pr22_0_0.unc g
def E22_0g:EnvK:=EnvK.of [] noSeq
def E22_0:EnvK:=E22_0g
theorem eo22_0:E22_0.Ok Pg:=EnvK.of_ok noSeq_ok TT
abbrev Tf22_0:Type 1:=(α:Type)->(Op α)->Op α
def f22_0g (α:Type)(k1:Op α):Op α:=
 k1
def f22_0 (α:Type)(k1:Op α):Op α:=f22_0g α k1
def pa22_0:PT (List DV):=pA [pV true [(dI .i64),(dI .i64),(dI .i64),(dI .i64),(dI .i64),(dI .i64),(dI .i64),(dI .i64),(dI .i64)]]
def Fn22_0 (v:Tf22_0)(α:Type)(k:RT α):I9 (Op α):=fun e g h a b c d i j=>v α (ur22_0_0 k c d a b)
def cm22_0g:MCode:=(emb ac22)
def cm22_0:MCode:=cm22_0g
theorem gm22_0:cm22_0.Good Pg E22_0 sh22:=(emb_good ac22)
theorem em22_0:cm22_0.erase=ac22:=(emb_erase _)
theorem fm22_0g (α:Type)(k:RT α):Fn22_0 (f22_0g ) α k=pa22_0.unc fun ds=>fnM Pg (E22_0g ) sh22 (cm22_0g ) rs22 k ds:=by kernel_rfl
theorem fm22_0:∀ (α:Type) (k:RT α),Fn22_0 f22_0 α k=pa22_0.unc fun ds=>fnM Pg E22_0 sh22 cm22_0 rs22 k ds:=fm22_0g
theorem is22:FnIs Pg 22 nt22 tr22 tl22 ac22 rs22:=codeF_is Tryz.func22 (by kernel_rfl)
theorem io22_0:InstOk Pg 22 nt22 ⟨pa22_0,Fn22_0 f22_0⟩:=inst_ok eo22_0 followsTry is22 ⟨⟨sh22,cm22_0,em22_0,gm22_0,fm22_0⟩⟩
abbrev nt20:Nat:=15
def sh20:SG:=[]
def tr20:TG:=[tT 0 [0,1,2],tT 1 [6]]
def tl20:TG:=[]
def ac20:ACode:=codeF Pg Tryz.f20 tr20 tl20
def rs20:List AResV:=resF Pg Tryz.f20
def pr20_0_0:PT (List RV):=pRs [pR false [rD dB]]
def ur20_0_0 {β:Type}(g:List RV->β):Bool->β:=pr20_0_0.unc g
def E20_0g:EnvK:=EnvK.of [] noSeq
def E20_0:EnvK:=E20_0g
theorem eo20_0:E20_0.Ok Pg:=EnvK.of_ok noSeq_ok TT
abbrev Tf20_0:Type 1:=(α:Type)->Int->Int->Int->(Bool->Op α)->Op α
def f20_0g (α:Type)(a b c:Int)(k1:Bool->Op α):Op α:=
 cK (decide (b<=a))
 (k1 (decide (a<=c)))
 (k1 false)
def f20_0 (α:Type)(a b c:Int)(k1:Bool->Op α):Op α:=f20_0g α a b c k1
def pa20_0:PT (List DV):=pA [vI,vI,vI]
def Fn20_0 (v:Tf20_0)(α:Type)(k:RT α):Int->Int->Int->Op α:=fun a b c=>v α a b c (fun d=>ur20_0_0 k d)
def cm20_0g:MCode:=(emb ac20)
def cm20_0:MCode:=cm20_0g
theorem gm20_0:cm20_0.Good Pg E20_0 sh20:=(emb_good ac20)
theorem em20_0:cm20_0.erase=ac20:=(emb_erase _)
theorem fm20_0g (α:Type)(k:RT α):Fn20_0 (f20_0g ) α k=pa20_0.unc fun ds=>fnM Pg (E20_0g ) sh20 (cm20_0g ) rs20 k ds:=by kernel_rfl
theorem fm20_0:∀ (α:Type) (k:RT α),Fn20_0 f20_0 α k=pa20_0.unc fun ds=>fnM Pg E20_0 sh20 cm20_0 rs20 k ds:=fm20_0g
theorem is20:FnIs Pg 20 nt20 tr20 tl20 ac20 rs20:=codeF_is Tryz.func20 (by kernel_rfl)
theorem io20_0:InstOk Pg 20 nt20 ⟨pa20_0,Fn20_0 f20_0⟩:=inst_ok eo20_0 followsTry is20 ⟨⟨sh20,cm20_0,em20_0,gm20_0,fm20_0⟩⟩
abbrev nt25:Nat:=6
def sh25:SG:=[]
def tr25:TG:=[tT 0 [0],(1,⟨[2],true,[⟨false,2,0,20002,5⟩],[]⟩)]
def tl25:TG:=[]
def ac25:ACode:=codeF Pg Tryz.f25 tr25 tl25
def rs25:List AResV:=resF Pg Tryz.f25
def pr25_0_0:PT (List RV):=pRs [pR false [rO 5]]
def ur25_0_0 {β:Type}(g:List RV->β):Rows->β:=pr25_0_0.unc g
def E25_0g:EnvK:=EnvK.of [] noSeq
def E25_0:EnvK:=E25_0g
theorem eo25_0:E25_0.Ok Pg:=EnvK.of_ok noSeq_ok TT
abbrev Tf25_0:Type 1:=(α:Type)->Rows->(Rows->Op α)->Op α
def f25_0g (α:Type)(a:Rows)(k1:Rows->Op α):Op α:=
 gK (apOk 5 40 ([]:Rows) a) (k1 (([]:Rows)++a))
def f25_0 (α:Type)(a:Rows)(k1:Rows->Op α):Op α:=f25_0g α a k1
def pa25_0:PT (List DV):=pA [pV false [dL]]
def Fn25_0 (v:Tf25_0)(α:Type)(k:RT α):Rows->Op α:=fun a=>v α a (fun b=>ur25_0_0 k b)
def cm25_0g:MCode:=(emb ac25)
def cm25_0:MCode:=cm25_0g
theorem gm25_0:cm25_0.Good Pg E25_0 sh25:=(emb_good ac25)
theorem em25_0:cm25_0.erase=ac25:=(emb_erase _)
theorem fm25_0g (α:Type)(k:RT α):Fn25_0 (f25_0g ) α k=pa25_0.unc fun ds=>fnM Pg (E25_0g ) sh25 (cm25_0g ) rs25 k ds:=by kernel_rfl
theorem fm25_0:∀ (α:Type) (k:RT α),Fn25_0 f25_0 α k=pa25_0.unc fun ds=>fnM Pg E25_0 sh25 cm25_0 rs25 k ds:=fm25_0g
theorem is25:FnIs Pg 25 nt25 tr25 tl25 ac25 rs25:=codeF_is Tryz.func25 (by kernel_rfl)
theorem io25_0:InstOk Pg 25 nt25 ⟨pa25_0,Fn25_0 f25_0⟩:=inst_ok eo25_0 followsTry is25 ⟨⟨sh25,cm25_0,em25_0,gm25_0,fm25_0⟩⟩
abbrev nt5:Nat:=37
def sh5:SG:=[(4,[.sl]),(9,[.sl]),(14,[.sl]),(21,[.sl]),(26,[.sl]),(31,[.sl])]
def tr5:TG:=[tT 0 [1],tT 1 [2]]
def tl5:TG:=[]
def ac5:ACode:=codeF Pg Tryz.f5 tr5 tl5
def rs5:List AResV:=resF Pg Tryz.f5
def pr5_0_0:PT (List RV):=pRs [pR false [rD dB]]
def ur5_0_0 {β:Type}(g:List RV->β):Bool->β:=pr5_0_0.unc g
def E5_0g:EnvK:=EnvK.of [] noSeq
def E5_0:EnvK:=E5_0g
theorem eo5_0:E5_0.Ok Pg:=EnvK.of_ok noSeq_ok TT
abbrev Tf5_0:Type 1:=(α:Type)->Rows->Rows->(Bool->Op α)->Op α
def f5_0g (α:Type)(b a:Rows)(k1:Bool->Op α):Op α:=
 cK (decide (((List.length b:Nat):Int)<=2))
 (cK (decide (((List.length a:Nat):Int)<=3))
 (k1 true)
 (cK (decide (40 < ((List.length a:Nat):Int)))
 (k1 (decide (((List.length a:Nat):Int)<=42)))
 (k1 false)))
 (cK (decide (8 < ((List.length b:Nat):Int)))
 (cK (decide (((List.length b:Nat):Int)<=10))
 (cK (decide (((List.length a:Nat):Int)<=3))
 (k1 true)
 (cK (decide (40 < ((List.length a:Nat):Int)))
 (k1 (decide (((List.length a:Nat):Int)<=42)))
 (k1 false)))
 (k1 false))
 (k1 false))
def f5_0 (α:Type)(a b:Rows)(k1:Bool->Op α):Op α:=f5_0g α a b k1
def pa5_0:PT (List DV):=pA [pV true [dL,dL,(dI .i64),(dI .i64)]]
def Fn5_0 (v:Tf5_0)(α:Type)(k:RT α):Rows->Rows->Int->Int->Op α:=fun a b d e=>v α a b (fun c=>ur5_0_0 k c)
def cm5_0g:MCode:=(emb ac5)
def cm5_0:MCode:=cm5_0g
theorem gm5_0:cm5_0.Good Pg E5_0 sh5:=(emb_good ac5)
theorem em5_0:cm5_0.erase=ac5:=(emb_erase _)
theorem fm5_0g (α:Type)(k:RT α):Fn5_0 (f5_0g ) α k=pa5_0.unc fun ds=>fnM Pg (E5_0g ) sh5 (cm5_0g ) rs5 k ds:=by kernel_rfl
theorem fm5_0:∀ (α:Type) (k:RT α),Fn5_0 f5_0 α k=pa5_0.unc fun ds=>fnM Pg E5_0 sh5 cm5_0 rs5 k ds:=fm5_0g
theorem is5:FnIs Pg 5 nt5 tr5 tl5 ac5 rs5:=codeF_is Tryz.func5 (by kernel_rfl)
theorem io5_0:InstOk Pg 5 nt5 ⟨pa5_0,Fn5_0 f5_0⟩:=inst_ok eo5_0 followsTry is5 ⟨⟨sh5,cm5_0,em5_0,gm5_0,fm5_0⟩⟩
abbrev nt77:Nat:=15
def sh77:SG:=[(4,iS 2),(7,iT),(12,iT)]
def tr77:TG:=[tT 0 [1,2],tT 1 [1,2,3],tT 2 [2]]
def tl77:TG:=[]
def ac77:ACode:=codeF Pg Tryz.f77 tr77 tl77
def rs77:List AResV:=resF Pg Tryz.f77
def pr77_0_0:PT (List RV):=pRs [pR true [rD (dI .i64),rD (dI .i64),rD (dI .i64),rD (dI .i64)]]
def ur77_0_0 {β:Type}(g:List RV->β):I4 β:=pr77_0_0.unc g
def E77_0g (a:Tf111_0):EnvK:=EnvK.of [⟨111,nt111,[⟨pa111_0,Fn111_0 a⟩]⟩] noSeq
def E77_0:EnvK:=E77_0g f111_0
theorem eo77_0:E77_0.Ok Pg:=EnvK.of_ok noSeq_ok ⟨⟨io111_0,TT⟩,TT⟩
abbrev Tf77_0:Type 1:=(α:Type)->Int->Int->(Int->Int->Op α)->Op α
def f77_0g (b:Tf111_0)(α:Type)(c d:Int)(k1:Int->Int->Op α):Op α:=
 b α c d
 (fun a=>k1 a a)
def f77_0 (α:Type)(a b:Int)(k1:Int->Int->Op α):Op α:=f77_0g f111_0 α a b k1
def pa77_0:PT (List DV):=pA [pV true [(dI .i64),(dI .i64)]]
def Fn77_0 (v:Tf77_0)(α:Type)(k:RT α):Int->Int->Op α:=fun a b=>v α a b (fun c d=>ur77_0_0 k a c d b)
def cm77_0g:MCode:=(emb ac77)
def cm77_0:MCode:=cm77_0g
theorem gm77_0:cm77_0.Good Pg E77_0 sh77:=(emb_good ac77)
theorem em77_0:cm77_0.erase=ac77:=(emb_erase _)
theorem fm77_0g (a:Tf111_0)(α:Type)(k:RT α):Fn77_0 (f77_0g a) α k=pa77_0.unc fun ds=>fnM Pg (E77_0g a) sh77 (cm77_0g ) rs77 k ds:=by kernel_rfl
theorem fm77_0:∀ (α:Type) (k:RT α),Fn77_0 f77_0 α k=pa77_0.unc fun ds=>fnM Pg E77_0 sh77 cm77_0 rs77 k ds:=fm77_0g f111_0
theorem is77:FnIs Pg 77 nt77 tr77 tl77 ac77 rs77:=codeF_is Tryz.func77 (by kernel_rfl)
theorem io77_0:InstOk Pg 77 nt77 ⟨pa77_0,Fn77_0 f77_0⟩:=inst_ok eo77_0 followsTry is77 ⟨⟨sh77,cm77_0,em77_0,gm77_0,fm77_0⟩⟩
abbrev nt13:Nat:=10
def sh13:SG:=[]
def tr13:TG:=[tT 0 [0,1],tT 1 [4]]
def tl13:TG:=[]
def ac13:ACode:=codeF Pg Tryz.f13 tr13 tl13
def rs13:List AResV:=resF Pg Tryz.f13
def pr13_0_0:PT (List RV):=pRs [wI]
def ur13_0_0 {β:Type}(g:List RV->β):Int->β:=pr13_0_0.unc g
def E13_0g (a:Tf12_0):EnvK:=EnvK.of [⟨12,nt12,[⟨pa12_0,Fn12_0 a⟩]⟩] noSeq
def E13_0:EnvK:=E13_0g f12_0
theorem eo13_0:E13_0.Ok Pg:=EnvK.of_ok noSeq_ok ⟨⟨io12_0,TT⟩,TT⟩
abbrev Tf13_0:Type 1:=(α:Type)->Int->Int->(Int->Op α)->Op α
def f13_0g (a:Tf12_0)(α:Type)(b c:Int)(k1:Int->Op α):Op α:=
 a α (w64 (0 - b)) c
 (fun d=>k1 (w64 (0 - d)))
def f13_0 (α:Type)(a b:Int)(k1:Int->Op α):Op α:=f13_0g f12_0 α a b k1
def pa13_0:PT (List DV):=pA [vI,vI]
def Fn13_0 (v:Tf13_0)(α:Type)(k:RT α):Int->Int->Op α:=fun a b=>v α a b (fun c=>ur13_0_0 k c)
def cm13_0g:MCode:=(emb ac13)
def cm13_0:MCode:=cm13_0g
theorem gm13_0:cm13_0.Good Pg E13_0 sh13:=(emb_good ac13)
theorem em13_0:cm13_0.erase=ac13:=(emb_erase _)
theorem fm13_0g (a:Tf12_0)(α:Type)(k:RT α):Fn13_0 (f13_0g a) α k=pa13_0.unc fun ds=>fnM Pg (E13_0g a) sh13 (cm13_0g ) rs13 k ds:=by kernel_rfl
theorem fm13_0:∀ (α:Type) (k:RT α),Fn13_0 f13_0 α k=pa13_0.unc fun ds=>fnM Pg E13_0 sh13 cm13_0 rs13 k ds:=fm13_0g f12_0
theorem is13:FnIs Pg 13 nt13 tr13 tl13 ac13 rs13:=codeF_is Tryz.func13 (by kernel_rfl)
theorem io13_0:InstOk Pg 13 nt13 ⟨pa13_0,Fn13_0 f13_0⟩:=inst_ok eo13_0 followsTry is13 ⟨⟨sh13,cm13_0,em13_0,gm13_0,fm13_0⟩⟩
abbrev nt9:Nat:=8
def sh9:SG:=[(4,[.sl]),(7,[.int .i64,.int .i64,.int .i64,.int .i64,.int .i64,.int .i64,.sl,.int .i64,.int .i64])]
def tr9:TG:=[(0,⟨[1,2],true,[⟨true,2,6,30206,5⟩],[]⟩),(1,⟨[1,2],true,[⟨true,2,6,30206,5⟩],[]⟩),(2,⟨[2],true,[⟨true,2,6,30206,5⟩],[]⟩)]
def tl9:TG:=[]
def ac9:ACode:=codeF Pg Tryz.f9 tr9 tl9
def rs9:List AResV:=resF Pg Tryz.f9
def pr9_0_0:PT (List RV):=pRs [pR true [rD (dI .i64),rD (dI .i64),rD (dI .i64),rD (dI .i64),rD (dI .i64),rD (dI .i64),rO 5,rD (dI .i64),rD (dI .i64)]]
def ur9_0_0 {β:Type}(g:List RV->β):Int->Int->Int->Int->Int->Int->Rows->Int->Int->β:=pr9_0_0.unc g
def E9_0g (a:Tf25_0):EnvK:=EnvK.of [⟨25,nt25,[⟨pa25_0,Fn25_0 a⟩]⟩] noSeq
def E9_0:EnvK:=E9_0g f25_0
theorem eo9_0:E9_0.Ok Pg:=EnvK.of_ok noSeq_ok ⟨⟨io25_0,TT⟩,TT⟩
abbrev Tf9_0:Type 1:=(α:Type)->Rows->(Rows->Op α)->Op α
def f9_0g (a:Tf25_0)(α:Type)(b:Rows)(k1:Rows->Op α):Op α:=
 a α b
 (fun c=>k1 c)
def f9_0 (α:Type)(a:Rows)(k1:Rows->Op α):Op α:=f9_0g f25_0 α a k1
def pa9_0:PT (List DV):=pA [pV true [(dI .i64),(dI .i64),(dI .i64),(dI .i64),(dI .i64),(dI .i64),dL,(dI .i64),(dI .i64)]]
def Fn9_0 (v:Tf9_0)(α:Type)(k:RT α):Int->Int->Int->Int->Int->Int->Rows->Int->Int->Op α:=fun a b c d e g h i j=>v α h (fun l=>ur9_0_0 k a b c d e g l i j)
def cm9_0g:MCode:=(emb ac9)
def cm9_0:MCode:=cm9_0g
theorem gm9_0:cm9_0.Good Pg E9_0 sh9:=(emb_good ac9)
theorem em9_0:cm9_0.erase=ac9:=(emb_erase _)
theorem fm9_0g (a:Tf25_0)(α:Type)(k:RT α):Fn9_0 (f9_0g a) α k=pa9_0.unc fun ds=>fnM Pg (E9_0g a) sh9 (cm9_0g ) rs9 k ds:=by kernel_rfl
theorem fm9_0:∀ (α:Type) (k:RT α),Fn9_0 f9_0 α k=pa9_0.unc fun ds=>fnM Pg E9_0 sh9 cm9_0 rs9 k ds:=fm9_0g f25_0
theorem is9:FnIs Pg 9 nt9 tr9 tl9 ac9 rs9:=codeF_is Tryz.func9 (by kernel_rfl)
theorem io9_0:InstOk Pg 9 nt9 ⟨pa9_0,Fn9_0 f9_0⟩:=inst_ok eo9_0 followsTry is9 ⟨⟨sh9,cm9_0,em9_0,gm9_0,fm9_0⟩⟩
abbrev nt36:Nat:=25
def sh36:SG:=[(10,[.sl])]
def tr36:TG:=[tT 0 [0],tT 1 [0,12,13],tT 2 [0,12,13,14],tT 3 [0,3,12,13],tT 4 [0,5,12,13],tT 5 [0,12,13,23],tT 6 [0,2],tT 7 [0,12,13],tT 8 [0,2]]
def tl36:TG:=[tT 2 [0,12,13]]
def ac36:ACode:=codeF Pg Tryz.f36 tr36 tl36
def rs36:List AResV:=resF Pg Tryz.f36
def td36_7:OT:=tdC (MCode.sub [1,0,1,0] (emb ac36))
def p36_0_0:PT St:=pSv [(0,500000000,0)] [sl 0 (aV false [(cPtr 500000000 0)]),sI 12,sI 13] [eBox 500000000 [xI,xI,xI,xI,xI,xI,xI,(cD dL),xI,xI]]
def u36_0_0 {β:Type}(g:St->β):Int->Int->Int->Int->Int->Int->Int->Int->Int->Rows->Int->Int->β:=p36_0_0.unc g
def p36_0_1:PT St:=pSv [(0,500000000,0)] [sl 0 (aV false [(cPtr 500000000 0)]),sY 2 dB] [eBox 500000000 [xI,xI,xI,xI,xI,xI,xI,(cD dL),xI,xI]]
def u36_0_1 {β:Type}(g:St->β):Bool->Int->Int->Int->Int->Int->Int->Int->Rows->Int->Int->β:=p36_0_1.unc g
def p36_0_2:PT St:=pSv [(0,500000000,0)] [sl 0 (aV false [(cPtr 500000000 0)]),sI 12,sI 13,sY 14 dB] [eBox 500000000 [xI,xI,xI,xI,xI,xI,xI,(cD dL),xI,xI]]
def u36_0_2 {β:Type}(g:St->β):Int->Int->Bool->Int->Int->Int->Int->Int->Int->Int->Rows->Int->Int->β:=p36_0_2.unc g
def pr36_0_0:PT (List RV):=pRs [pR false [rD dB],pR true [rD (dI .i64),rD (dI .i64),rD (dI .i64),rD (dI .i64),rD (dI .i64),rD (dI .i64),rD (dI .i64),rD dL,rD (dI .i64),rD (dI .i64)]]
def ur36_0_0 {β:Type}(g:List RV->β):Bool->Int->Int->Int->Int->Int->Int->Int->Rows->Int->Int->β:=pr36_0_0.unc g
def E36_0g (a:Tf62_0):EnvK:=EnvK.ofIO [⟨62,nt62,[⟨pa62_0,Fn62_0 a⟩]⟩] noSeq [(62,[0])]
def E36_0:EnvK:=E36_0g f62_0
theorem eo36_0:E36_0.Ok Pg:=EnvK.ofIO_ok noSeq_ok ⟨⟨io62_0,TT⟩,TT⟩
def c36_0_7g:MCode:=MCode.sub [1,0,1,0,0] (emb ac36)
def c36_0_7:MCode:=c36_0_7g
def S36_0_0g (c:Tf62_0)(α:Type)(b d:Int)(e:Rows)(g h a:Int)(kn:Int->Op α)(k1:Op α)(k2:Int->Bool->Op α):Op α:=
 cK (decide (a < b))
 (c α d e g h a
 (fun j l i=>cK (i != 0)
 (k1)
 (kn (w64 (a+1)))))
 (k2 a (decide (a < b)))
def S36_0_0 (α:Type)(a b:Int)(c:Rows)(d e g:Int)(kn:Int->Op α)(k1:Op α)(k2:Int->Bool->Op α):Op α:=S36_0_0g f62_0 α a b c d e g kn k1 k2
def R36_0_0 (α:Type)(a b:Int)(c:Rows)(d e:Int)(k1:Op α)(k2:Int->Bool->Op α):Nat->Int->Op α
 | 0,_=>none
 | n+1,g=>S36_0_0 α a b c d e g (R36_0_0 α a b c d e k1 k2 n) k1 k2
def L36_0_0 (α:Type)(a b:Int)(c:Rows)(d e:Int)(k1:Op α)(k2:Int->Bool->Op α)(g:Int):Op α:=R36_0_0 α a b c d e k1 k2 fuel g
abbrev TL36_0_0:Type 1:=(α:Type)->Int->Int->Rows->Int->Int->(Op α)->(Int->Bool->Op α)->Int->Op α
def F36_0_0 (v:TL36_0_0)(α:Type)(K:KT α):Int->Int->Int->Int->Int->Int->Int->Int->Int->Rows->Int->Int->Op α:=fun e o g a h i j l m b c d=>v α e a b c d (u36_0_1 (K .ret) true g a h i j l m b c d) (fun p q=>u36_0_2 (K (.exit 0)) e p q g a h i j l m b c d) o
theorem r36_0_0g (p:Tf62_0)(α:Type)(K:KT α)(Kn:SK α)(e g h a i j l m o:Int)(b:Rows)(c d:Int):u36_0_0 (fun σ=>runM Pg (E36_0g p) sh36 (c36_0_7g ) (thenK (fun σ=>tidyK td36_7 σ Kn) K) σ) e g h a i j l m o b c d=S36_0_0g p α e a b c d g (fun g=>u36_0_0 Kn e g h a i j l m o b c d) (u36_0_1 (K .ret) true h a i j l m o b c d) (fun q r=>u36_0_2 (K (.exit 0)) e q r h a i j l m o b c d):=by kernel_rfl
theorem r36_0_0 (α:Type)(K:KT α)(Kn:SK α)(e g h a i j l m o:Int)(b:Rows)(c d:Int):u36_0_0 (fun σ=>runM Pg E36_0 sh36 c36_0_7 (thenK (fun σ=>tidyK td36_7 σ Kn) K) σ) e g h a i j l m o b c d=S36_0_0 α e a b c d g (fun g=>u36_0_0 Kn e g h a i j l m o b c d) (u36_0_1 (K .ret) true h a i j l m o b c d) (fun p q=>u36_0_2 (K (.exit 0)) e p q h a i j l m o b c d):=r36_0_0g f62_0 α K Kn e g h a i j l m o b c d
theorem t36_0_0 (α:Type)(K:KT α):∀ (n:Nat) (e o g a h i j l m:Int) (b:Rows) (c d:Int),R36_0_0 α e a b c d (u36_0_1 (K .ret) true g a h i j l m b c d) (fun p q=>u36_0_2 (K (.exit 0)) e p q g a h i j l m b c d) n o=u36_0_0 (loopT (runM Pg E36_0 sh36 c36_0_7) td36_7 K n) e o g a h i j l m b c d:=by
 intro n
 induction n with
 | zero=>intros;rfl
 | succ n ih=>intro e o g a h i j l m b c d;exact (congrArg (fun kn=>S36_0_0 α e a b c d o kn (u36_0_1 (K .ret) true g a h i j l m b c d) (fun p q=>u36_0_2 (K (.exit 0)) e p q g a h i j l m b c d)) (funext fun o=>ih e o g a h i j l m b c d)).trans (r36_0_0 α K (loopT (runM Pg E36_0 sh36 c36_0_7) td36_7 K n) e o g a h i j l m b c d).symm
theorem m36_0_0:∀ (α:Type) (K:KT α),F36_0_0 L36_0_0 α K=p36_0_0.unc fun σ=>loopT (runM Pg E36_0 sh36 c36_0_7) td36_7 K fuel σ:=fun α K=>by funext a b c d e g h i j l m o;exact t36_0_0 α K fuel a b c d e g h i j l m o
abbrev Tf36_0:Type 1:=(α:Type)->Int->Rows->Int->Int->(Bool->Op α)->Op α
def f36_0g (b:TL36_0_0)(α:Type)(c:Int)(a:Rows)(d e:Int)(k1:Bool->Op α):Op α:=
 b α (w64 (((List.length a:Nat):Int)+2)) c a d e
 (k1 true)
 (fun g h=>k1 false) 0
def f36_0 (α:Type)(a:Int)(b:Rows)(c d:Int)(k1:Bool->Op α):Op α:=f36_0g L36_0_0 α a b c d k1
def pa36_0:PT (List DV):=pA [pV false [(dMr [(dI .i64),(dI .i64),(dI .i64),(dI .i64),(dI .i64),(dI .i64),(dI .i64),dL,(dI .i64),(dI .i64)] 0)]]
def Fn36_0 (v:Tf36_0)(α:Type)(k:RT α):Int->Int->Int->Int->Int->Int->Int->Rows->Int->Int->Op α:=fun e a g h i j l b c d=>v α a b c d (fun m=>ur36_0_0 k m e a g h i j l b c d)
def cm36_0g (a:TL36_0_0):MCode:=(MCode.put (.m [⟨p36_0_0,F36_0_0 a⟩]) [1,0,1,0] (emb ac36))
def cm36_0:MCode:=cm36_0g L36_0_0
theorem gm36_0:cm36_0.Good Pg E36_0 sh36:=(put_loop (td:=td36_7) (by kernel_rfl) (emb_good ac36) ⟨m36_0_0,TT⟩)
theorem em36_0:cm36_0.erase=ac36:=((put_erase _ _).trans (emb_erase _))
theorem fm36_0g (b:Tf62_0)(a:TL36_0_0)(α:Type)(k:RT α):Fn36_0 (f36_0g a) α k=pa36_0.unc fun ds=>fnM Pg (E36_0g b) sh36 (cm36_0g a) rs36 k ds:=by kernel_rfl
theorem fm36_0:∀ (α:Type) (k:RT α),Fn36_0 f36_0 α k=pa36_0.unc fun ds=>fnM Pg E36_0 sh36 cm36_0 rs36 k ds:=fm36_0g f62_0 L36_0_0
theorem is36:FnIs Pg 36 nt36 tr36 tl36 ac36 rs36:=codeF_is Tryz.func36 (by kernel_rfl)
theorem io36_0:InstOk Pg 36 nt36 ⟨pa36_0,Fn36_0 f36_0⟩:=inst_ok eo36_0 followsTry is36 ⟨⟨sh36,cm36_0,em36_0,gm36_0,fm36_0⟩⟩
abbrev nt143:Nat:=32
def sh143:SG:=[(7,iT),(13,iT),(21,iT),(28,iT),(30,iT)]
def tr143:TG:=[tT 0 [1,2],tT 1 [2,5],tT 2 [4],tT 3 [26],tT 4 [4],tT 5 [4]]
def tl143:TG:=[]
def ac143:ACode:=codeF Pg Tryz.f143 tr143 tl143
def rs143:List AResV:=resF Pg Tryz.f143
def p143_0_0:PT St:=pS [sI 1,sP 2] [eBox 2 [xI,xI]]
def u143_0_0 {β:Type}(g:St->β):Int->Int->Int->β:=p143_0_0.unc g
def p143_0_1:PT St:=pS [sP 2,sY 5 dB] [eBox 2 [xI,xI]]
def u143_0_1 {β:Type}(g:St->β):Bool->Int->Int->β:=p143_0_1.unc g
def pr143_0_0:PT (List RV):=pRs [wI]
def ur143_0_0 {β:Type}(g:List RV->β):Int->β:=pr143_0_0.unc g
def E143_0g (a:Tf108_0):EnvK:=EnvK.of [⟨108,nt108,[⟨pa108_0,Fn108_0 a⟩]⟩] noSeq
def E143_0:EnvK:=E143_0g f108_0
theorem eo143_0:E143_0.Ok Pg:=EnvK.of_ok noSeq_ok ⟨⟨io108_0,TT⟩,TT⟩
def c143_0_5g:MCode:=MCode.sub [1,0,0,0] (emb ac143)
def c143_0_5:MCode:=c143_0_5g
abbrev TJ143_0_0:Type 1:=(α:Type)->Int->Int->Int->(Bool->Op α)->Op α
def J143_0_0g (c:Tf108_0)(α:Type)(a d b:Int)(k1:Bool->Op α):Op α:=
 c α d a 1099511627776
 (fun e=>cK (!e)
 (k1 true)
 (cK (decide (1099511627776 < b))
 (k1 true)
 (cK (decide (a < 0))
 (k1 (decide (b < a)))
 (k1 false))))
def J143_0_0 (α:Type)(a b c:Int)(k1:Bool->Op α):Op α:=J143_0_0g f108_0 α a b c k1
def F143_0_0 (v:TJ143_0_0)(α:Type)(K:KT α):Int->Int->Int->Op α:=fun c a b=>v α c a b (fun d=>u143_0_1 (K .normal) d a b)
theorem m143_0_0g (a:Tf108_0)(α:Type)(K:KT α):F143_0_0 (J143_0_0g a) α K=p143_0_0.unc fun σ=>runM Pg (E143_0g a) sh143 (c143_0_5g ) K σ:=by kernel_rfl
theorem m143_0_0:∀ (α:Type) (K:KT α),F143_0_0 J143_0_0 α K=p143_0_0.unc fun σ=>runM Pg E143_0 sh143 c143_0_5 K σ:=m143_0_0g f108_0
abbrev Tf143_0:Type 1:=(α:Type)->Int->Int->Int->(Int->Op α)->Op α
def f143_0g (c:TJ143_0_0)(α:Type)(a b d:Int)(k1:Int->Op α):Op α:=
 c α d a b
 (fun e=>cK e
 (k1 2)
 (cK (decide (b < a))
 (k1 10)
 (k1 0)))
def f143_0 (α:Type)(a b c:Int)(k1:Int->Op α):Op α:=f143_0g J143_0_0 α a b c k1
def pa143_0:PT (List DV):=pA [pV true [(dI .i64),(dI .i64)],vI]
def Fn143_0 (v:Tf143_0)(α:Type)(k:RT α):Int->Int->Int->Op α:=fun a b c=>v α a b c (fun d=>ur143_0_0 k d)
def cm143_0g (a:TJ143_0_0):MCode:=(MCode.put (.m [⟨p143_0_0,F143_0_0 a⟩]) [1,0,0] (emb ac143))
def cm143_0:MCode:=cm143_0g J143_0_0
theorem gm143_0:cm143_0.Good Pg E143_0 sh143:=(put_seq (by kernel_rfl) (emb_good ac143) ⟨m143_0_0,TT⟩)
theorem em143_0:cm143_0.erase=ac143:=((put_erase _ _).trans (emb_erase _))
theorem fm143_0g (b:Tf108_0)(a:TJ143_0_0)(α:Type)(k:RT α):Fn143_0 (f143_0g a) α k=pa143_0.unc fun ds=>fnM Pg (E143_0g b) sh143 (cm143_0g a) rs143 k ds:=by kernel_rfl
theorem fm143_0:∀ (α:Type) (k:RT α),Fn143_0 f143_0 α k=pa143_0.unc fun ds=>fnM Pg E143_0 sh143 cm143_0 rs143 k ds:=fm143_0g f108_0 J143_0_0
theorem is143:FnIs Pg 143 nt143 tr143 tl143 ac143 rs143:=codeF_is Tryz.func143 (by kernel_rfl)
theorem io143_0:InstOk Pg 143 nt143 ⟨pa143_0,Fn143_0 f143_0⟩:=inst_ok eo143_0 followsTry is143 ⟨⟨sh143,cm143_0,em143_0,gm143_0,fm143_0⟩⟩
abbrev nt150:Nat:=6
def sh150:SG:=[]
def tr150:TG:=[tT 0 [0],tT 1 [2]]
def tl150:TG:=[]
def ac150:ACode:=codeF Pg Tryz.f150 tr150 tl150
def rs150:List AResV:=resF Pg Tryz.f150
def pr150_0_0:PT (List RV):=pRs [wI]
def ur150_0_0 {β:Type}(g:List RV->β):Int->β:=pr150_0_0.unc g
def E150_0g (a:Tf157_0):EnvK:=EnvK.of [⟨157,nt157,[⟨pa157_0,Fn157_0 a⟩]⟩] noSeq
def E150_0:EnvK:=E150_0g f157_0
theorem eo150_0:E150_0.Ok Pg:=EnvK.of_ok noSeq_ok ⟨⟨io157_0,TT⟩,TT⟩
abbrev Tf150_0:Type 1:=(α:Type)->Int->(Int->Op α)->Op α
def f150_0g (a:Tf157_0)(α:Type)(b:Int)(k1:Int->Op α):Op α:=
 a α b
 (fun c=>k1 (w64 (64 - c)))
def f150_0 (α:Type)(a:Int)(k1:Int->Op α):Op α:=f150_0g f157_0 α a k1
def pa150_0:PT (List DV):=pA [pV false [(dI .u64)]]
def Fn150_0 (v:Tf150_0)(α:Type)(k:RT α):Int->Op α:=fun a=>v α a (fun b=>ur150_0_0 k b)
def cm150_0g:MCode:=(emb ac150)
def cm150_0:MCode:=cm150_0g
theorem gm150_0:cm150_0.Good Pg E150_0 sh150:=(emb_good ac150)
theorem em150_0:cm150_0.erase=ac150:=(emb_erase _)
theorem fm150_0g (a:Tf157_0)(α:Type)(k:RT α):Fn150_0 (f150_0g a) α k=pa150_0.unc fun ds=>fnM Pg (E150_0g a) sh150 (cm150_0g ) rs150 k ds:=by kernel_rfl
theorem fm150_0:∀ (α:Type) (k:RT α),Fn150_0 f150_0 α k=pa150_0.unc fun ds=>fnM Pg E150_0 sh150 cm150_0 rs150 k ds:=fm150_0g f157_0
theorem is150:FnIs Pg 150 nt150 tr150 tl150 ac150 rs150:=codeF_is Tryz.func150 (by kernel_rfl)
theorem io150_0:InstOk Pg 150 nt150 ⟨pa150_0,Fn150_0 f150_0⟩:=inst_ok eo150_0 followsTry is150 ⟨⟨sh150,cm150_0,em150_0,gm150_0,fm150_0⟩⟩
abbrev nt129:Nat:=17
def sh129:SG:=[(7,iS 2),(9,iS 2),(12,iT),(14,iT)]
def tr129:TG:=[tT 0 [2,3,4],tT 1 [4,5]]
def tl129:TG:=[]
def ac129:ACode:=codeF Pg Tryz.f129 tr129 tl129
def rs129:List AResV:=resF Pg Tryz.f129
def pr129_0_0:PT (List RV):=pRs [pR true [rD (dI .i64),rD (dI .i64),rD (dI .i64)],wI]
def ur129_0_0 {β:Type}(g:List RV->β):I4 β:=pr129_0_0.unc g
def E129_0g (a:Tf130_0):EnvK:=EnvK.of [⟨130,nt130,[⟨pa130_0,Fn130_0 a⟩]⟩] noSeq
def E129_0:EnvK:=E129_0g f130_0
theorem eo129_0:E129_0.Ok Pg:=EnvK.of_ok noSeq_ok ⟨⟨io130_0,TT⟩,TT⟩
abbrev Tf129_0:Type 1:=(α:Type)->Int->Int->Int->Int->Int->Int->(Int->Int->Int->Op α)->Op α
def f129_0g (a:Tf130_0)(α:Type)(b c d e g h:Int)(k1:Int->Int->Int->Op α):Op α:=
 a α b c e g
 (fun i j=>k1 i j (w64 (d+h)))
def f129_0 (α:Type)(a b c d e g:Int)(k1:Int->Int->Int->Op α):Op α:=f129_0g f130_0 α a b c d e g k1
def pa129_0:PT (List DV):=pA [pV true [(dI .i64),(dI .i64),(dI .i64)],pV true [(dI .i64),(dI .i64),(dI .i64)]]
def Fn129_0 (v:Tf129_0)(α:Type)(k:RT α):I6 (Op α):=fun a b c d e g=>v α a b c d e g (fun h i j=>ur129_0_0 k h i j 0)
def cm129_0g:MCode:=(emb ac129)
def cm129_0:MCode:=cm129_0g
theorem gm129_0:cm129_0.Good Pg E129_0 sh129:=(emb_good ac129)
theorem em129_0:cm129_0.erase=ac129:=(emb_erase _)
theorem fm129_0g (a:Tf130_0)(α:Type)(k:RT α):Fn129_0 (f129_0g a) α k=pa129_0.unc fun ds=>fnM Pg (E129_0g a) sh129 (cm129_0g ) rs129 k ds:=by kernel_rfl
theorem fm129_0:∀ (α:Type) (k:RT α),Fn129_0 f129_0 α k=pa129_0.unc fun ds=>fnM Pg E129_0 sh129 cm129_0 rs129 k ds:=fm129_0g f130_0
theorem is129:FnIs Pg 129 nt129 tr129 tl129 ac129 rs129:=codeF_is Tryz.func129 (by kernel_rfl)
theorem io129_0:InstOk Pg 129 nt129 ⟨pa129_0,Fn129_0 f129_0⟩:=inst_ok eo129_0 followsTry is129 ⟨⟨sh129,cm129_0,em129_0,gm129_0,fm129_0⟩⟩
abbrev nt69:Nat:=10
def sh69:SG:=[]
def tr69:TG:=[tT 0 [0,1],tT 1 [4]]
def tl69:TG:=[]
def ac69:ACode:=codeF Pg Tryz.f69 tr69 tl69
def rs69:List AResV:=resF Pg Tryz.f69
def pr69_0_0:PT (List RV):=pRs [wI]
def ur69_0_0 {β:Type}(g:List RV->β):Int->β:=pr69_0_0.unc g
def E69_0g (a:Tf68_0):EnvK:=EnvK.of [⟨68,nt68,[⟨pa68_0,Fn68_0 a⟩]⟩] noSeq
def E69_0:EnvK:=E69_0g f68_0
theorem eo69_0:E69_0.Ok Pg:=EnvK.of_ok noSeq_ok ⟨⟨io68_0,TT⟩,TT⟩
abbrev Tf69_0:Type 1:=(α:Type)->Int->Int->(Int->Op α)->Op α
def f69_0g (a:Tf68_0)(α:Type)(b c:Int)(k1:Int->Op α):Op α:=
 a α (w64 (0 - b)) c
 (fun d=>k1 (w64 (0 - d)))
def f69_0 (α:Type)(a b:Int)(k1:Int->Op α):Op α:=f69_0g f68_0 α a b k1
def pa69_0:PT (List DV):=pA [vI,vI]
def Fn69_0 (v:Tf69_0)(α:Type)(k:RT α):Int->Int->Op α:=fun a b=>v α a b (fun c=>ur69_0_0 k c)
def cm69_0g:MCode:=(emb ac69)
def cm69_0:MCode:=cm69_0g
theorem gm69_0:cm69_0.Good Pg E69_0 sh69:=(emb_good ac69)
theorem em69_0:cm69_0.erase=ac69:=(emb_erase _)
theorem fm69_0g (a:Tf68_0)(α:Type)(k:RT α):Fn69_0 (f69_0g a) α k=pa69_0.unc fun ds=>fnM Pg (E69_0g a) sh69 (cm69_0g ) rs69 k ds:=by kernel_rfl
theorem fm69_0:∀ (α:Type) (k:RT α),Fn69_0 f69_0 α k=pa69_0.unc fun ds=>fnM Pg E69_0 sh69 cm69_0 rs69 k ds:=fm69_0g f68_0
theorem is69:FnIs Pg 69 nt69 tr69 tl69 ac69 rs69:=codeF_is Tryz.func69 (by kernel_rfl)
theorem io69_0:InstOk Pg 69 nt69 ⟨pa69_0,Fn69_0 f69_0⟩:=inst_ok eo69_0 followsTry is69 ⟨⟨sh69,cm69_0,em69_0,gm69_0,fm69_0⟩⟩
abbrev nt103:Nat:=25
def sh103:SG:=[]
def tr103:TG:=[tT 0 [0],tT 1 [0,3],tT 2 [0,3,12],tT 3 [0,3],tT 4 [0,3,21],tT 5 [0,3],tT 6 [2]]
def tl103:TG:=[tT 2 [0,3],tT 4 [0,3]]
def ac103:ACode:=codeF Pg Tryz.f103 tr103 tl103
def rs103:List AResV:=resF Pg Tryz.f103
def td103_7:OT:=tdC (MCode.sub [1,1,0,0] (emb ac103))
def td103_16:OT:=tdC (MCode.sub [1,1,1,0,0] (emb ac103))
def p103_0_0:PT St:=pS [sI 0,sI 3] []
def u103_0_0 {β:Type}(g:St->β):Int->Int->β:=p103_0_0.unc g
def p103_0_1:PT St:=pS [sI 0,sI 3,sY 12 dB] []
def u103_0_1 {β:Type}(g:St->β):Int->Int->Bool->β:=p103_0_1.unc g
def p103_0_2:PT St:=pS [sI 0,sI 3,sY 21 dB] []
def u103_0_2 {β:Type}(g:St->β):Int->Int->Bool->β:=p103_0_2.unc g
def pr103_0_0:PT (List RV):=pRs [wI]
def ur103_0_0 {β:Type}(g:List RV->β):Int->β:=pr103_0_0.unc g
def E103_0g (a:Tf135_0):EnvK:=EnvK.of [⟨135,nt135,[⟨pa135_0,Fn135_0 a⟩]⟩] noSeq
def E103_0:EnvK:=E103_0g f135_0
theorem eo103_0:E103_0.Ok Pg:=EnvK.of_ok noSeq_ok ⟨⟨io135_0,TT⟩,TT⟩
def c103_0_16g:MCode:=MCode.sub [1,1,1,0,0,0] (emb ac103)
def c103_0_16:MCode:=c103_0_16g
def S103_0_1g (α:Type)(b a:Int)(kn:Int->Op α)(k1:Int->Bool->Op α):Op α:=
 cK (decide ((w64 ((w64 (a+1))*(w64 (a+1))))<=b))
 (kn (w64 (a+1)))
 (k1 a (decide ((w64 ((w64 (a+1))*(w64 (a+1))))<=b)))
def S103_0_1 (α:Type)(a b:Int)(kn:Int->Op α)(k1:Int->Bool->Op α):Op α:=S103_0_1g α a b kn k1
def R103_0_1 (α:Type)(a:Int)(k1:Int->Bool->Op α):Nat->Int->Op α
 | 0,_=>none
 | n+1,b=>S103_0_1 α a b (R103_0_1 α a k1 n) k1
def L103_0_1 (α:Type)(a:Int)(k1:Int->Bool->Op α)(b:Int):Op α:=R103_0_1 α a k1 fuel b
abbrev TL103_0_1:Type 1:=(α:Type)->Int->(Int->Bool->Op α)->Int->Op α
def F103_0_1 (v:TL103_0_1)(α:Type)(K:KT α):Int->Int->Op α:=fun a b=>v α a (fun c d=>u103_0_2 (K (.exit 2)) a c d) b
theorem r103_0_1g (c:Tf135_0)(α:Type)(K:KT α)(Kn:SK α)(a b:Int):u103_0_0 (fun σ=>runM Pg (E103_0g c) sh103 (c103_0_16g ) (thenK (fun σ=>tidyK td103_16 σ Kn) K) σ) a b=S103_0_1g α a b (fun b=>u103_0_0 Kn a b) (fun d e=>u103_0_2 (K (.exit 2)) a d e):=by kernel_rfl
theorem r103_0_1 (α:Type)(K:KT α)(Kn:SK α)(a b:Int):u103_0_0 (fun σ=>runM Pg E103_0 sh103 c103_0_16 (thenK (fun σ=>tidyK td103_16 σ Kn) K) σ) a b=S103_0_1 α a b (fun b=>u103_0_0 Kn a b) (fun c d=>u103_0_2 (K (.exit 2)) a c d):=r103_0_1g f135_0 α K Kn a b
theorem t103_0_1 (α:Type)(K:KT α):∀ (n:Nat) (a b:Int),R103_0_1 α a (fun c d=>u103_0_2 (K (.exit 2)) a c d) n b=u103_0_0 (loopT (runM Pg E103_0 sh103 c103_0_16) td103_16 K n) a b:=by
 intro n
 induction n with
 | zero=>intros;rfl
 | succ n ih=>intro a b;exact (congrArg (fun kn=>S103_0_1 α a b kn (fun c d=>u103_0_2 (K (.exit 2)) a c d)) (funext fun b=>ih a b)).trans (r103_0_1 α K (loopT (runM Pg E103_0 sh103 c103_0_16) td103_16 K n) a b).symm
theorem m103_0_1:∀ (α:Type) (K:KT α),F103_0_1 L103_0_1 α K=p103_0_0.unc fun σ=>loopT (runM Pg E103_0 sh103 c103_0_16) td103_16 K fuel σ:=fun α K=>funext fun a=>funext fun b=>t103_0_1 α K fuel a b
def c103_0_7g:MCode:=MCode.sub [1,1,0,0,0] (emb ac103)
def c103_0_7:MCode:=c103_0_7g
def S103_0_0g (α:Type)(b a:Int)(kn:Int->Op α)(k1:Int->Bool->Op α):Op α:=
 cK (decide (b < (w64 (a*a))))
 (kn (w64 (a - 1)))
 (k1 a (decide (b < (w64 (a*a)))))
def S103_0_0 (α:Type)(a b:Int)(kn:Int->Op α)(k1:Int->Bool->Op α):Op α:=S103_0_0g α a b kn k1
def R103_0_0 (α:Type)(a:Int)(k1:Int->Bool->Op α):Nat->Int->Op α
 | 0,_=>none
 | n+1,b=>S103_0_0 α a b (R103_0_0 α a k1 n) k1
def L103_0_0 (α:Type)(a:Int)(k1:Int->Bool->Op α)(b:Int):Op α:=R103_0_0 α a k1 fuel b
abbrev TL103_0_0:Type 1:=(α:Type)->Int->(Int->Bool->Op α)->Int->Op α
def F103_0_0 (v:TL103_0_0)(α:Type)(K:KT α):Int->Int->Op α:=fun a b=>v α a (fun c d=>u103_0_1 (K (.exit 0)) a c d) b
theorem r103_0_0g (c:Tf135_0)(α:Type)(K:KT α)(Kn:SK α)(a b:Int):u103_0_0 (fun σ=>runM Pg (E103_0g c) sh103 (c103_0_7g ) (thenK (fun σ=>tidyK td103_7 σ Kn) K) σ) a b=S103_0_0g α a b (fun b=>u103_0_0 Kn a b) (fun d e=>u103_0_1 (K (.exit 0)) a d e):=by kernel_rfl
theorem r103_0_0 (α:Type)(K:KT α)(Kn:SK α)(a b:Int):u103_0_0 (fun σ=>runM Pg E103_0 sh103 c103_0_7 (thenK (fun σ=>tidyK td103_7 σ Kn) K) σ) a b=S103_0_0 α a b (fun b=>u103_0_0 Kn a b) (fun c d=>u103_0_1 (K (.exit 0)) a c d):=r103_0_0g f135_0 α K Kn a b
theorem t103_0_0 (α:Type)(K:KT α):∀ (n:Nat) (a b:Int),R103_0_0 α a (fun c d=>u103_0_1 (K (.exit 0)) a c d) n b=u103_0_0 (loopT (runM Pg E103_0 sh103 c103_0_7) td103_7 K n) a b:=by
 intro n
 induction n with
 | zero=>intros;rfl
 | succ n ih=>intro a b;exact (congrArg (fun kn=>S103_0_0 α a b kn (fun c d=>u103_0_1 (K (.exit 0)) a c d)) (funext fun b=>ih a b)).trans (r103_0_0 α K (loopT (runM Pg E103_0 sh103 c103_0_7) td103_7 K n) a b).symm
theorem m103_0_0:∀ (α:Type) (K:KT α),F103_0_0 L103_0_0 α K=p103_0_0.unc fun σ=>loopT (runM Pg E103_0 sh103 c103_0_7) td103_7 K fuel σ:=fun α K=>funext fun a=>funext fun b=>t103_0_0 α K fuel a b
abbrev Tf103_0:Type 1:=(α:Type)->Int->(Int->Op α)->Op α
def f103_0g (b:TL103_0_0)(c:TL103_0_1)(d:Tf135_0)(α:Type)(a:Int)(k1:Int->Op α):Op α:=
 d α (FloatKind.nearest .f64 a)
 (fun e=>ivK (f2i .f64 e .i64)
 (fun g=>b α a
 (fun h j=>c α a
 (fun i l=>k1 i) h) g))
def f103_0 (α:Type)(a:Int)(k1:Int->Op α):Op α:=f103_0g L103_0_0 L103_0_1 f135_0 α a k1
def pa103_0:PT (List DV):=pA [vI]
def Fn103_0 (v:Tf103_0)(α:Type)(k:RT α):Int->Op α:=fun a=>v α a (fun b=>ur103_0_0 k b)
def cm103_0g (a:TL103_0_0)(b:TL103_0_1):MCode:=(MCode.put (.m [⟨p103_0_0,F103_0_0 a⟩]) [1,1,0,0] (MCode.put (.m [⟨p103_0_0,F103_0_1 b⟩]) [1,1,1,0,0] (emb ac103)))
def cm103_0:MCode:=cm103_0g L103_0_0 L103_0_1
theorem gm103_0:cm103_0.Good Pg E103_0 sh103:=(put_loop (td:=td103_7) (by kernel_rfl) (put_loop (td:=td103_16) (by kernel_rfl) (emb_good ac103) ⟨m103_0_1,TT⟩) ⟨m103_0_0,TT⟩)
theorem em103_0:cm103_0.erase=ac103:=((put_erase _ _).trans ((put_erase _ _).trans (emb_erase _)))
theorem fm103_0g (a:Tf135_0)(b:TL103_0_0)(c:TL103_0_1)(α:Type)(k:RT α):Fn103_0 (f103_0g b c a) α k=pa103_0.unc fun ds=>fnM Pg (E103_0g a) sh103 (cm103_0g b c) rs103 k ds:=by kernel_rfl
theorem fm103_0:∀ (α:Type) (k:RT α),Fn103_0 f103_0 α k=pa103_0.unc fun ds=>fnM Pg E103_0 sh103 cm103_0 rs103 k ds:=fm103_0g f135_0 L103_0_0 L103_0_1
theorem is103:FnIs Pg 103 nt103 tr103 tl103 ac103 rs103:=codeF_is Tryz.func103 (by kernel_rfl)
theorem io103_0:InstOk Pg 103 nt103 ⟨pa103_0,Fn103_0 f103_0⟩:=inst_ok eo103_0 followsTry is103 ⟨⟨sh103,cm103_0,em103_0,gm103_0,fm103_0⟩⟩
abbrev nt119:Nat:=17
def sh119:SG:=[(7,iS 2),(9,iS 2),(12,iT),(14,iT)]
def tr119:TG:=[tT 0 [2,3,4],tT 1 [4,5]]
def tl119:TG:=[]
def ac119:ACode:=codeF Pg Tryz.f119 tr119 tl119
def rs119:List AResV:=resF Pg Tryz.f119
def pr119_0_0:PT (List RV):=pRs [pR true [rD (dI .i64),rD (dI .i64),rD (dI .i64)],wI]
def ur119_0_0 {β:Type}(g:List RV->β):I4 β:=pr119_0_0.unc g
def E119_0g (a:Tf120_0):EnvK:=EnvK.of [⟨120,nt120,[⟨pa120_0,Fn120_0 a⟩]⟩] noSeq
def E119_0:EnvK:=E119_0g f120_0
theorem eo119_0:E119_0.Ok Pg:=EnvK.of_ok noSeq_ok ⟨⟨io120_0,TT⟩,TT⟩
abbrev Tf119_0:Type 1:=(α:Type)->Int->Int->Int->Int->Int->Int->(Int->Int->Int->Op α)->Op α
def f119_0g (a:Tf120_0)(α:Type)(b c d e g h:Int)(k1:Int->Int->Int->Op α):Op α:=
 a α b c e g
 (fun i j=>k1 i j (w64 (d+h)))
def f119_0 (α:Type)(a b c d e g:Int)(k1:Int->Int->Int->Op α):Op α:=f119_0g f120_0 α a b c d e g k1
def pa119_0:PT (List DV):=pA [pV true [(dI .i64),(dI .i64),(dI .i64)],pV true [(dI .i64),(dI .i64),(dI .i64)]]
def Fn119_0 (v:Tf119_0)(α:Type)(k:RT α):I6 (Op α):=fun a b c d e g=>v α a b c d e g (fun h i j=>ur119_0_0 k h i j 0)
def cm119_0g:MCode:=(emb ac119)
def cm119_0:MCode:=cm119_0g
theorem gm119_0:cm119_0.Good Pg E119_0 sh119:=(emb_good ac119)
theorem em119_0:cm119_0.erase=ac119:=(emb_erase _)
theorem fm119_0g (a:Tf120_0)(α:Type)(k:RT α):Fn119_0 (f119_0g a) α k=pa119_0.unc fun ds=>fnM Pg (E119_0g a) sh119 (cm119_0g ) rs119 k ds:=by kernel_rfl
theorem fm119_0:∀ (α:Type) (k:RT α),Fn119_0 f119_0 α k=pa119_0.unc fun ds=>fnM Pg E119_0 sh119 cm119_0 rs119 k ds:=fm119_0g f120_0
theorem is119:FnIs Pg 119 nt119 tr119 tl119 ac119 rs119:=codeF_is Tryz.func119 (by kernel_rfl)
theorem io119_0:InstOk Pg 119 nt119 ⟨pa119_0,Fn119_0 f119_0⟩:=inst_ok eo119_0 followsTry is119 ⟨⟨sh119,cm119_0,em119_0,gm119_0,fm119_0⟩⟩
abbrev nt152:Nat:=15
def sh152:SG:=[]
def tr152:TG:=[tT 0 [0,1],tT 1 [0,1,6],tT 2 [0],tT 3 [0,10],tT 4 [0],tT 5 [4]]
def tl152:TG:=[]
def ac152:ACode:=codeF Pg Tryz.f152 tr152 tl152
def rs152:List AResV:=resF Pg Tryz.f152
def pr152_0_0:PT (List RV):=pRs [pR false [rD dB]]
def ur152_0_0 {β:Type}(g:List RV->β):Bool->β:=pr152_0_0.unc g
def E152_0g (a:Tf139_0):EnvK:=EnvK.of [⟨139,nt139,[⟨pa139_0,Fn139_0 a⟩]⟩] noSeq
def E152_0:EnvK:=E152_0g f139_0
theorem eo152_0:E152_0.Ok Pg:=EnvK.of_ok noSeq_ok ⟨⟨io139_0,TT⟩,TT⟩
abbrev Tf152_0:Type 1:=(α:Type)->Nat->Int->(Bool->Op α)->Op α
def f152_0g (c:Tf139_0)(α:Type)(a:Nat)(b:Int)(k1:Bool->Op α):Op α:=
 cK (b == 0)
 (c α a
 (fun d=>k1 ((FloatKind.format .f64).order d 9218868437227405311 == some Ordering.gt)))
 (cK (decide (b < 0))
 (k1 ((FloatKind.format .f64).order (Op.negFloat .f64 a) 9218868437227405311 == some Ordering.gt))
 (k1 ((FloatKind.format .f64).order a 9218868437227405311 == some Ordering.gt)))
def f152_0 (α:Type)(a:Nat)(b:Int)(k1:Bool->Op α):Op α:=f152_0g f139_0 α a b k1
def pa152_0:PT (List DV):=pA [pV false [(dF .f64)],vI]
def Fn152_0 (v:Tf152_0)(α:Type)(k:RT α):Nat->Int->Op α:=fun a b=>v α a b (fun c=>ur152_0_0 k c)
def cm152_0g:MCode:=(emb ac152)
def cm152_0:MCode:=cm152_0g
theorem gm152_0:cm152_0.Good Pg E152_0 sh152:=(emb_good ac152)
theorem em152_0:cm152_0.erase=ac152:=(emb_erase _)
theorem fm152_0g (a:Tf139_0)(α:Type)(k:RT α):Fn152_0 (f152_0g a) α k=pa152_0.unc fun ds=>fnM Pg (E152_0g a) sh152 (cm152_0g ) rs152 k ds:=by kernel_rfl
theorem fm152_0:∀ (α:Type) (k:RT α),Fn152_0 f152_0 α k=pa152_0.unc fun ds=>fnM Pg E152_0 sh152 cm152_0 rs152 k ds:=fm152_0g f139_0
theorem is152:FnIs Pg 152 nt152 tr152 tl152 ac152 rs152:=codeF_is Tryz.func152 (by kernel_rfl)
theorem io152_0:InstOk Pg 152 nt152 ⟨pa152_0,Fn152_0 f152_0⟩:=inst_ok eo152_0 followsTry is152 ⟨⟨sh152,cm152_0,em152_0,gm152_0,fm152_0⟩⟩
abbrev nt123:Nat:=17
def sh123:SG:=[]
def tr123:TG:=[tT 0 [0,1],tT 1 [4,5]]
def tl123:TG:=[]
def ac123:ACode:=codeF Pg Tryz.f123 tr123 tl123
def rs123:List AResV:=resF Pg Tryz.f123
def pr123_0_0:PT (List RV):=pRs [wI,pR false [rD dB]]
def ur123_0_0 {β:Type}(g:List RV->β):Int->Bool->β:=pr123_0_0.unc g
def E123_0g (a:Tf68_0):EnvK:=EnvK.of [⟨68,nt68,[⟨pa68_0,Fn68_0 a⟩]⟩] noSeq
def E123_0:EnvK:=E123_0g f68_0
theorem eo123_0:E123_0.Ok Pg:=EnvK.of_ok noSeq_ok ⟨⟨io68_0,TT⟩,TT⟩
abbrev Tf123_0:Type 1:=(α:Type)->Int->Int->(Int->Bool->Op α)->Op α
def f123_0g (c:Tf68_0)(α:Type)(b a:Int)(k1:Int->Bool->Op α):Op α:=
 c α (w64 ((w64 (2*b))+a)) (w64 (2*a))
 (fun d=>gK (a != 0) (k1 d ((Int.tmod b a) != 0)))
def f123_0 (α:Type)(a b:Int)(k1:Int->Bool->Op α):Op α:=f123_0g f68_0 α a b k1
def pa123_0:PT (List DV):=pA [vI,vI]
def Fn123_0 (v:Tf123_0)(α:Type)(k:RT α):Int->Int->Op α:=fun a b=>v α a b (fun c d=>ur123_0_0 k c d)
def cm123_0g:MCode:=(emb ac123)
def cm123_0:MCode:=cm123_0g
theorem gm123_0:cm123_0.Good Pg E123_0 sh123:=(emb_good ac123)
theorem em123_0:cm123_0.erase=ac123:=(emb_erase _)
theorem fm123_0g (a:Tf68_0)(α:Type)(k:RT α):Fn123_0 (f123_0g a) α k=pa123_0.unc fun ds=>fnM Pg (E123_0g a) sh123 (cm123_0g ) rs123 k ds:=by kernel_rfl
theorem fm123_0:∀ (α:Type) (k:RT α),Fn123_0 f123_0 α k=pa123_0.unc fun ds=>fnM Pg E123_0 sh123 cm123_0 rs123 k ds:=fm123_0g f68_0
theorem is123:FnIs Pg 123 nt123 tr123 tl123 ac123 rs123:=codeF_is Tryz.func123 (by kernel_rfl)
theorem io123_0:InstOk Pg 123 nt123 ⟨pa123_0,Fn123_0 f123_0⟩:=inst_ok eo123_0 followsTry is123 ⟨⟨sh123,cm123_0,em123_0,gm123_0,fm123_0⟩⟩
abbrev nt102:Nat:=10
def sh102:SG:=[]
def tr102:TG:=[tT 0 [0,1],tT 1 [4]]
def tl102:TG:=[]
def ac102:ACode:=codeF Pg Tryz.f102 tr102 tl102
def rs102:List AResV:=resF Pg Tryz.f102
def pr102_0_0:PT (List RV):=pRs [pR false [rD dB]]
def ur102_0_0 {β:Type}(g:List RV->β):Bool->β:=pr102_0_0.unc g
def E102_0g (a:Tf108_0):EnvK:=EnvK.of [⟨108,nt108,[⟨pa108_0,Fn108_0 a⟩]⟩] noSeq
def E102_0:EnvK:=E102_0g f108_0
theorem eo102_0:E102_0.Ok Pg:=EnvK.of_ok noSeq_ok ⟨⟨io108_0,TT⟩,TT⟩
abbrev Tf102_0:Type 1:=(α:Type)->Int->Int->(Bool->Op α)->Op α
def f102_0g (b:Tf108_0)(α:Type)(c a:Int)(k1:Bool->Op α):Op α:=
 b α c (w64 (0 - a)) a
 (fun d=>k1 d)
def f102_0 (α:Type)(a b:Int)(k1:Bool->Op α):Op α:=f102_0g f108_0 α a b k1
def pa102_0:PT (List DV):=pA [vI,vI]
def Fn102_0 (v:Tf102_0)(α:Type)(k:RT α):Int->Int->Op α:=fun a b=>v α a b (fun c=>ur102_0_0 k c)
def cm102_0g:MCode:=(emb ac102)
def cm102_0:MCode:=cm102_0g
theorem gm102_0:cm102_0.Good Pg E102_0 sh102:=(emb_good ac102)
theorem em102_0:cm102_0.erase=ac102:=(emb_erase _)
theorem fm102_0g (a:Tf108_0)(α:Type)(k:RT α):Fn102_0 (f102_0g a) α k=pa102_0.unc fun ds=>fnM Pg (E102_0g a) sh102 (cm102_0g ) rs102 k ds:=by kernel_rfl
theorem fm102_0:∀ (α:Type) (k:RT α),Fn102_0 f102_0 α k=pa102_0.unc fun ds=>fnM Pg E102_0 sh102 cm102_0 rs102 k ds:=fm102_0g f108_0
theorem is102:FnIs Pg 102 nt102 tr102 tl102 ac102 rs102:=codeF_is Tryz.func102 (by kernel_rfl)
theorem io102_0:InstOk Pg 102 nt102 ⟨pa102_0,Fn102_0 f102_0⟩:=inst_ok eo102_0 followsTry is102 ⟨⟨sh102,cm102_0,em102_0,gm102_0,fm102_0⟩⟩
abbrev nt84:Nat:=5
def sh84:SG:=[]
def tr84:TG:=[tT 0 [0],tT 1 [2]]
def tl84:TG:=[]
def ac84:ACode:=codeF Pg Tryz.f84 tr84 tl84
def rs84:List AResV:=resF Pg Tryz.f84
def pr84_0_0:PT (List RV):=pRs [pR false [rD dB]]
def ur84_0_0 {β:Type}(g:List RV->β):Bool->β:=pr84_0_0.unc g
def E84_0g (a:Tf81_0):EnvK:=EnvK.of [⟨81,nt81,[⟨pa81_0,Fn81_0 a⟩]⟩] noSeq
def E84_0:EnvK:=E84_0g f81_0
theorem eo84_0:E84_0.Ok Pg:=EnvK.of_ok noSeq_ok ⟨⟨io81_0,TT⟩,TT⟩
abbrev Tf84_0:Type 1:=(α:Type)->Int->(Bool->Op α)->Op α
def f84_0g (a:Tf81_0)(α:Type)(b:Int)(k1:Bool->Op α):Op α:=
 a α b 0 80000
 (fun c=>k1 c)
def f84_0 (α:Type)(a:Int)(k1:Bool->Op α):Op α:=f84_0g f81_0 α a k1
def pa84_0:PT (List DV):=pA [vI]
def Fn84_0 (v:Tf84_0)(α:Type)(k:RT α):Int->Op α:=fun a=>v α a (fun b=>ur84_0_0 k b)
def cm84_0g:MCode:=(emb ac84)
def cm84_0:MCode:=cm84_0g
theorem gm84_0:cm84_0.Good Pg E84_0 sh84:=(emb_good ac84)
theorem em84_0:cm84_0.erase=ac84:=(emb_erase _)
theorem fm84_0g (a:Tf81_0)(α:Type)(k:RT α):Fn84_0 (f84_0g a) α k=pa84_0.unc fun ds=>fnM Pg (E84_0g a) sh84 (cm84_0g ) rs84 k ds:=by kernel_rfl
theorem fm84_0:∀ (α:Type) (k:RT α),Fn84_0 f84_0 α k=pa84_0.unc fun ds=>fnM Pg E84_0 sh84 cm84_0 rs84 k ds:=fm84_0g f81_0
theorem is84:FnIs Pg 84 nt84 tr84 tl84 ac84 rs84:=codeF_is Tryz.func84 (by kernel_rfl)
theorem io84_0:InstOk Pg 84 nt84 ⟨pa84_0,Fn84_0 f84_0⟩:=inst_ok eo84_0 followsTry is84 ⟨⟨sh84,cm84_0,em84_0,gm84_0,fm84_0⟩⟩
abbrev nt83:Nat:=5
def sh83:SG:=[]
def tr83:TG:=[tT 0 [0],tT 1 [2]]
def tl83:TG:=[]
def ac83:ACode:=codeF Pg Tryz.f83 tr83 tl83
def rs83:List AResV:=resF Pg Tryz.f83
def pr83_0_0:PT (List RV):=pRs [pR false [rD dB]]
def ur83_0_0 {β:Type}(g:List RV->β):Bool->β:=pr83_0_0.unc g
def E83_0g (a:Tf81_0):EnvK:=EnvK.of [⟨81,nt81,[⟨pa81_0,Fn81_0 a⟩]⟩] noSeq
def E83_0:EnvK:=E83_0g f81_0
theorem eo83_0:E83_0.Ok Pg:=EnvK.of_ok noSeq_ok ⟨⟨io81_0,TT⟩,TT⟩
abbrev Tf83_0:Type 1:=(α:Type)->Int->(Bool->Op α)->Op α
def f83_0g (a:Tf81_0)(α:Type)(b:Int)(k1:Bool->Op α):Op α:=
 a α b 0 1000000
 (fun c=>k1 c)
def f83_0 (α:Type)(a:Int)(k1:Bool->Op α):Op α:=f83_0g f81_0 α a k1
def pa83_0:PT (List DV):=pA [vI]
def Fn83_0 (v:Tf83_0)(α:Type)(k:RT α):Int->Op α:=fun a=>v α a (fun b=>ur83_0_0 k b)
def cm83_0g:MCode:=(emb ac83)
def cm83_0:MCode:=cm83_0g
theorem gm83_0:cm83_0.Good Pg E83_0 sh83:=(emb_good ac83)
theorem em83_0:cm83_0.erase=ac83:=(emb_erase _)
theorem fm83_0g (a:Tf81_0)(α:Type)(k:RT α):Fn83_0 (f83_0g a) α k=pa83_0.unc fun ds=>fnM Pg (E83_0g a) sh83 (cm83_0g ) rs83 k ds:=by kernel_rfl
theorem fm83_0:∀ (α:Type) (k:RT α),Fn83_0 f83_0 α k=pa83_0.unc fun ds=>fnM Pg E83_0 sh83 cm83_0 rs83 k ds:=fm83_0g f81_0
theorem is83:FnIs Pg 83 nt83 tr83 tl83 ac83 rs83:=codeF_is Tryz.func83 (by kernel_rfl)
theorem io83_0:InstOk Pg 83 nt83 ⟨pa83_0,Fn83_0 f83_0⟩:=inst_ok eo83_0 followsTry is83 ⟨⟨sh83,cm83_0,em83_0,gm83_0,fm83_0⟩⟩
abbrev nt82:Nat:=5
def sh82:SG:=[]
def tr82:TG:=[tT 0 [0],tT 1 [2]]
def tl82:TG:=[]
def ac82:ACode:=codeF Pg Tryz.f82 tr82 tl82
def rs82:List AResV:=resF Pg Tryz.f82
def pr82_0_0:PT (List RV):=pRs [pR false [rD dB]]
def ur82_0_0 {β:Type}(g:List RV->β):Bool->β:=pr82_0_0.unc g
def E82_0g (a:Tf81_0):EnvK:=EnvK.of [⟨81,nt81,[⟨pa81_0,Fn81_0 a⟩]⟩] noSeq
def E82_0:EnvK:=E82_0g f81_0
theorem eo82_0:E82_0.Ok Pg:=EnvK.of_ok noSeq_ok ⟨⟨io81_0,TT⟩,TT⟩
abbrev Tf82_0:Type 1:=(α:Type)->Int->(Bool->Op α)->Op α
def f82_0g (a:Tf81_0)(α:Type)(b:Int)(k1:Bool->Op α):Op α:=
 a α b 1000 200000
 (fun c=>k1 c)
def f82_0 (α:Type)(a:Int)(k1:Bool->Op α):Op α:=f82_0g f81_0 α a k1
def pa82_0:PT (List DV):=pA [vI]
def Fn82_0 (v:Tf82_0)(α:Type)(k:RT α):Int->Op α:=fun a=>v α a (fun b=>ur82_0_0 k b)
def cm82_0g:MCode:=(emb ac82)
def cm82_0:MCode:=cm82_0g
theorem gm82_0:cm82_0.Good Pg E82_0 sh82:=(emb_good ac82)
theorem em82_0:cm82_0.erase=ac82:=(emb_erase _)
theorem fm82_0g (a:Tf81_0)(α:Type)(k:RT α):Fn82_0 (f82_0g a) α k=pa82_0.unc fun ds=>fnM Pg (E82_0g a) sh82 (cm82_0g ) rs82 k ds:=by kernel_rfl
theorem fm82_0:∀ (α:Type) (k:RT α),Fn82_0 f82_0 α k=pa82_0.unc fun ds=>fnM Pg E82_0 sh82 cm82_0 rs82 k ds:=fm82_0g f81_0
theorem is82:FnIs Pg 82 nt82 tr82 tl82 ac82 rs82:=codeF_is Tryz.func82 (by kernel_rfl)
theorem io82_0:InstOk Pg 82 nt82 ⟨pa82_0,Fn82_0 f82_0⟩:=inst_ok eo82_0 followsTry is82 ⟨⟨sh82,cm82_0,em82_0,gm82_0,fm82_0⟩⟩
abbrev nt80:Nat:=5
def sh80:SG:=[]
def tr80:TG:=[tT 0 [0],tT 1 [2]]
def tl80:TG:=[]
def ac80:ACode:=codeF Pg Tryz.f80 tr80 tl80
def rs80:List AResV:=resF Pg Tryz.f80
def pr80_0_0:PT (List RV):=pRs [pR false [rD dB]]
def ur80_0_0 {β:Type}(g:List RV->β):Bool->β:=pr80_0_0.unc g
def E80_0g (a:Tf81_0):EnvK:=EnvK.of [⟨81,nt81,[⟨pa81_0,Fn81_0 a⟩]⟩] noSeq
def E80_0:EnvK:=E80_0g f81_0
theorem eo80_0:E80_0.Ok Pg:=EnvK.of_ok noSeq_ok ⟨⟨io81_0,TT⟩,TT⟩
abbrev Tf80_0:Type 1:=(α:Type)->Int->(Bool->Op α)->Op α
def f80_0g (a:Tf81_0)(α:Type)(b:Int)(k1:Bool->Op α):Op α:=
 a α b 0 9999
 (fun c=>k1 c)
def f80_0 (α:Type)(a:Int)(k1:Bool->Op α):Op α:=f80_0g f81_0 α a k1
def pa80_0:PT (List DV):=pA [vI]
def Fn80_0 (v:Tf80_0)(α:Type)(k:RT α):Int->Op α:=fun a=>v α a (fun b=>ur80_0_0 k b)
def cm80_0g:MCode:=(emb ac80)
def cm80_0:MCode:=cm80_0g
theorem gm80_0:cm80_0.Good Pg E80_0 sh80:=(emb_good ac80)
theorem em80_0:cm80_0.erase=ac80:=(emb_erase _)
theorem fm80_0g (a:Tf81_0)(α:Type)(k:RT α):Fn80_0 (f80_0g a) α k=pa80_0.unc fun ds=>fnM Pg (E80_0g a) sh80 (cm80_0g ) rs80 k ds:=by kernel_rfl
theorem fm80_0:∀ (α:Type) (k:RT α),Fn80_0 f80_0 α k=pa80_0.unc fun ds=>fnM Pg E80_0 sh80 cm80_0 rs80 k ds:=fm80_0g f81_0
theorem is80:FnIs Pg 80 nt80 tr80 tl80 ac80 rs80:=codeF_is Tryz.func80 (by kernel_rfl)
theorem io80_0:InstOk Pg 80 nt80 ⟨pa80_0,Fn80_0 f80_0⟩:=inst_ok eo80_0 followsTry is80 ⟨⟨sh80,cm80_0,em80_0,gm80_0,fm80_0⟩⟩
abbrev nt78:Nat:=5
def sh78:SG:=[]
def tr78:TG:=[tT 0 [0],tT 1 [2]]
def tl78:TG:=[]
def ac78:ACode:=codeF Pg Tryz.f78 tr78 tl78
def rs78:List AResV:=resF Pg Tryz.f78
def pr78_0_0:PT (List RV):=pRs [pR false [rD dB]]
def ur78_0_0 {β:Type}(g:List RV->β):Bool->β:=pr78_0_0.unc g
def E78_0g (a:Tf81_0):EnvK:=EnvK.of [⟨81,nt81,[⟨pa81_0,Fn81_0 a⟩]⟩] noSeq
def E78_0:EnvK:=E78_0g f81_0
theorem eo78_0:E78_0.Ok Pg:=EnvK.of_ok noSeq_ok ⟨⟨io81_0,TT⟩,TT⟩
abbrev Tf78_0:Type 1:=(α:Type)->Int->(Bool->Op α)->Op α
def f78_0g (a:Tf81_0)(α:Type)(b:Int)(k1:Bool->Op α):Op α:=
 a α b 5000 80000
 (fun c=>k1 c)
def f78_0 (α:Type)(a:Int)(k1:Bool->Op α):Op α:=f78_0g f81_0 α a k1
def pa78_0:PT (List DV):=pA [vI]
def Fn78_0 (v:Tf78_0)(α:Type)(k:RT α):Int->Op α:=fun a=>v α a (fun b=>ur78_0_0 k b)
def cm78_0g:MCode:=(emb ac78)
def cm78_0:MCode:=cm78_0g
theorem gm78_0:cm78_0.Good Pg E78_0 sh78:=(emb_good ac78)
theorem em78_0:cm78_0.erase=ac78:=(emb_erase _)
theorem fm78_0g (a:Tf81_0)(α:Type)(k:RT α):Fn78_0 (f78_0g a) α k=pa78_0.unc fun ds=>fnM Pg (E78_0g a) sh78 (cm78_0g ) rs78 k ds:=by kernel_rfl
theorem fm78_0:∀ (α:Type) (k:RT α),Fn78_0 f78_0 α k=pa78_0.unc fun ds=>fnM Pg E78_0 sh78 cm78_0 rs78 k ds:=fm78_0g f81_0
theorem is78:FnIs Pg 78 nt78 tr78 tl78 ac78 rs78:=codeF_is Tryz.func78 (by kernel_rfl)
theorem io78_0:InstOk Pg 78 nt78 ⟨pa78_0,Fn78_0 f78_0⟩:=inst_ok eo78_0 followsTry is78 ⟨⟨sh78,cm78_0,em78_0,gm78_0,fm78_0⟩⟩
end
end Go.AM.K
