/- Printed by KGen. -/
import Derived.Test.YtaondhhdefbfkaaGreatProg
import Derived.Test.YtaondhhdefbfkaaGreatKMa
import Derived.Test.YtaondhhdefbfkaaGreatRh
namespace Go.AM.K
open Go.Proofs
set_option maxRecDepth 100000
set_option linter.unusedVariables false
noncomputable section
theorem TT:True:=True.intro
abbrev sY (n:Nat)(x:_):=sl n (aV false [cD x])
abbrev ln9 (n:Nat):Go.Op:=.call { callee:=.builtin .len,args:=#[(.tmp n)],argTypes:=#[9] }
abbrev Pg:=Tryz.prog
abbrev I8 (t:Type):Type:=Int->Int->Int->Int->Int->Int->Int->Int->t
abbrev I15 (t:Type):Type:=Int->Int->Int->Int->Int->Int->Int->Int->Int->Int->Int->Int->Int->Int->Int->t
theorem followsTry:Pg.follows .mixedOrders=true:=by kernel_rfl
abbrev nt10:Nat:=16
def sh10:SG:=[]
def tr10:TG:=[tT 0 [0,1],tT 1 [0,1,5],tT 2 [5,12],tT 3 [5],tT 4 [4]]
def tl10:TG:=[]
def ac10:ACode:=codeF Pg Tryz.f10 tr10 tl10
def rs10:List AResV:=resF Pg Tryz.f10
def pr10_0_0:PT (List RV):=pRs [wI]
def ur10_0_0 {β:Type}(g:List RV->β):Int->β:=pr10_0_0.unc g
def E10_0g:EnvK:=EnvK.of [] noSeq
def E10_0:EnvK:=E10_0g
theorem eo10_0:E10_0.Ok Pg:=EnvK.of_ok noSeq_ok TT
abbrev Tf10_0:Type 1:=(α:Type)->Int->Int->(Int->Op α)->Op α
def f10_0g (α:Type)(b a:Int)(k1:Int->Op α):Op α:=
 gK (a != 0) (gK (a != 0) (cK (decide ((Int.tmod b a) < 0))
 (k1 (w64 ((w64 (Int.tdiv b a)) - 1)))
 (k1 (w64 (Int.tdiv b a)))))
def f10_0 (α:Type)(a b:Int)(k1:Int->Op α):Op α:=f10_0g α a b k1
def pa10_0:PT (List DV):=pA [vI,vI]
def Fn10_0 (v:Tf10_0)(α:Type)(k:RT α):Int->Int->Op α:=fun a b=>v α a b (fun c=>ur10_0_0 k c)
def cm10_0g:MCode:=(emb ac10)
def cm10_0:MCode:=cm10_0g
theorem gm10_0:cm10_0.Good Pg E10_0 sh10:=(emb_good ac10)
theorem em10_0:cm10_0.erase=ac10:=(emb_erase _)
theorem fm10_0g (α:Type)(k:RT α):Fn10_0 (f10_0g ) α k=pa10_0.unc fun ds=>fnM Pg (E10_0g ) sh10 (cm10_0g ) rs10 k ds:=by kernel_rfl
theorem fm10_0:∀ (α:Type) (k:RT α),Fn10_0 f10_0 α k=pa10_0.unc fun ds=>fnM Pg E10_0 sh10 cm10_0 rs10 k ds:=fm10_0g
theorem is10:FnIs Pg 10 nt10 tr10 tl10 ac10 rs10:=codeF_is Tryz.func10 (by kernel_rfl)
theorem io10_0:InstOk Pg 10 nt10 ⟨pa10_0,Fn10_0 f10_0⟩:=inst_ok eo10_0 followsTry is10 ⟨⟨sh10,cm10_0,em10_0,gm10_0,fm10_0⟩⟩
abbrev nt38:Nat:=20
def sh38:SG:=[(6,iT),(9,iT),(13,iT),(16,iT)]
def tr38:TG:=[tT 0 [2,3,4],tT 1 [4]]
def tl38:TG:=[]
def ac38:ACode:=codeF Pg Tryz.f38 tr38 tl38
def rs38:List AResV:=resF Pg Tryz.f38
def pr38_0_0:PT (List RV):=pRs [pR true [rD (dI .i64),rD (dI .i64)]]
def ur38_0_0 {β:Type}(g:List RV->β):Int->Int->β:=pr38_0_0.unc g
def E38_0g:EnvK:=EnvK.of [] noSeq
def E38_0:EnvK:=E38_0g
theorem eo38_0:E38_0.Ok Pg:=EnvK.of_ok noSeq_ok TT
abbrev Tf38_0:Type 1:=(α:Type)->Int->Int->Int->Int->(Int->Int->Op α)->Op α
def f38_0g (α:Type)(a b c d:Int)(k1:Int->Int->Op α):Op α:=
 k1 (if (w64 ((w64 (1048576 - b)) - d)) > 0 then (w64 ((w64 (1048576 - b)) - d)) else 0) (if (w64 ((w64 (1048576 - a)) - c)) > 0 then (w64 ((w64 (1048576 - a)) - c)) else 0)
def f38_0 (α:Type)(a b c d:Int)(k1:Int->Int->Op α):Op α:=f38_0g α a b c d k1
def pa38_0:PT (List DV):=pA [pV true [(dI .i64),(dI .i64)],pV true [(dI .i64),(dI .i64)]]
def Fn38_0 (v:Tf38_0)(α:Type)(k:RT α):I4 (Op α):=fun a b c d=>v α a b c d (fun e g=>ur38_0_0 k e g)
def cm38_0g:MCode:=(emb ac38)
def cm38_0:MCode:=cm38_0g
theorem gm38_0:cm38_0.Good Pg E38_0 sh38:=(emb_good ac38)
theorem em38_0:cm38_0.erase=ac38:=(emb_erase _)
theorem fm38_0g (α:Type)(k:RT α):Fn38_0 (f38_0g ) α k=pa38_0.unc fun ds=>fnM Pg (E38_0g ) sh38 (cm38_0g ) rs38 k ds:=by kernel_rfl
theorem fm38_0:∀ (α:Type) (k:RT α),Fn38_0 f38_0 α k=pa38_0.unc fun ds=>fnM Pg E38_0 sh38 cm38_0 rs38 k ds:=fm38_0g
theorem is38:FnIs Pg 38 nt38 tr38 tl38 ac38 rs38:=codeF_is Tryz.func38 (by kernel_rfl)
theorem io38_0:InstOk Pg 38 nt38 ⟨pa38_0,Fn38_0 f38_0⟩:=inst_ok eo38_0 followsTry is38 ⟨⟨sh38,cm38_0,em38_0,gm38_0,fm38_0⟩⟩
abbrev nt34:Nat:=10
def sh34:SG:=[(4,iT),(7,iT)]
def tr34:TG:=[tT 0 [1,2],tT 1 [2]]
def tl34:TG:=[]
def ac34:ACode:=codeF Pg Tryz.f34 tr34 tl34
def rs34:List AResV:=resF Pg Tryz.f34
def pr34_0_0:PT (List RV):=pRs [pR true [rD (dI .i64),rD (dI .i64)]]
def ur34_0_0 {β:Type}(g:List RV->β):Int->Int->β:=pr34_0_0.unc g
def E34_0g:EnvK:=EnvK.of [] noSeq
def E34_0:EnvK:=E34_0g
theorem eo34_0:E34_0.Ok Pg:=EnvK.of_ok noSeq_ok TT
abbrev Tf34_0:Type 1:=(α:Type)->Int->Int->(Int->Int->Op α)->Op α
def f34_0g (α:Type)(a b:Int)(k1:Int->Int->Op α):Op α:=
 k1 (if 1048576 < a then 1048576 else a) (if 1048576 < b then 1048576 else b)
def f34_0 (α:Type)(a b:Int)(k1:Int->Int->Op α):Op α:=f34_0g α a b k1
def pa34_0:PT (List DV):=pA [pV true [(dI .i64),(dI .i64)]]
def Fn34_0 (v:Tf34_0)(α:Type)(k:RT α):Int->Int->Op α:=fun a b=>v α a b (fun c d=>ur34_0_0 k c d)
def cm34_0g:MCode:=(emb ac34)
def cm34_0:MCode:=cm34_0g
theorem gm34_0:cm34_0.Good Pg E34_0 sh34:=(emb_good ac34)
theorem em34_0:cm34_0.erase=ac34:=(emb_erase _)
theorem fm34_0g (α:Type)(k:RT α):Fn34_0 (f34_0g ) α k=pa34_0.unc fun ds=>fnM Pg (E34_0g ) sh34 (cm34_0g ) rs34 k ds:=by kernel_rfl
theorem fm34_0:∀ (α:Type) (k:RT α),Fn34_0 f34_0 α k=pa34_0.unc fun ds=>fnM Pg E34_0 sh34 cm34_0 rs34 k ds:=fm34_0g
theorem is34:FnIs Pg 34 nt34 tr34 tl34 ac34 rs34:=codeF_is Tryz.func34 (by kernel_rfl)
theorem io34_0:InstOk Pg 34 nt34 ⟨pa34_0,Fn34_0 f34_0⟩:=inst_ok eo34_0 followsTry is34 ⟨⟨sh34,cm34_0,em34_0,gm34_0,fm34_0⟩⟩
abbrev nt150:Nat:=11
def sh150:SG:=[]
def tr150:TG:=[tT 0 [0],tT 1 [0,3],tT 2 [0,3,7],tT 3 [0,3],tT 4 [2]]
def tl150:TG:=[tT 2 [0,3]]
def ac150:ACode:=codeF Pg Tryz.f150 tr150 tl150
def rs150:List AResV:=resF Pg Tryz.f150
def td150_7:OT:=tdC (MCode.sub [1,1,0,0] (emb ac150))
def p150_0_0:PT St:=pS [sI 0,sI 3] []
def u150_0_0 {β:Type}(g:St->β):Int->Int->β:=p150_0_0.unc g
def p150_0_1:PT St:=pS [sI 0,sI 3,sY 7 dB] []
def u150_0_1 {β:Type}(g:St->β):Int->Int->Bool->β:=p150_0_1.unc g
def pr150_0_0:PT (List RV):=pRs [wI]
def ur150_0_0 {β:Type}(g:List RV->β):Int->β:=pr150_0_0.unc g
def E150_0g:EnvK:=EnvK.of [] noSeq
def E150_0:EnvK:=E150_0g
theorem eo150_0:E150_0.Ok Pg:=EnvK.of_ok noSeq_ok TT
def c150_0_7g:MCode:=MCode.sub [1,1,0,0,0] (emb ac150)
def c150_0_7:MCode:=c150_0_7g
def S150_0_0g (α:Type)(b a:Int)(kn:Int->Op α)(k1:Int->Bool->Op α):Op α:=
 gK (decide (0<=a)) (cK (decide ((w64 (1048576*2 ^ (min (Int.toNat a) 64))) < b))
 (kn (w64 (a+1)))
 (k1 a (decide ((w64 (1048576*2 ^ (min (Int.toNat a) 64))) < b))))
def S150_0_0 (α:Type)(a b:Int)(kn:Int->Op α)(k1:Int->Bool->Op α):Op α:=S150_0_0g α a b kn k1
def R150_0_0 (α:Type)(a:Int)(k1:Int->Bool->Op α):Nat->Int->Op α
 | 0,_=>none
 | n+1,b=>S150_0_0 α a b (R150_0_0 α a k1 n) k1
def L150_0_0 (α:Type)(a:Int)(k1:Int->Bool->Op α)(b:Int):Op α:=R150_0_0 α a k1 fuel b
abbrev TL150_0_0:Type 1:=(α:Type)->Int->(Int->Bool->Op α)->Int->Op α
def F150_0_0 (v:TL150_0_0)(α:Type)(K:KT α):Int->Int->Op α:=fun a b=>v α a (fun c d=>u150_0_1 (K (.exit 0)) a c d) b
theorem r150_0_0g (α:Type)(K:KT α)(Kn:SK α)(a b:Int):u150_0_0 (fun σ=>runM Pg (E150_0g ) sh150 (c150_0_7g ) (thenK (fun σ=>tidyK td150_7 σ Kn) K) σ) a b=S150_0_0g α a b (fun b=>u150_0_0 Kn a b) (fun c d=>u150_0_1 (K (.exit 0)) a c d):=by kernel_rfl
theorem r150_0_0 (α:Type)(K:KT α)(Kn:SK α)(a b:Int):u150_0_0 (fun σ=>runM Pg E150_0 sh150 c150_0_7 (thenK (fun σ=>tidyK td150_7 σ Kn) K) σ) a b=S150_0_0 α a b (fun b=>u150_0_0 Kn a b) (fun c d=>u150_0_1 (K (.exit 0)) a c d):=r150_0_0g α K Kn a b
theorem t150_0_0 (α:Type)(K:KT α):∀ (n:Nat) (a b:Int),R150_0_0 α a (fun c d=>u150_0_1 (K (.exit 0)) a c d) n b=u150_0_0 (loopT (runM Pg E150_0 sh150 c150_0_7) td150_7 K n) a b:=by
 intro n
 induction n with
 | zero=>intros;rfl
 | succ n ih=>intro a b;exact (congrArg (fun kn=>S150_0_0 α a b kn (fun c d=>u150_0_1 (K (.exit 0)) a c d)) (funext fun b=>ih a b)).trans (r150_0_0 α K (loopT (runM Pg E150_0 sh150 c150_0_7) td150_7 K n) a b).symm
theorem m150_0_0:∀ (α:Type) (K:KT α),F150_0_0 L150_0_0 α K=p150_0_0.unc fun σ=>loopT (runM Pg E150_0 sh150 c150_0_7) td150_7 K fuel σ:=fun α K=>funext fun a=>funext fun b=>t150_0_0 α K fuel a b
abbrev Tf150_0:Type 1:=(α:Type)->Int->(Int->Op α)->Op α
def f150_0g (a:TL150_0_0)(α:Type)(b:Int)(k1:Int->Op α):Op α:=
 a α b
 (fun c d=>k1 c) 0
def f150_0 (α:Type)(a:Int)(k1:Int->Op α):Op α:=f150_0g L150_0_0 α a k1
def pa150_0:PT (List DV):=pA [vI]
def Fn150_0 (v:Tf150_0)(α:Type)(k:RT α):Int->Op α:=fun a=>v α a (fun b=>ur150_0_0 k b)
def cm150_0g (a:TL150_0_0):MCode:=(MCode.put (.m [⟨p150_0_0,F150_0_0 a⟩]) [1,1,0,0] (emb ac150))
def cm150_0:MCode:=cm150_0g L150_0_0
theorem gm150_0:cm150_0.Good Pg E150_0 sh150:=(put_loop (td:=td150_7) (by kernel_rfl) (emb_good ac150) ⟨m150_0_0,TT⟩)
theorem em150_0:cm150_0.erase=ac150:=((put_erase _ _).trans (emb_erase _))
theorem fm150_0g (a:TL150_0_0)(α:Type)(k:RT α):Fn150_0 (f150_0g a) α k=pa150_0.unc fun ds=>fnM Pg (E150_0g ) sh150 (cm150_0g a) rs150 k ds:=by kernel_rfl
theorem fm150_0:∀ (α:Type) (k:RT α),Fn150_0 f150_0 α k=pa150_0.unc fun ds=>fnM Pg E150_0 sh150 cm150_0 rs150 k ds:=fm150_0g L150_0_0
theorem is150:FnIs Pg 150 nt150 tr150 tl150 ac150 rs150:=codeF_is Tryz.func150 (by kernel_rfl)
theorem io150_0:InstOk Pg 150 nt150 ⟨pa150_0,Fn150_0 f150_0⟩:=inst_ok eo150_0 followsTry is150 ⟨⟨sh150,cm150_0,em150_0,gm150_0,fm150_0⟩⟩
abbrev nt33:Nat:=10
def sh33:SG:=[(4,iT),(7,iT)]
def tr33:TG:=[tT 0 [1,2],tT 1 [2]]
def tl33:TG:=[]
def ac33:ACode:=codeF Pg Tryz.f33 tr33 tl33
def rs33:List AResV:=resF Pg Tryz.f33
def pr33_0_0:PT (List RV):=pRs [pR true [rD (dI .i64),rD (dI .i64)]]
def ur33_0_0 {β:Type}(g:List RV->β):Int->Int->β:=pr33_0_0.unc g
def E33_0g:EnvK:=EnvK.of [] noSeq
def E33_0:EnvK:=E33_0g
theorem eo33_0:E33_0.Ok Pg:=EnvK.of_ok noSeq_ok TT
abbrev Tf33_0:Type 1:=(α:Type)->Int->Int->(Int->Int->Op α)->Op α
def f33_0g (α:Type)(a b:Int)(k1:Int->Int->Op α):Op α:=
 k1 (if a > 0 then a else 0) (if b > 0 then b else 0)
def f33_0 (α:Type)(a b:Int)(k1:Int->Int->Op α):Op α:=f33_0g α a b k1
def pa33_0:PT (List DV):=pA [pV true [(dI .i64),(dI .i64)]]
def Fn33_0 (v:Tf33_0)(α:Type)(k:RT α):Int->Int->Op α:=fun a b=>v α a b (fun c d=>ur33_0_0 k c d)
def cm33_0g:MCode:=(emb ac33)
def cm33_0:MCode:=cm33_0g
theorem gm33_0:cm33_0.Good Pg E33_0 sh33:=(emb_good ac33)
theorem em33_0:cm33_0.erase=ac33:=(emb_erase _)
theorem fm33_0g (α:Type)(k:RT α):Fn33_0 (f33_0g ) α k=pa33_0.unc fun ds=>fnM Pg (E33_0g ) sh33 (cm33_0g ) rs33 k ds:=by kernel_rfl
theorem fm33_0:∀ (α:Type) (k:RT α),Fn33_0 f33_0 α k=pa33_0.unc fun ds=>fnM Pg E33_0 sh33 cm33_0 rs33 k ds:=fm33_0g
theorem is33:FnIs Pg 33 nt33 tr33 tl33 ac33 rs33:=codeF_is Tryz.func33 (by kernel_rfl)
theorem io33_0:InstOk Pg 33 nt33 ⟨pa33_0,Fn33_0 f33_0⟩:=inst_ok eo33_0 followsTry is33 ⟨⟨sh33,cm33_0,em33_0,gm33_0,fm33_0⟩⟩
abbrev nt78:Nat:=2
def sh78:SG:=[]
def tr78:TG:=[tT 0 [0],tT 1 [0]]
def tl78:TG:=[]
def ac78:ACode:=codeF Pg Tryz.f78 tr78 tl78
def rs78:List AResV:=resF Pg Tryz.f78
def pr78_0_0:PT (List RV):=pRs [pR true [rD (dX .f64),rD (dI .i64)]]
def ur78_0_0 {β:Type}(g:List RV->β):Nat->Nat->Int->β:=pr78_0_0.unc g
def E78_0g:EnvK:=EnvK.of [] noSeq
def E78_0:EnvK:=E78_0g
theorem eo78_0:E78_0.Ok Pg:=EnvK.of_ok noSeq_ok TT
abbrev Tf78_0:Type 1:=(α:Type)->(Op α)->Op α
def f78_0g (α:Type)(k1:Op α):Op α:=
 k1
def f78_0 (α:Type)(k1:Op α):Op α:=f78_0g α k1
def pa78_0:PT (List DV):=pA []
def Fn78_0 (v:Tf78_0)(α:Type)(k:RT α):Op α:=v α (ur78_0_0 k 0 0 0)
def cm78_0g:MCode:=(emb ac78)
def cm78_0:MCode:=cm78_0g
theorem gm78_0:cm78_0.Good Pg E78_0 sh78:=(emb_good ac78)
theorem em78_0:cm78_0.erase=ac78:=(emb_erase _)
theorem fm78_0g (α:Type)(k:RT α):Fn78_0 (f78_0g ) α k=pa78_0.unc fun ds=>fnM Pg (E78_0g ) sh78 (cm78_0g ) rs78 k ds:=by kernel_rfl
theorem fm78_0:∀ (α:Type) (k:RT α),Fn78_0 f78_0 α k=pa78_0.unc fun ds=>fnM Pg E78_0 sh78 cm78_0 rs78 k ds:=fm78_0g
theorem is78:FnIs Pg 78 nt78 tr78 tl78 ac78 rs78:=codeF_is Tryz.func78 (by kernel_rfl)
theorem io78_0:InstOk Pg 78 nt78 ⟨pa78_0,Fn78_0 f78_0⟩:=inst_ok eo78_0 followsTry is78 ⟨⟨sh78,cm78_0,em78_0,gm78_0,fm78_0⟩⟩
abbrev nt77:Nat:=2
def sh77:SG:=[]
def tr77:TG:=[tT 0 [0],tT 1 [0]]
def tl77:TG:=[]
def ac77:ACode:=codeF Pg Tryz.f77 tr77 tl77
def rs77:List AResV:=resF Pg Tryz.f77
def pr77_0_0:PT (List RV):=pRs [pR true [rD (dX .f64),rD (dI .i64)]]
def ur77_0_0 {β:Type}(g:List RV->β):Nat->Nat->Int->β:=pr77_0_0.unc g
def E77_0g:EnvK:=EnvK.of [] noSeq
def E77_0:EnvK:=E77_0g
theorem eo77_0:E77_0.Ok Pg:=EnvK.of_ok noSeq_ok TT
abbrev Tf77_0:Type 1:=(α:Type)->(Op α)->Op α
def f77_0g (α:Type)(k1:Op α):Op α:=
 k1
def f77_0 (α:Type)(k1:Op α):Op α:=f77_0g α k1
def pa77_0:PT (List DV):=pA []
def Fn77_0 (v:Tf77_0)(α:Type)(k:RT α):Op α:=v α (ur77_0_0 k 4697254411347427328 0 0)
def cm77_0g:MCode:=(emb ac77)
def cm77_0:MCode:=cm77_0g
theorem gm77_0:cm77_0.Good Pg E77_0 sh77:=(emb_good ac77)
theorem em77_0:cm77_0.erase=ac77:=(emb_erase _)
theorem fm77_0g (α:Type)(k:RT α):Fn77_0 (f77_0g ) α k=pa77_0.unc fun ds=>fnM Pg (E77_0g ) sh77 (cm77_0g ) rs77 k ds:=by kernel_rfl
theorem fm77_0:∀ (α:Type) (k:RT α),Fn77_0 f77_0 α k=pa77_0.unc fun ds=>fnM Pg E77_0 sh77 cm77_0 rs77 k ds:=fm77_0g
theorem is77:FnIs Pg 77 nt77 tr77 tl77 ac77 rs77:=codeF_is Tryz.func77 (by kernel_rfl)
theorem io77_0:InstOk Pg 77 nt77 ⟨pa77_0,Fn77_0 f77_0⟩:=inst_ok eo77_0 followsTry is77 ⟨⟨sh77,cm77_0,em77_0,gm77_0,fm77_0⟩⟩
abbrev nt119:Nat:=9
def sh119:SG:=[(4,iT),(6,iT)]
def tr119:TG:=[tT 0 [1,2],tT 1 [2]]
def tl119:TG:=[]
def ac119:ACode:=codeF Pg Tryz.f119 tr119 tl119
def rs119:List AResV:=resF Pg Tryz.f119
def pr119_0_0:PT (List RV):=pRs [pR true [rD (dI .i64),rD (dI .i64)]]
def ur119_0_0 {β:Type}(g:List RV->β):Int->Int->β:=pr119_0_0.unc g
def E119_0g:EnvK:=EnvK.of [] noSeq
def E119_0:EnvK:=E119_0g
theorem eo119_0:E119_0.Ok Pg:=EnvK.of_ok noSeq_ok TT
abbrev Tf119_0:Type 1:=(α:Type)->Int->(Int->Op α)->Op α
def f119_0g (α:Type)(a:Int)(k1:Int->Op α):Op α:=
 k1 (w64 (0 - a))
def f119_0 (α:Type)(a:Int)(k1:Int->Op α):Op α:=f119_0g α a k1
def pa119_0:PT (List DV):=pA [pV true [(dI .i64),(dI .i64)]]
def Fn119_0 (v:Tf119_0)(α:Type)(k:RT α):Int->Int->Op α:=fun a b=>v α b (fun c=>ur119_0_0 k a c)
def cm119_0g:MCode:=(emb ac119)
def cm119_0:MCode:=cm119_0g
theorem gm119_0:cm119_0.Good Pg E119_0 sh119:=(emb_good ac119)
theorem em119_0:cm119_0.erase=ac119:=(emb_erase _)
theorem fm119_0g (α:Type)(k:RT α):Fn119_0 (f119_0g ) α k=pa119_0.unc fun ds=>fnM Pg (E119_0g ) sh119 (cm119_0g ) rs119 k ds:=by kernel_rfl
theorem fm119_0:∀ (α:Type) (k:RT α),Fn119_0 f119_0 α k=pa119_0.unc fun ds=>fnM Pg E119_0 sh119 cm119_0 rs119 k ds:=fm119_0g
theorem is119:FnIs Pg 119 nt119 tr119 tl119 ac119 rs119:=codeF_is Tryz.func119 (by kernel_rfl)
theorem io119_0:InstOk Pg 119 nt119 ⟨pa119_0,Fn119_0 f119_0⟩:=inst_ok eo119_0 followsTry is119 ⟨⟨sh119,cm119_0,em119_0,gm119_0,fm119_0⟩⟩
abbrev nt87:Nat:=13
def sh87:SG:=[(6,iT),(10,iT)]
def tr87:TG:=[tT 0 [0,1,3],tT 1 [3]]
def tl87:TG:=[]
def ac87:ACode:=codeF Pg Tryz.f87 tr87 tl87
def rs87:List AResV:=resF Pg Tryz.f87
def pr87_0_0:PT (List RV):=pRs [pR true [rD (dI .i64),rD (dI .i64)]]
def ur87_0_0 {β:Type}(g:List RV->β):Int->Int->β:=pr87_0_0.unc g
def E87_0g:EnvK:=EnvK.of [] noSeq
def E87_0:EnvK:=E87_0g
theorem eo87_0:E87_0.Ok Pg:=EnvK.of_ok noSeq_ok TT
abbrev Tf87_0:Type 1:=(α:Type)->Int->Int->(Int->Int->Op α)->Op α
def f87_0g (α:Type)(a b:Int)(k1:Int->Int->Op α):Op α:=
 k1 (w64 (a - b)) (w64 (a+b))
def f87_0 (α:Type)(a b:Int)(k1:Int->Int->Op α):Op α:=f87_0g α a b k1
def pa87_0:PT (List DV):=pA [vI,pV false [(dP [(dI .i64),(dI .i64),(dI .i64)] 0)]]
def Fn87_0 (v:Tf87_0)(α:Type)(k:RT α):I4 (Op α):=fun a e g b=>v α a b (fun c d=>ur87_0_0 k c d)
def cm87_0g:MCode:=(emb ac87)
def cm87_0:MCode:=cm87_0g
theorem gm87_0:cm87_0.Good Pg E87_0 sh87:=(emb_good ac87)
theorem em87_0:cm87_0.erase=ac87:=(emb_erase _)
theorem fm87_0g (α:Type)(k:RT α):Fn87_0 (f87_0g ) α k=pa87_0.unc fun ds=>fnM Pg (E87_0g ) sh87 (cm87_0g ) rs87 k ds:=by kernel_rfl
theorem fm87_0:∀ (α:Type) (k:RT α),Fn87_0 f87_0 α k=pa87_0.unc fun ds=>fnM Pg E87_0 sh87 cm87_0 rs87 k ds:=fm87_0g
theorem is87:FnIs Pg 87 nt87 tr87 tl87 ac87 rs87:=codeF_is Tryz.func87 (by kernel_rfl)
theorem io87_0:InstOk Pg 87 nt87 ⟨pa87_0,Fn87_0 f87_0⟩:=inst_ok eo87_0 followsTry is87 ⟨⟨sh87,cm87_0,em87_0,gm87_0,fm87_0⟩⟩
abbrev nt151:Nat:=25
def sh151:SG:=[]
def tr151:TG:=[tT 0 [0,2],tT 1 [0,2,4],tT 2 [0],tT 3 [0,2],tT 4 [0,2,8],tT 5 [0,2],tT 6 [0,2],tT 7 [0,2,14],tT 8 [0,2],tT 9 [0,2],tT 10 [2]]
def tl151:TG:=[]
def ac151:ACode:=codeF Pg Tryz.f151 tr151 tl151
def rs151:List AResV:=resF Pg Tryz.f151
def p151_0_0:PT St:=pS [sY 0 (dI .u64),sI 2] []
def u151_0_0 {β:Type}(g:St->β):Int->Int->β:=p151_0_0.unc g
def p151_0_1:PT St:=pS [sY 0 (dI .u64),sI 2,sY 4 dB] []
def u151_0_1 {β:Type}(g:St->β):Int->Int->Bool->β:=p151_0_1.unc g
def p151_0_2:PT St:=pS [sY 0 (dI .u64),sI 2,sY 8 dB] []
def u151_0_2 {β:Type}(g:St->β):Int->Int->Bool->β:=p151_0_2.unc g
def p151_0_3:PT St:=pS [sY 0 (dI .u64),sI 2,sY 14 dB] []
def u151_0_3 {β:Type}(g:St->β):Int->Int->Bool->β:=p151_0_3.unc g
def pr151_0_0:PT (List RV):=pRs [wI]
def ur151_0_0 {β:Type}(g:List RV->β):Int->β:=pr151_0_0.unc g
def E151_0g:EnvK:=EnvK.of [] noSeq
def E151_0:EnvK:=E151_0g
theorem eo151_0:E151_0.Ok Pg:=EnvK.of_ok noSeq_ok TT
def c151_0_17g:MCode:=MCode.sub [1,1,1,0] (emb ac151)
def c151_0_17:MCode:=c151_0_17g
abbrev TJ151_0_2:Type 1:=(α:Type)->Int->Int->(Int->Int->Op α)->(Bool->Op α)->Op α
def J151_0_2g (α:Type)(a b:Int)(k1:Int->Int->Op α)(k2:Bool->Op α):Op α:=
 cK (decide (256<=a))
 (k1 (Int.fdiv a (2 ^ 8)) (w64 (b+8)))
 (k2 (decide (256<=a)))
def J151_0_2 (α:Type)(a b:Int)(k1:Int->Int->Op α)(k2:Bool->Op α):Op α:=J151_0_2g α a b k1 k2
def F151_0_2 (v:TJ151_0_2)(α:Type)(K:KT α):Int->Int->Op α:=fun b c=>v α b c (fun a d=>u151_0_0 (K .normal) a d) (fun a=>u151_0_3 (K .normal) b c a)
theorem m151_0_2g (α:Type)(K:KT α):F151_0_2 (J151_0_2g ) α K=p151_0_0.unc fun σ=>runM Pg (E151_0g ) sh151 (c151_0_17g ) K σ:=by kernel_rfl
theorem m151_0_2:∀ (α:Type) (K:KT α),F151_0_2 J151_0_2 α K=p151_0_0.unc fun σ=>runM Pg E151_0 sh151 c151_0_17 K σ:=m151_0_2g
abbrev TJ151_0_3:Type 1:=(α:Type)->Int->Int->(Int->Int->Op α)->(Bool->Op α)->Op α
def J151_0_3g (α:Type)(a b:Int)(k1:Int->Int->Op α)(k2:Bool->Op α):Op α:=
 cK (decide (256<=a))
 (k1 (Int.fdiv a (2 ^ 8)) (w64 (b+8)))
 (k2 (decide (256<=a)))
def J151_0_3 (α:Type)(a b:Int)(k1:Int->Int->Op α)(k2:Bool->Op α):Op α:=J151_0_3g α a b k1 k2
def F151_0_3 (v:TJ151_0_3)(α:Type)(K:KT α):Int->Int->Bool->Op α:=fun b c e=>v α b c (fun a d=>u151_0_0 (K .normal) a d) (fun a=>u151_0_3 (K .normal) b c a)
theorem m151_0_3g (α:Type)(K:KT α):F151_0_3 (J151_0_3g ) α K=p151_0_2.unc fun σ=>runM Pg (E151_0g ) sh151 (c151_0_17g ) K σ:=by kernel_rfl
theorem m151_0_3:∀ (α:Type) (K:KT α),F151_0_3 J151_0_3 α K=p151_0_2.unc fun σ=>runM Pg E151_0 sh151 c151_0_17 K σ:=m151_0_3g
def c151_0_10g:MCode:=MCode.sub [1,1,0] (emb ac151)
def c151_0_10:MCode:=c151_0_10g
abbrev TJ151_0_1:Type 1:=(α:Type)->Int->Int->(Int->Int->Op α)->(Bool->Op α)->Op α
def J151_0_1g (α:Type)(a b:Int)(k1:Int->Int->Op α)(k2:Bool->Op α):Op α:=
 cK (decide (65536<=a))
 (k1 (Int.fdiv a (2 ^ 16)) (w64 (b+16)))
 (k2 (decide (65536<=a)))
def J151_0_1 (α:Type)(a b:Int)(k1:Int->Int->Op α)(k2:Bool->Op α):Op α:=J151_0_1g α a b k1 k2
def F151_0_1 (v:TJ151_0_1)(α:Type)(K:KT α):Int->Int->Op α:=fun b c=>v α b c (fun a d=>u151_0_0 (K .normal) a d) (fun a=>u151_0_2 (K .normal) b c a)
theorem m151_0_1g (α:Type)(K:KT α):F151_0_1 (J151_0_1g ) α K=p151_0_0.unc fun σ=>runM Pg (E151_0g ) sh151 (c151_0_10g ) K σ:=by kernel_rfl
theorem m151_0_1:∀ (α:Type) (K:KT α),F151_0_1 J151_0_1 α K=p151_0_0.unc fun σ=>runM Pg E151_0 sh151 c151_0_10 K σ:=m151_0_1g
abbrev TJ151_0_4:Type 1:=(α:Type)->Int->Int->(Int->Int->Op α)->(Bool->Op α)->Op α
def J151_0_4g (α:Type)(a b:Int)(k1:Int->Int->Op α)(k2:Bool->Op α):Op α:=
 cK (decide (65536<=a))
 (k1 (Int.fdiv a (2 ^ 16)) (w64 (b+16)))
 (k2 (decide (65536<=a)))
def J151_0_4 (α:Type)(a b:Int)(k1:Int->Int->Op α)(k2:Bool->Op α):Op α:=J151_0_4g α a b k1 k2
def F151_0_4 (v:TJ151_0_4)(α:Type)(K:KT α):Int->Int->Bool->Op α:=fun b c e=>v α b c (fun a d=>u151_0_0 (K .normal) a d) (fun a=>u151_0_2 (K .normal) b c a)
theorem m151_0_4g (α:Type)(K:KT α):F151_0_4 (J151_0_4g ) α K=p151_0_1.unc fun σ=>runM Pg (E151_0g ) sh151 (c151_0_10g ) K σ:=by kernel_rfl
theorem m151_0_4:∀ (α:Type) (K:KT α),F151_0_4 J151_0_4 α K=p151_0_1.unc fun σ=>runM Pg E151_0 sh151 c151_0_10 K σ:=m151_0_4g
def c151_0_3g:MCode:=MCode.sub [1,0] (emb ac151)
def c151_0_3:MCode:=c151_0_3g
abbrev TJ151_0_0:Type 1:=(α:Type)->Int->(Int->Op α)->(Bool->Op α)->Op α
def J151_0_0g (α:Type)(a:Int)(k1:Int->Op α)(k2:Bool->Op α):Op α:=
 cK (decide (4294967296<=a))
 (k1 (Int.fdiv a (2 ^ 32)))
 (k2 (decide (4294967296<=a)))
def J151_0_0 (α:Type)(a:Int)(k1:Int->Op α)(k2:Bool->Op α):Op α:=J151_0_0g α a k1 k2
def F151_0_0 (v:TJ151_0_0)(α:Type)(K:KT α):Int->Int->Op α:=fun b c=>v α b (fun a=>u151_0_0 (K .normal) a 32) (fun a=>u151_0_1 (K .normal) b c a)
theorem m151_0_0g (α:Type)(K:KT α):F151_0_0 (J151_0_0g ) α K=p151_0_0.unc fun σ=>runM Pg (E151_0g ) sh151 (c151_0_3g ) K σ:=by kernel_rfl
theorem m151_0_0:∀ (α:Type) (K:KT α),F151_0_0 J151_0_0 α K=p151_0_0.unc fun σ=>runM Pg E151_0 sh151 c151_0_3 K σ:=m151_0_0g
abbrev Tf151_0:Type 1:=(α:Type)->Int->(Int->Op α)->Op α
def f151_0g (j:TJ151_0_0)(l:TJ151_0_1)(c:TJ151_0_2)(d:TJ151_0_3)(m:TJ151_0_4)(α:Type)(a:Int)(k1:Int->Op α):Op α:=
 j α a
 (fun b=>l α b 32
 (fun e g=>c α e g
 (fun o p=>sixK (⟨#[0,1,2,2,3,3,3,3,4,4,4,4,4,4,4,4,5,5,5,5,5,5,5,5,5,5,5,5,5,5,5,5,6,6,6,6,6,6,6,6,6,6,6,6,6,6,6,6,6,6,6,6,6,6,6,6,6,6,6,6,6,6,6,6,7,7,7,7,7,7,7,7,7,7,7,7,7,7,7,7,7,7,7,7,7,7,7,7,7,7,7,7,7,7,7,7,7,7,7,7,7,7,7,7,7,7,7,7,7,7,7,7,7,7,7,7,7,7,7,7,7,7,7,7,7,7,7,7,8,8,8,8,8,8,8,8,8,8,8,8,8,8,8,8,8,8,8,8,8,8,8,8,8,8,8,8,8,8,8,8,8,8,8,8,8,8,8,8,8,8,8,8,8,8,8,8,8,8,8,8,8,8,8,8,8,8,8,8,8,8,8,8,8,8,8,8,8,8,8,8,8,8,8,8,8,8,8,8,8,8,8,8,8,8,8,8,8,8,8,8,8,8,8,8,8,8,8,8,8,8,8,8,8,8,8,8,8,8,8,8,8,8,8,8,8,8,8,8,8,8,8,8,8,8,8,8]⟩:BA) (IntKind.wrap .u8 (o))
 (fun q=>k1 (w64 (p+(w64 (((UInt8.toNat q:Nat):Int)))))))
 (fun J=>sixK (⟨#[0,1,2,2,3,3,3,3,4,4,4,4,4,4,4,4,5,5,5,5,5,5,5,5,5,5,5,5,5,5,5,5,6,6,6,6,6,6,6,6,6,6,6,6,6,6,6,6,6,6,6,6,6,6,6,6,6,6,6,6,6,6,6,6,7,7,7,7,7,7,7,7,7,7,7,7,7,7,7,7,7,7,7,7,7,7,7,7,7,7,7,7,7,7,7,7,7,7,7,7,7,7,7,7,7,7,7,7,7,7,7,7,7,7,7,7,7,7,7,7,7,7,7,7,7,7,7,7,8,8,8,8,8,8,8,8,8,8,8,8,8,8,8,8,8,8,8,8,8,8,8,8,8,8,8,8,8,8,8,8,8,8,8,8,8,8,8,8,8,8,8,8,8,8,8,8,8,8,8,8,8,8,8,8,8,8,8,8,8,8,8,8,8,8,8,8,8,8,8,8,8,8,8,8,8,8,8,8,8,8,8,8,8,8,8,8,8,8,8,8,8,8,8,8,8,8,8,8,8,8,8,8,8,8,8,8,8,8,8,8,8,8,8,8,8,8,8,8,8,8,8,8,8,8,8,8]⟩:BA) (IntKind.wrap .u8 (e))
 (fun r=>k1 (w64 (g+(w64 (((UInt8.toNat r:Nat):Int))))))))
 (fun L=>d α b 32
 (fun s t=>sixK (⟨#[0,1,2,2,3,3,3,3,4,4,4,4,4,4,4,4,5,5,5,5,5,5,5,5,5,5,5,5,5,5,5,5,6,6,6,6,6,6,6,6,6,6,6,6,6,6,6,6,6,6,6,6,6,6,6,6,6,6,6,6,6,6,6,6,7,7,7,7,7,7,7,7,7,7,7,7,7,7,7,7,7,7,7,7,7,7,7,7,7,7,7,7,7,7,7,7,7,7,7,7,7,7,7,7,7,7,7,7,7,7,7,7,7,7,7,7,7,7,7,7,7,7,7,7,7,7,7,7,8,8,8,8,8,8,8,8,8,8,8,8,8,8,8,8,8,8,8,8,8,8,8,8,8,8,8,8,8,8,8,8,8,8,8,8,8,8,8,8,8,8,8,8,8,8,8,8,8,8,8,8,8,8,8,8,8,8,8,8,8,8,8,8,8,8,8,8,8,8,8,8,8,8,8,8,8,8,8,8,8,8,8,8,8,8,8,8,8,8,8,8,8,8,8,8,8,8,8,8,8,8,8,8,8,8,8,8,8,8,8,8,8,8,8,8,8,8,8,8,8,8,8,8,8,8,8,8]⟩:BA) (IntKind.wrap .u8 (s))
 (fun w=>k1 (w64 (t+(w64 (((UInt8.toNat w:Nat):Int)))))))
 (fun M=>sixK (⟨#[0,1,2,2,3,3,3,3,4,4,4,4,4,4,4,4,5,5,5,5,5,5,5,5,5,5,5,5,5,5,5,5,6,6,6,6,6,6,6,6,6,6,6,6,6,6,6,6,6,6,6,6,6,6,6,6,6,6,6,6,6,6,6,6,7,7,7,7,7,7,7,7,7,7,7,7,7,7,7,7,7,7,7,7,7,7,7,7,7,7,7,7,7,7,7,7,7,7,7,7,7,7,7,7,7,7,7,7,7,7,7,7,7,7,7,7,7,7,7,7,7,7,7,7,7,7,7,7,8,8,8,8,8,8,8,8,8,8,8,8,8,8,8,8,8,8,8,8,8,8,8,8,8,8,8,8,8,8,8,8,8,8,8,8,8,8,8,8,8,8,8,8,8,8,8,8,8,8,8,8,8,8,8,8,8,8,8,8,8,8,8,8,8,8,8,8,8,8,8,8,8,8,8,8,8,8,8,8,8,8,8,8,8,8,8,8,8,8,8,8,8,8,8,8,8,8,8,8,8,8,8,8,8,8,8,8,8,8,8,8,8,8,8,8,8,8,8,8,8,8,8,8,8,8,8,8]⟩:BA) (IntKind.wrap .u8 (b))
 (fun z=>k1 (w64 (32+(w64 (((UInt8.toNat z:Nat):Int)))))))))
 (fun N=>m α a 0
 (fun h i=>c α h i
 (fun A B=>sixK (⟨#[0,1,2,2,3,3,3,3,4,4,4,4,4,4,4,4,5,5,5,5,5,5,5,5,5,5,5,5,5,5,5,5,6,6,6,6,6,6,6,6,6,6,6,6,6,6,6,6,6,6,6,6,6,6,6,6,6,6,6,6,6,6,6,6,7,7,7,7,7,7,7,7,7,7,7,7,7,7,7,7,7,7,7,7,7,7,7,7,7,7,7,7,7,7,7,7,7,7,7,7,7,7,7,7,7,7,7,7,7,7,7,7,7,7,7,7,7,7,7,7,7,7,7,7,7,7,7,7,8,8,8,8,8,8,8,8,8,8,8,8,8,8,8,8,8,8,8,8,8,8,8,8,8,8,8,8,8,8,8,8,8,8,8,8,8,8,8,8,8,8,8,8,8,8,8,8,8,8,8,8,8,8,8,8,8,8,8,8,8,8,8,8,8,8,8,8,8,8,8,8,8,8,8,8,8,8,8,8,8,8,8,8,8,8,8,8,8,8,8,8,8,8,8,8,8,8,8,8,8,8,8,8,8,8,8,8,8,8,8,8,8,8,8,8,8,8,8,8,8,8,8,8,8,8,8,8]⟩:BA) (IntKind.wrap .u8 (A))
 (fun C=>k1 (w64 (B+(w64 (((UInt8.toNat C:Nat):Int)))))))
 (fun O=>sixK (⟨#[0,1,2,2,3,3,3,3,4,4,4,4,4,4,4,4,5,5,5,5,5,5,5,5,5,5,5,5,5,5,5,5,6,6,6,6,6,6,6,6,6,6,6,6,6,6,6,6,6,6,6,6,6,6,6,6,6,6,6,6,6,6,6,6,7,7,7,7,7,7,7,7,7,7,7,7,7,7,7,7,7,7,7,7,7,7,7,7,7,7,7,7,7,7,7,7,7,7,7,7,7,7,7,7,7,7,7,7,7,7,7,7,7,7,7,7,7,7,7,7,7,7,7,7,7,7,7,7,8,8,8,8,8,8,8,8,8,8,8,8,8,8,8,8,8,8,8,8,8,8,8,8,8,8,8,8,8,8,8,8,8,8,8,8,8,8,8,8,8,8,8,8,8,8,8,8,8,8,8,8,8,8,8,8,8,8,8,8,8,8,8,8,8,8,8,8,8,8,8,8,8,8,8,8,8,8,8,8,8,8,8,8,8,8,8,8,8,8,8,8,8,8,8,8,8,8,8,8,8,8,8,8,8,8,8,8,8,8,8,8,8,8,8,8,8,8,8,8,8,8,8,8,8,8,8,8]⟩:BA) (IntKind.wrap .u8 (h))
 (fun D=>k1 (w64 (i+(w64 (((UInt8.toNat D:Nat):Int))))))))
 (fun P=>d α a 0
 (fun F G=>sixK (⟨#[0,1,2,2,3,3,3,3,4,4,4,4,4,4,4,4,5,5,5,5,5,5,5,5,5,5,5,5,5,5,5,5,6,6,6,6,6,6,6,6,6,6,6,6,6,6,6,6,6,6,6,6,6,6,6,6,6,6,6,6,6,6,6,6,7,7,7,7,7,7,7,7,7,7,7,7,7,7,7,7,7,7,7,7,7,7,7,7,7,7,7,7,7,7,7,7,7,7,7,7,7,7,7,7,7,7,7,7,7,7,7,7,7,7,7,7,7,7,7,7,7,7,7,7,7,7,7,7,8,8,8,8,8,8,8,8,8,8,8,8,8,8,8,8,8,8,8,8,8,8,8,8,8,8,8,8,8,8,8,8,8,8,8,8,8,8,8,8,8,8,8,8,8,8,8,8,8,8,8,8,8,8,8,8,8,8,8,8,8,8,8,8,8,8,8,8,8,8,8,8,8,8,8,8,8,8,8,8,8,8,8,8,8,8,8,8,8,8,8,8,8,8,8,8,8,8,8,8,8,8,8,8,8,8,8,8,8,8,8,8,8,8,8,8,8,8,8,8,8,8,8,8,8,8,8,8]⟩:BA) (IntKind.wrap .u8 (F))
 (fun H=>k1 (w64 (G+(w64 (((UInt8.toNat H:Nat):Int)))))))
 (fun Q=>sixK (⟨#[0,1,2,2,3,3,3,3,4,4,4,4,4,4,4,4,5,5,5,5,5,5,5,5,5,5,5,5,5,5,5,5,6,6,6,6,6,6,6,6,6,6,6,6,6,6,6,6,6,6,6,6,6,6,6,6,6,6,6,6,6,6,6,6,7,7,7,7,7,7,7,7,7,7,7,7,7,7,7,7,7,7,7,7,7,7,7,7,7,7,7,7,7,7,7,7,7,7,7,7,7,7,7,7,7,7,7,7,7,7,7,7,7,7,7,7,7,7,7,7,7,7,7,7,7,7,7,7,8,8,8,8,8,8,8,8,8,8,8,8,8,8,8,8,8,8,8,8,8,8,8,8,8,8,8,8,8,8,8,8,8,8,8,8,8,8,8,8,8,8,8,8,8,8,8,8,8,8,8,8,8,8,8,8,8,8,8,8,8,8,8,8,8,8,8,8,8,8,8,8,8,8,8,8,8,8,8,8,8,8,8,8,8,8,8,8,8,8,8,8,8,8,8,8,8,8,8,8,8,8,8,8,8,8,8,8,8,8,8,8,8,8,8,8,8,8,8,8,8,8,8,8,8,8,8,8]⟩:BA) (IntKind.wrap .u8 (a))
 (fun I=>k1 (w64 (0+(w64 (((UInt8.toNat I:Nat):Int)))))))))
def f151_0 (α:Type)(a:Int)(k1:Int->Op α):Op α:=f151_0g J151_0_0 J151_0_1 J151_0_2 J151_0_3 J151_0_4 α a k1
def pa151_0:PT (List DV):=pA [pV false [(dI .u64)]]
def Fn151_0 (v:Tf151_0)(α:Type)(k:RT α):Int->Op α:=fun a=>v α a (fun b=>ur151_0_0 k b)
def cm151_0g (a:TJ151_0_0)(b:TJ151_0_1)(c:TJ151_0_4)(d:TJ151_0_2)(e:TJ151_0_3):MCode:=(MCode.put (.m [⟨p151_0_0,F151_0_0 a⟩]) [1] (MCode.put (.m [⟨p151_0_0,F151_0_1 b⟩,⟨p151_0_1,F151_0_4 c⟩]) [1,1] (MCode.put (.m [⟨p151_0_0,F151_0_2 d⟩,⟨p151_0_2,F151_0_3 e⟩]) [1,1,1] (emb ac151))))
def cm151_0:MCode:=cm151_0g J151_0_0 J151_0_1 J151_0_4 J151_0_2 J151_0_3
theorem gm151_0:cm151_0.Good Pg E151_0 sh151:=(put_seq (by kernel_rfl) (put_seq (by kernel_rfl) (put_seq (by kernel_rfl) (emb_good ac151) ⟨m151_0_2,m151_0_3,TT⟩) ⟨m151_0_1,m151_0_4,TT⟩) ⟨m151_0_0,TT⟩)
theorem em151_0:cm151_0.erase=ac151:=((put_erase _ _).trans ((put_erase _ _).trans ((put_erase _ _).trans (emb_erase _))))
theorem fm151_0g (a:TJ151_0_0)(b:TJ151_0_1)(c:TJ151_0_4)(d:TJ151_0_2)(e:TJ151_0_3)(α:Type)(k:RT α):Fn151_0 (f151_0g a b d e c) α k=pa151_0.unc fun ds=>fnM Pg (E151_0g ) sh151 (cm151_0g a b c d e) rs151 k ds:=by kernel_rfl
theorem fm151_0:∀ (α:Type) (k:RT α),Fn151_0 f151_0 α k=pa151_0.unc fun ds=>fnM Pg E151_0 sh151 cm151_0 rs151 k ds:=fm151_0g J151_0_0 J151_0_1 J151_0_4 J151_0_2 J151_0_3
theorem is151:FnIs Pg 151 nt151 tr151 tl151 ac151 rs151:=codeF_is Tryz.func151 (by kernel_rfl)
theorem io151_0:InstOk Pg 151 nt151 ⟨pa151_0,Fn151_0 f151_0⟩:=inst_ok eo151_0 followsTry is151 ⟨⟨sh151,cm151_0,em151_0,gm151_0,fm151_0⟩⟩
abbrev nt128:Nat:=51
def sh128:SG:=[]
def tr128:TG:=[tT 0 [0,1],tT 1 [0,1,6],tT 2 [0,1,6,7],tT 3 [0,1,6,7,8],tT 4 [0,1,6,7,8,9],tT 5 [0,1,6,7,8,9,10],tT 6 [0,1,6,7,9,11],tT 7 [0,1,6,7,9,11,12],tT 8 [0,1,6,7,9,12,13],tT 9 [0,1,7,9,12,13],tT 10 [0,1,4],tT 11 [4,5]]
def tl128:TG:=[]
def ac128:ACode:=codeF Pg Tryz.f128 tr128 tl128
def rs128:List AResV:=resF Pg Tryz.f128
def pr128_0_0:PT (List RV):=pRs [pR false [rD (dI .u64)],pR false [rD (dI .u64)]]
def ur128_0_0 {β:Type}(g:List RV->β):Int->Int->β:=pr128_0_0.unc g
def E128_0g:EnvK:=EnvK.of [] noSeq
def E128_0:EnvK:=E128_0g
theorem eo128_0:E128_0.Ok Pg:=EnvK.of_ok noSeq_ok TT
abbrev Tf128_0:Type 1:=(α:Type)->Int->Int->(Int->Int->Op α)->Op α
def f128_0g (α:Type)(a b:Int)(k1:Int->Int->Op α):Op α:=
 k1 (IntKind.wrap .u64 ((IntKind.wrap .u64 ((IntKind.wrap .u64 ((Int.fdiv a (2 ^ 32))*(Int.fdiv b (2 ^ 32))))+(Int.fdiv (IntKind.wrap .u64 ((IntKind.wrap .u64 ((Int.fdiv a (2 ^ 32))*(iAnd .u64 b 4294967295)))+(Int.fdiv (IntKind.wrap .u64 ((iAnd .u64 a 4294967295)*(iAnd .u64 b 4294967295))) (2 ^ 32)))) (2 ^ 32))))+(Int.fdiv (IntKind.wrap .u64 ((iAnd .u64 (IntKind.wrap .u64 ((IntKind.wrap .u64 ((Int.fdiv a (2 ^ 32))*(iAnd .u64 b 4294967295)))+(Int.fdiv (IntKind.wrap .u64 ((iAnd .u64 a 4294967295)*(iAnd .u64 b 4294967295))) (2 ^ 32)))) 4294967295)+(IntKind.wrap .u64 ((iAnd .u64 a 4294967295)*(Int.fdiv b (2 ^ 32)))))) (2 ^ 32)))) (IntKind.wrap .u64 (a*b))
def f128_0 (α:Type)(a b:Int)(k1:Int->Int->Op α):Op α:=f128_0g α a b k1
def pa128_0:PT (List DV):=pA [pV false [(dI .u64)],pV false [(dI .u64)]]
def Fn128_0 (v:Tf128_0)(α:Type)(k:RT α):Int->Int->Op α:=fun a b=>v α a b (fun c d=>ur128_0_0 k c d)
def cm128_0g:MCode:=(emb ac128)
def cm128_0:MCode:=cm128_0g
theorem gm128_0:cm128_0.Good Pg E128_0 sh128:=(emb_good ac128)
theorem em128_0:cm128_0.erase=ac128:=(emb_erase _)
theorem fm128_0g (α:Type)(k:RT α):Fn128_0 (f128_0g ) α k=pa128_0.unc fun ds=>fnM Pg (E128_0g ) sh128 (cm128_0g ) rs128 k ds:=by kernel_rfl
theorem fm128_0:∀ (α:Type) (k:RT α),Fn128_0 f128_0 α k=pa128_0.unc fun ds=>fnM Pg E128_0 sh128 cm128_0 rs128 k ds:=fm128_0g
theorem is128:FnIs Pg 128 nt128 tr128 tl128 ac128 rs128:=codeF_is Tryz.func128 (by kernel_rfl)
theorem io128_0:InstOk Pg 128 nt128 ⟨pa128_0,Fn128_0 f128_0⟩:=inst_ok eo128_0 followsTry is128 ⟨⟨sh128,cm128_0,em128_0,gm128_0,fm128_0⟩⟩
abbrev nt96:Nat:=7
def sh96:SG:=[]
def tr96:TG:=[tT 0 [0],tT 1 [2]]
def tl96:TG:=[]
def ac96:ACode:=codeF Pg Tryz.f96 tr96 tl96
def rs96:List AResV:=resF Pg Tryz.f96
def pr96_0_0:PT (List RV):=pRs [wI]
def ur96_0_0 {β:Type}(g:List RV->β):Int->β:=pr96_0_0.unc g
def E96_0g:EnvK:=EnvK.of [] noSeq
def E96_0:EnvK:=E96_0g
theorem eo96_0:E96_0.Ok Pg:=EnvK.of_ok noSeq_ok TT
abbrev Tf96_0:Type 1:=(α:Type)->Int->(Int->Op α)->Op α
def f96_0g (α:Type)(a:Int)(k1:Int->Op α):Op α:=
 k1 (if (w64 (0 - a)) > a then (w64 (0 - a)) else a)
def f96_0 (α:Type)(a:Int)(k1:Int->Op α):Op α:=f96_0g α a k1
def pa96_0:PT (List DV):=pA [vI]
def Fn96_0 (v:Tf96_0)(α:Type)(k:RT α):Int->Op α:=fun a=>v α a (fun b=>ur96_0_0 k b)
def cm96_0g:MCode:=(emb ac96)
def cm96_0:MCode:=cm96_0g
theorem gm96_0:cm96_0.Good Pg E96_0 sh96:=(emb_good ac96)
theorem em96_0:cm96_0.erase=ac96:=(emb_erase _)
theorem fm96_0g (α:Type)(k:RT α):Fn96_0 (f96_0g ) α k=pa96_0.unc fun ds=>fnM Pg (E96_0g ) sh96 (cm96_0g ) rs96 k ds:=by kernel_rfl
theorem fm96_0:∀ (α:Type) (k:RT α),Fn96_0 f96_0 α k=pa96_0.unc fun ds=>fnM Pg E96_0 sh96 cm96_0 rs96 k ds:=fm96_0g
theorem is96:FnIs Pg 96 nt96 tr96 tl96 ac96 rs96:=codeF_is Tryz.func96 (by kernel_rfl)
theorem io96_0:InstOk Pg 96 nt96 ⟨pa96_0,Fn96_0 f96_0⟩:=inst_ok eo96_0 followsTry is96 ⟨⟨sh96,cm96_0,em96_0,gm96_0,fm96_0⟩⟩
abbrev nt123:Nat:=16
def sh123:SG:=[(6,iT),(8,iT),(11,iT),(13,iT)]
def tr123:TG:=[tT 0 [2,3,4],tT 1 [4]]
def tl123:TG:=[]
def ac123:ACode:=codeF Pg Tryz.f123 tr123 tl123
def rs123:List AResV:=resF Pg Tryz.f123
def pr123_0_0:PT (List RV):=pRs [pR true [rD (dI .i64),rD (dI .i64)]]
def ur123_0_0 {β:Type}(g:List RV->β):Int->Int->β:=pr123_0_0.unc g
def E123_0g:EnvK:=EnvK.of [] noSeq
def E123_0:EnvK:=E123_0g
theorem eo123_0:E123_0.Ok Pg:=EnvK.of_ok noSeq_ok TT
abbrev Tf123_0:Type 1:=(α:Type)->Int->Int->Int->Int->(Int->Int->Op α)->Op α
def f123_0g (α:Type)(a b c d:Int)(k1:Int->Int->Op α):Op α:=
 k1 (w64 (a - c)) (w64 (b - d))
def f123_0 (α:Type)(a b c d:Int)(k1:Int->Int->Op α):Op α:=f123_0g α a b c d k1
def pa123_0:PT (List DV):=pA [pV true [(dI .i64),(dI .i64)],pV true [(dI .i64),(dI .i64)]]
def Fn123_0 (v:Tf123_0)(α:Type)(k:RT α):I4 (Op α):=fun a b c d=>v α a b c d (fun e g=>ur123_0_0 k e g)
def cm123_0g:MCode:=(emb ac123)
def cm123_0:MCode:=cm123_0g
theorem gm123_0:cm123_0.Good Pg E123_0 sh123:=(emb_good ac123)
theorem em123_0:cm123_0.erase=ac123:=(emb_erase _)
theorem fm123_0g (α:Type)(k:RT α):Fn123_0 (f123_0g ) α k=pa123_0.unc fun ds=>fnM Pg (E123_0g ) sh123 (cm123_0g ) rs123 k ds:=by kernel_rfl
theorem fm123_0:∀ (α:Type) (k:RT α),Fn123_0 f123_0 α k=pa123_0.unc fun ds=>fnM Pg E123_0 sh123 cm123_0 rs123 k ds:=fm123_0g
theorem is123:FnIs Pg 123 nt123 tr123 tl123 ac123 rs123:=codeF_is Tryz.func123 (by kernel_rfl)
theorem io123_0:InstOk Pg 123 nt123 ⟨pa123_0,Fn123_0 f123_0⟩:=inst_ok eo123_0 followsTry is123 ⟨⟨sh123,cm123_0,em123_0,gm123_0,fm123_0⟩⟩
abbrev nt120:Nat:=14
def sh120:SG:=[(4,iT),(6,iT),(9,iT),(11,iT)]
def tr120:TG:=[tT 0 [1],tT 1 [2]]
def tl120:TG:=[]
def ac120:ACode:=codeF Pg Tryz.f120 tr120 tl120
def rs120:List AResV:=resF Pg Tryz.f120
def pr120_0_0:PT (List RV):=pRs [wI]
def ur120_0_0 {β:Type}(g:List RV->β):Int->β:=pr120_0_0.unc g
def E120_0g:EnvK:=EnvK.of [] noSeq
def E120_0:EnvK:=E120_0g
theorem eo120_0:E120_0.Ok Pg:=EnvK.of_ok noSeq_ok TT
abbrev Tf120_0:Type 1:=(α:Type)->Int->Int->(Int->Op α)->Op α
def f120_0g (α:Type)(a b:Int)(k1:Int->Op α):Op α:=
 k1 (w64 ((w64 (a*a))+(w64 (b*b))))
def f120_0 (α:Type)(a b:Int)(k1:Int->Op α):Op α:=f120_0g α a b k1
def pa120_0:PT (List DV):=pA [pV true [(dI .i64),(dI .i64)]]
def Fn120_0 (v:Tf120_0)(α:Type)(k:RT α):Int->Int->Op α:=fun a b=>v α a b (fun c=>ur120_0_0 k c)
def cm120_0g:MCode:=(emb ac120)
def cm120_0:MCode:=cm120_0g
theorem gm120_0:cm120_0.Good Pg E120_0 sh120:=(emb_good ac120)
theorem em120_0:cm120_0.erase=ac120:=(emb_erase _)
theorem fm120_0g (α:Type)(k:RT α):Fn120_0 (f120_0g ) α k=pa120_0.unc fun ds=>fnM Pg (E120_0g ) sh120 (cm120_0g ) rs120 k ds:=by kernel_rfl
theorem fm120_0:∀ (α:Type) (k:RT α),Fn120_0 f120_0 α k=pa120_0.unc fun ds=>fnM Pg E120_0 sh120 cm120_0 rs120 k ds:=fm120_0g
theorem is120:FnIs Pg 120 nt120 tr120 tl120 ac120 rs120:=codeF_is Tryz.func120 (by kernel_rfl)
theorem io120_0:InstOk Pg 120 nt120 ⟨pa120_0,Fn120_0 f120_0⟩:=inst_ok eo120_0 followsTry is120 ⟨⟨sh120,cm120_0,em120_0,gm120_0,fm120_0⟩⟩
abbrev nt115:Nat:=28
def sh115:SG:=[(6,iT),(8,iT),(11,iT),(13,iT),(17,iT),(19,iT),(22,iT),(24,iT)]
def tr115:TG:=[tT 0 [2,3,4],tT 1 [4]]
def tl115:TG:=[]
def ac115:ACode:=codeF Pg Tryz.f115 tr115 tl115
def rs115:List AResV:=resF Pg Tryz.f115
def pr115_0_0:PT (List RV):=pRs [pR true [rD (dI .i64),rD (dI .i64)]]
def ur115_0_0 {β:Type}(g:List RV->β):Int->Int->β:=pr115_0_0.unc g
def E115_0g:EnvK:=EnvK.of [] noSeq
def E115_0:EnvK:=E115_0g
theorem eo115_0:E115_0.Ok Pg:=EnvK.of_ok noSeq_ok TT
abbrev Tf115_0:Type 1:=(α:Type)->Int->Int->Int->Int->(Int->Int->Op α)->Op α
def f115_0g (α:Type)(a b c d:Int)(k1:Int->Int->Op α):Op α:=
 k1 (w64 ((w64 (a*c)) - (w64 (b*d)))) (w64 ((w64 (a*d))+(w64 (b*c))))
def f115_0 (α:Type)(a b c d:Int)(k1:Int->Int->Op α):Op α:=f115_0g α a b c d k1
def pa115_0:PT (List DV):=pA [pV true [(dI .i64),(dI .i64)],pV true [(dI .i64),(dI .i64)]]
def Fn115_0 (v:Tf115_0)(α:Type)(k:RT α):I4 (Op α):=fun a b c d=>v α a b c d (fun e g=>ur115_0_0 k e g)
def cm115_0g:MCode:=(emb ac115)
def cm115_0:MCode:=cm115_0g
theorem gm115_0:cm115_0.Good Pg E115_0 sh115:=(emb_good ac115)
theorem em115_0:cm115_0.erase=ac115:=(emb_erase _)
theorem fm115_0g (α:Type)(k:RT α):Fn115_0 (f115_0g ) α k=pa115_0.unc fun ds=>fnM Pg (E115_0g ) sh115 (cm115_0g ) rs115 k ds:=by kernel_rfl
theorem fm115_0:∀ (α:Type) (k:RT α),Fn115_0 f115_0 α k=pa115_0.unc fun ds=>fnM Pg E115_0 sh115 cm115_0 rs115 k ds:=fm115_0g
theorem is115:FnIs Pg 115 nt115 tr115 tl115 ac115 rs115:=codeF_is Tryz.func115 (by kernel_rfl)
theorem io115_0:InstOk Pg 115 nt115 ⟨pa115_0,Fn115_0 f115_0⟩:=inst_ok eo115_0 followsTry is115 ⟨⟨sh115,cm115_0,em115_0,gm115_0,fm115_0⟩⟩
abbrev nt113:Nat:=16
def sh113:SG:=[(6,iT),(8,iT),(11,iT),(13,iT)]
def tr113:TG:=[tT 0 [2,3,4],tT 1 [4]]
def tl113:TG:=[]
def ac113:ACode:=codeF Pg Tryz.f113 tr113 tl113
def rs113:List AResV:=resF Pg Tryz.f113
def pr113_0_0:PT (List RV):=pRs [pR true [rD (dI .i64),rD (dI .i64)]]
def ur113_0_0 {β:Type}(g:List RV->β):Int->Int->β:=pr113_0_0.unc g
def E113_0g:EnvK:=EnvK.of [] noSeq
def E113_0:EnvK:=E113_0g
theorem eo113_0:E113_0.Ok Pg:=EnvK.of_ok noSeq_ok TT
abbrev Tf113_0:Type 1:=(α:Type)->Int->Int->Int->Int->(Int->Int->Op α)->Op α
def f113_0g (α:Type)(a b c d:Int)(k1:Int->Int->Op α):Op α:=
 k1 (w64 (a+c)) (w64 (b+d))
def f113_0 (α:Type)(a b c d:Int)(k1:Int->Int->Op α):Op α:=f113_0g α a b c d k1
def pa113_0:PT (List DV):=pA [pV true [(dI .i64),(dI .i64)],pV true [(dI .i64),(dI .i64)]]
def Fn113_0 (v:Tf113_0)(α:Type)(k:RT α):I4 (Op α):=fun a b c d=>v α a b c d (fun e g=>ur113_0_0 k e g)
def cm113_0g:MCode:=(emb ac113)
def cm113_0:MCode:=cm113_0g
theorem gm113_0:cm113_0.Good Pg E113_0 sh113:=(emb_good ac113)
theorem em113_0:cm113_0.erase=ac113:=(emb_erase _)
theorem fm113_0g (α:Type)(k:RT α):Fn113_0 (f113_0g ) α k=pa113_0.unc fun ds=>fnM Pg (E113_0g ) sh113 (cm113_0g ) rs113 k ds:=by kernel_rfl
theorem fm113_0:∀ (α:Type) (k:RT α),Fn113_0 f113_0 α k=pa113_0.unc fun ds=>fnM Pg E113_0 sh113 cm113_0 rs113 k ds:=fm113_0g
theorem is113:FnIs Pg 113 nt113 tr113 tl113 ac113 rs113:=codeF_is Tryz.func113 (by kernel_rfl)
theorem io113_0:InstOk Pg 113 nt113 ⟨pa113_0,Fn113_0 f113_0⟩:=inst_ok eo113_0 followsTry is113 ⟨⟨sh113,cm113_0,em113_0,gm113_0,fm113_0⟩⟩
abbrev nt126:Nat:=16
def sh126:SG:=[(9,iT),(12,iT),(15,iS 2)]
def tr126:TG:=[tT 0 [1,2,4],tT 1 [2,4,5,6],tT 2 [2,4,5,6,7],tT 3 [2,4,5,6],tT 4 [2,4,5,6],tT 5 [4]]
def tl126:TG:=[tT 2 [2,4,5,6]]
def ac126:ACode:=codeF Pg Tryz.f126 tr126 tl126
def rs126:List AResV:=resF Pg Tryz.f126
def td126_7:OT:=tdC (MCode.sub [1,0,1,0] (emb ac126))
def p126_0_0:PT St:=pS [sP 2,sP 4,sI 5,sI 6] [eBox 2 [xI,xI],eBox 4 [xI,xI]]
def u126_0_0 {β:Type}(g:St->β):I6 β:=p126_0_0.unc g
def p126_0_1:PT St:=pS [sP 2,sP 4,sI 5,sI 6,sY 7 dB] [eBox 2 [xI,xI],eBox 4 [xI,xI]]
def u126_0_1 {β:Type}(g:St->β):Int->Int->Bool->I4 β:=p126_0_1.unc g
def pr126_0_0:PT (List RV):=pRs [pR true [rD (dI .i64),rD (dI .i64)]]
def ur126_0_0 {β:Type}(g:List RV->β):Int->Int->β:=pr126_0_0.unc g
def E126_0g:EnvK:=EnvK.of [] noSeq
def E126_0:EnvK:=E126_0g
theorem eo126_0:E126_0.Ok Pg:=EnvK.of_ok noSeq_ok TT
def c126_0_7g:MCode:=MCode.sub [1,0,1,0,0] (emb ac126)
def c126_0_7:MCode:=c126_0_7g
def S126_0_0g (α:Type)(b a c d:Int)(kn:Int->Int->Int->Op α)(k1:Int->Bool->Int->Int->Op α):Op α:=
 cK (decide (a < b))
 (kn (w64 (a+1)) (w64 (0 - d)) c)
 (k1 a (decide (a < b)) c d)
def S126_0_0 (α:Type)(a b c d:Int)(kn:Int->Int->Int->Op α)(k1:Int->Bool->Int->Int->Op α):Op α:=S126_0_0g α a b c d kn k1
def R126_0_0 (α:Type)(a:Int)(k1:Int->Bool->Int->Int->Op α):Nat->Int->Int->Int->Op α
 | 0,_,_,_=>none
 | n+1,b,c,d=>S126_0_0 α a b c d (R126_0_0 α a k1 n) k1
def L126_0_0 (α:Type)(a:Int)(k1:Int->Bool->Int->Int->Op α)(b c d:Int):Op α:=R126_0_0 α a k1 fuel b c d
abbrev TL126_0_0:Type 1:=(α:Type)->Int->(Int->Bool->Int->Int->Op α)->Int->Int->Int->Op α
def F126_0_0 (v:TL126_0_0)(α:Type)(K:KT α):I6 (Op α):=fun a b c d e g=>v α a (fun h i j l=>u126_0_1 (K (.exit 0)) a h i j l e g) b c d
theorem r126_0_0g (α:Type)(K:KT α)(Kn:SK α)(a b c d e g:Int):u126_0_0 (fun σ=>runM Pg (E126_0g ) sh126 (c126_0_7g ) (thenK (fun σ=>tidyK td126_7 σ Kn) K) σ) a b c d e g=S126_0_0g α a b c d (fun b c d=>u126_0_0 Kn a b c d e g) (fun h i j l=>u126_0_1 (K (.exit 0)) a h i j l e g):=by kernel_rfl
theorem r126_0_0 (α:Type)(K:KT α)(Kn:SK α)(a b c d e g:Int):u126_0_0 (fun σ=>runM Pg E126_0 sh126 c126_0_7 (thenK (fun σ=>tidyK td126_7 σ Kn) K) σ) a b c d e g=S126_0_0 α a b c d (fun b c d=>u126_0_0 Kn a b c d e g) (fun h i j l=>u126_0_1 (K (.exit 0)) a h i j l e g):=r126_0_0g α K Kn a b c d e g
theorem t126_0_0 (α:Type)(K:KT α):∀ (n:Nat) (a b c d e g:Int),R126_0_0 α a (fun h i j l=>u126_0_1 (K (.exit 0)) a h i j l e g) n b c d=u126_0_0 (loopT (runM Pg E126_0 sh126 c126_0_7) td126_7 K n) a b c d e g:=by
 intro n
 induction n with
 | zero=>intros;rfl
 | succ n ih=>intro a b c d e g;exact (congrArg (fun kn=>S126_0_0 α a b c d kn (fun h i j l=>u126_0_1 (K (.exit 0)) a h i j l e g)) (funext fun b=>funext fun c=>funext fun d=>ih a b c d e g)).trans (r126_0_0 α K (loopT (runM Pg E126_0 sh126 c126_0_7) td126_7 K n) a b c d e g).symm
theorem m126_0_0:∀ (α:Type) (K:KT α),F126_0_0 L126_0_0 α K=p126_0_0.unc fun σ=>loopT (runM Pg E126_0 sh126 c126_0_7) td126_7 K fuel σ:=fun α K=>by funext a b c d e g;exact t126_0_0 α K fuel a b c d e g
abbrev Tf126_0:Type 1:=(α:Type)->Int->Int->Int->(Int->Int->Op α)->Op α
def f126_0g (a:TL126_0_0)(α:Type)(b c d:Int)(k1:Int->Int->Op α):Op α:=
 a α d
 (fun h i e g=>k1 e g) 0 b c
def f126_0 (α:Type)(a b c:Int)(k1:Int->Int->Op α):Op α:=f126_0g L126_0_0 α a b c k1
def pa126_0:PT (List DV):=pA [pV true [(dI .i64),(dI .i64)],vI]
def Fn126_0 (v:Tf126_0)(α:Type)(k:RT α):Int->Int->Int->Op α:=fun a b c=>v α a b c (fun d e=>ur126_0_0 k d e)
def cm126_0g (a:TL126_0_0):MCode:=(MCode.put (.m [⟨p126_0_0,F126_0_0 a⟩]) [1,0,1,0] (emb ac126))
def cm126_0:MCode:=cm126_0g L126_0_0
theorem gm126_0:cm126_0.Good Pg E126_0 sh126:=(put_loop (td:=td126_7) (by kernel_rfl) (emb_good ac126) ⟨m126_0_0,TT⟩)
theorem em126_0:cm126_0.erase=ac126:=((put_erase _ _).trans (emb_erase _))
theorem fm126_0g (a:TL126_0_0)(α:Type)(k:RT α):Fn126_0 (f126_0g a) α k=pa126_0.unc fun ds=>fnM Pg (E126_0g ) sh126 (cm126_0g a) rs126 k ds:=by kernel_rfl
theorem fm126_0:∀ (α:Type) (k:RT α),Fn126_0 f126_0 α k=pa126_0.unc fun ds=>fnM Pg E126_0 sh126 cm126_0 rs126 k ds:=fm126_0g L126_0_0
theorem is126:FnIs Pg 126 nt126 tr126 tl126 ac126 rs126:=codeF_is Tryz.func126 (by kernel_rfl)
theorem io126_0:InstOk Pg 126 nt126 ⟨pa126_0,Fn126_0 f126_0⟩:=inst_ok eo126_0 followsTry is126 ⟨⟨sh126,cm126_0,em126_0,gm126_0,fm126_0⟩⟩
abbrev nt132:Nat:=10
def sh132:SG:=[]
def tr132:TG:=[tT 0 [0,2],tT 1 [2]]
def tl132:TG:=[]
def ac132:ACode:=codeF Pg Tryz.f132 tr132 tl132
def rs132:List AResV:=resF Pg Tryz.f132
def pr132_0_0:PT (List RV):=pRs [pR true [rD (dI .i64),rD (dI .i64)]]
def ur132_0_0 {β:Type}(g:List RV->β):Int->Int->β:=pr132_0_0.unc g
def E132_0g:EnvK:=EnvK.of [] noSeq
def E132_0:EnvK:=E132_0g
theorem eo132_0:E132_0.Ok Pg:=EnvK.of_ok noSeq_ok TT
abbrev Tf132_0:Type 1:=(α:Type)->Nat->Nat->(Int->Int->Op α)->Op α
def f132_0g (α:Type)(a b:Nat)(k1:Int->Int->Op α):Op α:=
 ivK (f2i .f64 a .i64)
 (fun c=>ivK (f2i .f64 b .i64)
 (fun d=>k1 c d))
def f132_0 (α:Type)(a b:Nat)(k1:Int->Int->Op α):Op α:=f132_0g α a b k1
def pa132_0:PT (List DV):=pA [pV false [(dX .f64)]]
def Fn132_0 (v:Tf132_0)(α:Type)(k:RT α):Nat->Nat->Op α:=fun a b=>v α a b (fun c d=>ur132_0_0 k c d)
def cm132_0g:MCode:=(emb ac132)
def cm132_0:MCode:=cm132_0g
theorem gm132_0:cm132_0.Good Pg E132_0 sh132:=(emb_good ac132)
theorem em132_0:cm132_0.erase=ac132:=(emb_erase _)
theorem fm132_0g (α:Type)(k:RT α):Fn132_0 (f132_0g ) α k=pa132_0.unc fun ds=>fnM Pg (E132_0g ) sh132 (cm132_0g ) rs132 k ds:=by kernel_rfl
theorem fm132_0:∀ (α:Type) (k:RT α),Fn132_0 f132_0 α k=pa132_0.unc fun ds=>fnM Pg E132_0 sh132 cm132_0 rs132 k ds:=fm132_0g
theorem is132:FnIs Pg 132 nt132 tr132 tl132 ac132 rs132:=codeF_is Tryz.func132 (by kernel_rfl)
theorem io132_0:InstOk Pg 132 nt132 ⟨pa132_0,Fn132_0 f132_0⟩:=inst_ok eo132_0 followsTry is132 ⟨⟨sh132,cm132_0,em132_0,gm132_0,fm132_0⟩⟩
abbrev nt131:Nat:=7
def sh131:SG:=[]
def tr131:TG:=[tT 0 [0],tT 1 [2]]
def tl131:TG:=[]
def ac131:ACode:=codeF Pg Tryz.f131 tr131 tl131
def rs131:List AResV:=resF Pg Tryz.f131
def pr131_0_0:PT (List RV):=pRs [pR false [rD (dF .f64)]]
def ur131_0_0 {β:Type}(g:List RV->β):Nat->β:=pr131_0_0.unc g
def E131_0g:EnvK:=EnvK.of [] noSeq
def E131_0:EnvK:=E131_0g
theorem eo131_0:E131_0.Ok Pg:=EnvK.of_ok noSeq_ok TT
abbrev Tf131_0:Type 1:=(α:Type)->Nat->(Nat->Op α)->Op α
def f131_0g (α:Type)(a:Nat)(k1:Nat->Op α):Op α:=
 k1 (Int.toNat (iAndNot .u64 ((a:Nat):Int) 9223372036854775808))
def f131_0 (α:Type)(a:Nat)(k1:Nat->Op α):Op α:=f131_0g α a k1
def pa131_0:PT (List DV):=pA [pV false [(dF .f64)]]
def Fn131_0 (v:Tf131_0)(α:Type)(k:RT α):Nat->Op α:=fun a=>v α a (fun b=>ur131_0_0 k b)
def cm131_0g:MCode:=(emb ac131)
def cm131_0:MCode:=cm131_0g
theorem gm131_0:cm131_0.Good Pg E131_0 sh131:=(emb_good ac131)
theorem em131_0:cm131_0.erase=ac131:=(emb_erase _)
theorem fm131_0g (α:Type)(k:RT α):Fn131_0 (f131_0g ) α k=pa131_0.unc fun ds=>fnM Pg (E131_0g ) sh131 (cm131_0g ) rs131 k ds:=by kernel_rfl
theorem fm131_0:∀ (α:Type) (k:RT α),Fn131_0 f131_0 α k=pa131_0.unc fun ds=>fnM Pg E131_0 sh131 cm131_0 rs131 k ds:=fm131_0g
theorem is131:FnIs Pg 131 nt131 tr131 tl131 ac131 rs131:=codeF_is Tryz.func131 (by kernel_rfl)
theorem io131_0:InstOk Pg 131 nt131 ⟨pa131_0,Fn131_0 f131_0⟩:=inst_ok eo131_0 followsTry is131 ⟨⟨sh131,cm131_0,em131_0,gm131_0,fm131_0⟩⟩
abbrev nt145:Nat:=7
def sh145:SG:=[]
def tr145:TG:=[tT 0 [0],tT 1 [2],tT 2 [2]]
def tl145:TG:=[]
def ac145:ACode:=codeF Pg Tryz.f145 tr145 tl145
def rs145:List AResV:=resF Pg Tryz.f145
def pr145_0_0:PT (List RV):=pRs [pR false [rD (dNan .f64)]]
def ur145_0_0 {β:Type}(g:List RV->β):β:=pr145_0_0.unc g
def pr145_0_1:PT (List RV):=pRs [pR false [rD (dF .f64)]]
def ur145_0_1 {β:Type}(g:List RV->β):Nat->β:=pr145_0_1.unc g
def E145_0g:EnvK:=EnvK.of [] noSeq
def E145_0:EnvK:=E145_0g
theorem eo145_0:E145_0.Ok Pg:=EnvK.of_ok noSeq_ok TT
abbrev Tf145_0:Type 1:=(α:Type)->Nat->(Op α)->(Nat->Op α)->Op α
def f145_0g (α:Type)(a:Nat)(k1:Op α)(k2:Nat->Op α):Op α:=
 cK (isNaNb .f64 a)
 (k1)
 (k2 (truncF a))
def f145_0 (α:Type)(a:Nat)(k1:Op α)(k2:Nat->Op α):Op α:=f145_0g α a k1 k2
def pa145_0:PT (List DV):=pA [pV false [(dF .f64)]]
def Fn145_0 (v:Tf145_0)(α:Type)(k:RT α):Nat->Op α:=fun a=>v α a (ur145_0_0 k ) (fun b=>ur145_0_1 k b)
def cm145_0g:MCode:=(emb ac145)
def cm145_0:MCode:=cm145_0g
theorem gm145_0:cm145_0.Good Pg E145_0 sh145:=(emb_good ac145)
theorem em145_0:cm145_0.erase=ac145:=(emb_erase _)
theorem fm145_0g (α:Type)(k:RT α):Fn145_0 (f145_0g ) α k=pa145_0.unc fun ds=>fnM Pg (E145_0g ) sh145 (cm145_0g ) rs145 k ds:=by kernel_rfl
theorem fm145_0:∀ (α:Type) (k:RT α),Fn145_0 f145_0 α k=pa145_0.unc fun ds=>fnM Pg E145_0 sh145 cm145_0 rs145 k ds:=fm145_0g
theorem is145:FnIs Pg 145 nt145 tr145 tl145 ac145 rs145:=codeF_is Tryz.func145 (by kernel_rfl)
theorem io145_0:InstOk Pg 145 nt145 ⟨pa145_0,Fn145_0 f145_0⟩:=inst_ok eo145_0 followsTry is145 ⟨⟨sh145,cm145_0,em145_0,gm145_0,fm145_0⟩⟩
abbrev nt117:Nat:=4
def sh117:SG:=[]
def tr117:TG:=[tT 0 [0],tT 1 [3],tT 2 [2],tT 3 [2]]
def tl117:TG:=[]
def ac117:ACode:=codeF Pg Tryz.f117 tr117 tl117
def rs117:List AResV:=resF Pg Tryz.f117
def pr117_0_0:PT (List RV):=pRs [wI]
def ur117_0_0 {β:Type}(g:List RV->β):Int->β:=pr117_0_0.unc g
def E117_0g:EnvK:=EnvK.of [] noSeq
def E117_0:EnvK:=E117_0g
theorem eo117_0:E117_0.Ok Pg:=EnvK.of_ok noSeq_ok TT
abbrev Tf117_0:Type 1:=(α:Type)->Bool->(Int->Op α)->Op α
def f117_0g (α:Type)(a:Bool)(k1:Int->Op α):Op α:=
 cK a
 (k1 1)
 (k1 0)
def f117_0 (α:Type)(a:Bool)(k1:Int->Op α):Op α:=f117_0g α a k1
def pa117_0:PT (List DV):=pA [pV false [dB]]
def Fn117_0 (v:Tf117_0)(α:Type)(k:RT α):Bool->Op α:=fun a=>v α a (fun b=>ur117_0_0 k b)
def cm117_0g:MCode:=(emb ac117)
def cm117_0:MCode:=cm117_0g
theorem gm117_0:cm117_0.Good Pg E117_0 sh117:=(emb_good ac117)
theorem em117_0:cm117_0.erase=ac117:=(emb_erase _)
theorem fm117_0g (α:Type)(k:RT α):Fn117_0 (f117_0g ) α k=pa117_0.unc fun ds=>fnM Pg (E117_0g ) sh117 (cm117_0g ) rs117 k ds:=by kernel_rfl
theorem fm117_0:∀ (α:Type) (k:RT α),Fn117_0 f117_0 α k=pa117_0.unc fun ds=>fnM Pg E117_0 sh117 cm117_0 rs117 k ds:=fm117_0g
theorem is117:FnIs Pg 117 nt117 tr117 tl117 ac117 rs117:=codeF_is Tryz.func117 (by kernel_rfl)
theorem io117_0:InstOk Pg 117 nt117 ⟨pa117_0,Fn117_0 f117_0⟩:=inst_ok eo117_0 followsTry is117 ⟨⟨sh117,cm117_0,em117_0,gm117_0,fm117_0⟩⟩
abbrev nt58:Nat:=12
def sh58:SG:=[(11,[.cpx .f64,.int .i64])]
def tr58:TG:=[tT 0 [0,2,4,6],tT 1 [0,4,6],tT 2 [0,6]]
def tl58:TG:=[]
def ac58:ACode:=codeF Pg Tryz.f58 tr58 tl58
def rs58:List AResV:=resF Pg Tryz.f58
def pr58_0_0:PT (List RV):=pRs [pR true [rD (dX .f64),rD (dI .i64)],pR true [rD (dI .i64),rD (dI .i64),rD (dI .i64),rD (dI .i64),rD (dI .i64),rD (dI .i64),rD (dI .i64),rD dL,rD (dI .i64),rD (dI .i64)]]
def ur58_0_0 {β:Type}(g:List RV->β):Nat->Nat->Int->Int->Int->Int->Int->Int->Int->Int->Rows->Int->Int->β:=pr58_0_0.unc g
def E58_0g:EnvK:=EnvK.of [] noSeq
def E58_0:EnvK:=E58_0g
theorem eo58_0:E58_0.Ok Pg:=EnvK.of_ok noSeq_ok TT
abbrev Tf58_0:Type 1:=(α:Type)->(Op α)->Op α
def f58_0g (α:Type)(k1:Op α):Op α:=
 k1
def f58_0 (α:Type)(k1:Op α):Op α:=f58_0g α k1
def pa58_0:PT (List DV):=pA [pV false [(dMr [(dI .i64),(dI .i64),(dI .i64),(dI .i64),(dI .i64),(dI .i64),(dI .i64),dL,(dI .i64),(dI .i64)] 0)],pV true [(dX .f64),(dI .i64)],vI]
def Fn58_0 (v:Tf58_0)(α:Type)(k:RT α):Int->Int->Int->Int->Int->Int->Int->Rows->Int->Int->Nat->Nat->Int->Int->Op α:=fun q a b c d e g h i j l m o p=>v α (ur58_0_0 k l m o p a b c d e g h i j)
def cm58_0g:MCode:=(emb ac58)
def cm58_0:MCode:=cm58_0g
theorem gm58_0:cm58_0.Good Pg E58_0 sh58:=(emb_good ac58)
theorem em58_0:cm58_0.erase=ac58:=(emb_erase _)
theorem fm58_0g (α:Type)(k:RT α):Fn58_0 (f58_0g ) α k=pa58_0.unc fun ds=>fnM Pg (E58_0g ) sh58 (cm58_0g ) rs58 k ds:=by kernel_rfl
theorem fm58_0:∀ (α:Type) (k:RT α),Fn58_0 f58_0 α k=pa58_0.unc fun ds=>fnM Pg E58_0 sh58 cm58_0 rs58 k ds:=fm58_0g
theorem is58:FnIs Pg 58 nt58 tr58 tl58 ac58 rs58:=codeF_is Tryz.func58 (by kernel_rfl)
theorem io58_0:InstOk Pg 58 nt58 ⟨pa58_0,Fn58_0 f58_0⟩:=inst_ok eo58_0 followsTry is58 ⟨⟨sh58,cm58_0,em58_0,gm58_0,fm58_0⟩⟩
abbrev nt143:Nat:=10
def sh143:SG:=[(4,iT),(7,iT)]
def tr143:TG:=[tT 0 [1],tT 1 [2]]
def tl143:TG:=[]
def ac143:ACode:=codeF Pg Tryz.f143 tr143 tl143
def rs143:List AResV:=resF Pg Tryz.f143
def pr143_0_0:PT (List RV):=pRs [pR false [rD (dX .f64)]]
def ur143_0_0 {β:Type}(g:List RV->β):Nat->Nat->β:=pr143_0_0.unc g
def E143_0g:EnvK:=EnvK.of [] noSeq
def E143_0:EnvK:=E143_0g
theorem eo143_0:E143_0.Ok Pg:=EnvK.of_ok noSeq_ok TT
abbrev Tf143_0:Type 1:=(α:Type)->Int->Int->(Nat->Nat->Op α)->Op α
def f143_0g (α:Type)(a b:Int)(k1:Nat->Nat->Op α):Op α:=
 k1 (FloatKind.nearest .f64 a) (FloatKind.nearest .f64 b)
def f143_0 (α:Type)(a b:Int)(k1:Nat->Nat->Op α):Op α:=f143_0g α a b k1
def pa143_0:PT (List DV):=pA [pV true [(dI .i64),(dI .i64)]]
def Fn143_0 (v:Tf143_0)(α:Type)(k:RT α):Int->Int->Op α:=fun a b=>v α a b (fun c d=>ur143_0_0 k c d)
def cm143_0g:MCode:=(emb ac143)
def cm143_0:MCode:=cm143_0g
theorem gm143_0:cm143_0.Good Pg E143_0 sh143:=(emb_good ac143)
theorem em143_0:cm143_0.erase=ac143:=(emb_erase _)
theorem fm143_0g (α:Type)(k:RT α):Fn143_0 (f143_0g ) α k=pa143_0.unc fun ds=>fnM Pg (E143_0g ) sh143 (cm143_0g ) rs143 k ds:=by kernel_rfl
theorem fm143_0:∀ (α:Type) (k:RT α),Fn143_0 f143_0 α k=pa143_0.unc fun ds=>fnM Pg E143_0 sh143 cm143_0 rs143 k ds:=fm143_0g
theorem is143:FnIs Pg 143 nt143 tr143 tl143 ac143 rs143:=codeF_is Tryz.func143 (by kernel_rfl)
theorem io143_0:InstOk Pg 143 nt143 ⟨pa143_0,Fn143_0 f143_0⟩:=inst_ok eo143_0 followsTry is143 ⟨⟨sh143,cm143_0,em143_0,gm143_0,fm143_0⟩⟩
abbrev nt63:Nat:=16
def sh63:SG:=[]
def tr63:TG:=[tT 0 [0,1],tT 1 [0,1,5],tT 2 [5,12],tT 3 [5],tT 4 [4]]
def tl63:TG:=[]
def ac63:ACode:=codeF Pg Tryz.f63 tr63 tl63
def rs63:List AResV:=resF Pg Tryz.f63
def pr63_0_0:PT (List RV):=pRs [wI]
def ur63_0_0 {β:Type}(g:List RV->β):Int->β:=pr63_0_0.unc g
def E63_0g:EnvK:=EnvK.of [] noSeq
def E63_0:EnvK:=E63_0g
theorem eo63_0:E63_0.Ok Pg:=EnvK.of_ok noSeq_ok TT
abbrev Tf63_0:Type 1:=(α:Type)->Int->Int->(Int->Op α)->Op α
def f63_0g (α:Type)(b a:Int)(k1:Int->Op α):Op α:=
 gK (a != 0) (gK (a != 0) (cK (decide ((Int.tmod b a) < 0))
 (k1 (w64 ((w64 (Int.tdiv b a)) - 1)))
 (k1 (w64 (Int.tdiv b a)))))
def f63_0 (α:Type)(a b:Int)(k1:Int->Op α):Op α:=f63_0g α a b k1
def pa63_0:PT (List DV):=pA [vI,vI]
def Fn63_0 (v:Tf63_0)(α:Type)(k:RT α):Int->Int->Op α:=fun a b=>v α a b (fun c=>ur63_0_0 k c)
def cm63_0g:MCode:=(emb ac63)
def cm63_0:MCode:=cm63_0g
theorem gm63_0:cm63_0.Good Pg E63_0 sh63:=(emb_good ac63)
theorem em63_0:cm63_0.erase=ac63:=(emb_erase _)
theorem fm63_0g (α:Type)(k:RT α):Fn63_0 (f63_0g ) α k=pa63_0.unc fun ds=>fnM Pg (E63_0g ) sh63 (cm63_0g ) rs63 k ds:=by kernel_rfl
theorem fm63_0:∀ (α:Type) (k:RT α),Fn63_0 f63_0 α k=pa63_0.unc fun ds=>fnM Pg E63_0 sh63 cm63_0 rs63 k ds:=fm63_0g
theorem is63:FnIs Pg 63 nt63 tr63 tl63 ac63 rs63:=codeF_is Tryz.func63 (by kernel_rfl)
theorem io63_0:InstOk Pg 63 nt63 ⟨pa63_0,Fn63_0 f63_0⟩:=inst_ok eo63_0 followsTry is63 ⟨⟨sh63,cm63_0,em63_0,gm63_0,fm63_0⟩⟩
abbrev nt100:Nat:=15
def sh100:SG:=[]
def tr100:TG:=[tT 0 [0,1,2],tT 1 [6]]
def tl100:TG:=[]
def ac100:ACode:=codeF Pg Tryz.f100 tr100 tl100
def rs100:List AResV:=resF Pg Tryz.f100
def pr100_0_0:PT (List RV):=pRs [pR false [rD dB]]
def ur100_0_0 {β:Type}(g:List RV->β):Bool->β:=pr100_0_0.unc g
def E100_0g:EnvK:=EnvK.of [] noSeq
def E100_0:EnvK:=E100_0g
theorem eo100_0:E100_0.Ok Pg:=EnvK.of_ok noSeq_ok TT
abbrev Tf100_0:Type 1:=(α:Type)->Int->Int->Int->(Bool->Op α)->Op α
def f100_0g (α:Type)(a b c:Int)(k1:Bool->Op α):Op α:=
 cK (decide (b<=a))
 (k1 (decide (a<=c)))
 (k1 false)
def f100_0 (α:Type)(a b c:Int)(k1:Bool->Op α):Op α:=f100_0g α a b c k1
def pa100_0:PT (List DV):=pA [vI,vI,vI]
def Fn100_0 (v:Tf100_0)(α:Type)(k:RT α):Int->Int->Int->Op α:=fun a b c=>v α a b c (fun d=>ur100_0_0 k d)
def cm100_0g:MCode:=(emb ac100)
def cm100_0:MCode:=cm100_0g
theorem gm100_0:cm100_0.Good Pg E100_0 sh100:=(emb_good ac100)
theorem em100_0:cm100_0.erase=ac100:=(emb_erase _)
theorem fm100_0g (α:Type)(k:RT α):Fn100_0 (f100_0g ) α k=pa100_0.unc fun ds=>fnM Pg (E100_0g ) sh100 (cm100_0g ) rs100 k ds:=by kernel_rfl
theorem fm100_0:∀ (α:Type) (k:RT α),Fn100_0 f100_0 α k=pa100_0.unc fun ds=>fnM Pg E100_0 sh100 cm100_0 rs100 k ds:=fm100_0g
theorem is100:FnIs Pg 100 nt100 tr100 tl100 ac100 rs100:=codeF_is Tryz.func100 (by kernel_rfl)
theorem io100_0:InstOk Pg 100 nt100 ⟨pa100_0,Fn100_0 f100_0⟩:=inst_ok eo100_0 followsTry is100 ⟨⟨sh100,cm100_0,em100_0,gm100_0,fm100_0⟩⟩
abbrev nt36:Nat:=11
def sh36:SG:=[]
def tr36:TG:=[tT 0 [0,1],tT 1 [4]]
def tl36:TG:=[]
def ac36:ACode:=codeF Pg Tryz.f36 tr36 tl36
def rs36:List AResV:=resF Pg Tryz.f36
def pr36_0_0:PT (List RV):=pRs [wI]
def ur36_0_0 {β:Type}(g:List RV->β):Int->β:=pr36_0_0.unc g
def E36_0g:EnvK:=EnvK.of [] noSeq
def E36_0:EnvK:=E36_0g
theorem eo36_0:E36_0.Ok Pg:=EnvK.of_ok noSeq_ok TT
abbrev Tf36_0:Type 1:=(α:Type)->Int->Int->(Int->Op α)->Op α
def f36_0g (α:Type)(b a:Int)(k1:Int->Op α):Op α:=
 gK (a != 0) (k1 (w64 (Int.tdiv (w64 ((w64 (b+a)) - 1)) a)))
def f36_0 (α:Type)(a b:Int)(k1:Int->Op α):Op α:=f36_0g α a b k1
def pa36_0:PT (List DV):=pA [vI,vI]
def Fn36_0 (v:Tf36_0)(α:Type)(k:RT α):Int->Int->Op α:=fun a b=>v α a b (fun c=>ur36_0_0 k c)
def cm36_0g:MCode:=(emb ac36)
def cm36_0:MCode:=cm36_0g
theorem gm36_0:cm36_0.Good Pg E36_0 sh36:=(emb_good ac36)
theorem em36_0:cm36_0.erase=ac36:=(emb_erase _)
theorem fm36_0g (α:Type)(k:RT α):Fn36_0 (f36_0g ) α k=pa36_0.unc fun ds=>fnM Pg (E36_0g ) sh36 (cm36_0g ) rs36 k ds:=by kernel_rfl
theorem fm36_0:∀ (α:Type) (k:RT α),Fn36_0 f36_0 α k=pa36_0.unc fun ds=>fnM Pg E36_0 sh36 cm36_0 rs36 k ds:=fm36_0g
theorem is36:FnIs Pg 36 nt36 tr36 tl36 ac36 rs36:=codeF_is Tryz.func36 (by kernel_rfl)
theorem io36_0:InstOk Pg 36 nt36 ⟨pa36_0,Fn36_0 f36_0⟩:=inst_ok eo36_0 followsTry is36 ⟨⟨sh36,cm36_0,em36_0,gm36_0,fm36_0⟩⟩
abbrev nt35:Nat:=8
def sh35:SG:=[]
def tr35:TG:=[tT 0 [0,1],tT 1 [4]]
def tl35:TG:=[]
def ac35:ACode:=codeF Pg Tryz.f35 tr35 tl35
def rs35:List AResV:=resF Pg Tryz.f35
def pr35_0_0:PT (List RV):=pRs [wI]
def ur35_0_0 {β:Type}(g:List RV->β):Int->β:=pr35_0_0.unc g
def E35_0g:EnvK:=EnvK.of [] noSeq
def E35_0:EnvK:=E35_0g
theorem eo35_0:E35_0.Ok Pg:=EnvK.of_ok noSeq_ok TT
abbrev Tf35_0:Type 1:=(α:Type)->Int->Int->(Int->Op α)->Op α
def f35_0g (α:Type)(b a:Int)(k1:Int->Op α):Op α:=
 gK (a != 0) (k1 (w64 (Int.tdiv b a)))
def f35_0 (α:Type)(a b:Int)(k1:Int->Op α):Op α:=f35_0g α a b k1
def pa35_0:PT (List DV):=pA [vI,vI]
def Fn35_0 (v:Tf35_0)(α:Type)(k:RT α):Int->Int->Op α:=fun a b=>v α a b (fun c=>ur35_0_0 k c)
def cm35_0g:MCode:=(emb ac35)
def cm35_0:MCode:=cm35_0g
theorem gm35_0:cm35_0.Good Pg E35_0 sh35:=(emb_good ac35)
theorem em35_0:cm35_0.erase=ac35:=(emb_erase _)
theorem fm35_0g (α:Type)(k:RT α):Fn35_0 (f35_0g ) α k=pa35_0.unc fun ds=>fnM Pg (E35_0g ) sh35 (cm35_0g ) rs35 k ds:=by kernel_rfl
theorem fm35_0:∀ (α:Type) (k:RT α),Fn35_0 f35_0 α k=pa35_0.unc fun ds=>fnM Pg E35_0 sh35 cm35_0 rs35 k ds:=fm35_0g
theorem is35:FnIs Pg 35 nt35 tr35 tl35 ac35 rs35:=codeF_is Tryz.func35 (by kernel_rfl)
theorem io35_0:InstOk Pg 35 nt35 ⟨pa35_0,Fn35_0 f35_0⟩:=inst_ok eo35_0 followsTry is35 ⟨⟨sh35,cm35_0,em35_0,gm35_0,fm35_0⟩⟩
abbrev nt57:Nat:=62
def sh57:SG:=[(14,iT),(19,iT),(27,[.sl]),(34,[.sl]),(37,iS 5),(38,iS 5),(40,iS 2),(42,iT),(48,iT),(54,iT),(61,iT)]
def tr57:TG:=[tT 0 [0,1,4],tT 1 [0,1,4,7],tT 2 [0,4,5],tT 3 [0,1,4,21],tT 4 [0,4,6],tT 5 [0,4,5],tT 6 [0,4,5]]
def tl57:TG:=[]
def ac57:ACode:=codeF Pg Tryz.f57 tr57 tl57
def rs57:List AResV:=resF Pg Tryz.f57
def pr57_0_0:PT (List RV):=pRs [pR true [rD (dI .i64),rD (dI .i64)],wI,pR true [rD (dI .i64),rD (dI .i64),rD (dI .i64),rD (dI .i64),rD (dI .i64),rD (dI .i64),rD (dI .i64),rD dL,rD (dI .i64),rD (dI .i64)]]
def ur57_0_0 {β:Type}(g:List RV->β):Int->Int->Int->Int->Int->Int->Int->Int->Int->Int->Rows->Int->Int->β:=pr57_0_0.unc g
def E57_0g:EnvK:=EnvK.of [] noSeq
def E57_0:EnvK:=E57_0g
theorem eo57_0:E57_0.Ok Pg:=EnvK.of_ok noSeq_ok TT
abbrev Tf57_0:Type 1:=(α:Type)->Int->Rows->Int->Int->Int->(Int->Int->Int->Op α)->Op α
def f57_0g (α:Type)(b:Int)(c:Rows)(d e a:Int)(k1:Int->Int->Int->Op α):Op α:=
 cK (a == 0)
 (k1 b b 0)
 (cK (decide (a<=((List.length c:Nat):Int)))
 (rowK c (w64 (a - 1)) [.int .i64,.int .i64,.int .i64,.int .i64,.int .i64]
 (fun g h j l i=>k1 g h i))
 (k1 d d e))
def f57_0 (α:Type)(a:Int)(b:Rows)(c d e:Int)(k1:Int->Int->Int->Op α):Op α:=f57_0g α a b c d e k1
def pa57_0:PT (List DV):=pA [pV false [(dMr [(dI .i64),(dI .i64),(dI .i64),(dI .i64),(dI .i64),(dI .i64),(dI .i64),dL,(dI .i64),(dI .i64)] 0)],vI]
def Fn57_0 (v:Tf57_0)(α:Type)(k:RT α):Int->Int->Int->Int->Int->Int->Int->Rows->Int->Int->Int->Op α:=fun e a g h i j l b c d m=>v α a b c d m (fun o p q=>ur57_0_0 k o p q e a g h i j l b c d)
def cm57_0g:MCode:=(emb ac57)
def cm57_0:MCode:=cm57_0g
theorem gm57_0:cm57_0.Good Pg E57_0 sh57:=(emb_good ac57)
theorem em57_0:cm57_0.erase=ac57:=(emb_erase _)
theorem fm57_0g (α:Type)(k:RT α):Fn57_0 (f57_0g ) α k=pa57_0.unc fun ds=>fnM Pg (E57_0g ) sh57 (cm57_0g ) rs57 k ds:=by kernel_rfl
theorem fm57_0:∀ (α:Type) (k:RT α),Fn57_0 f57_0 α k=pa57_0.unc fun ds=>fnM Pg E57_0 sh57 cm57_0 rs57 k ds:=fm57_0g
theorem is57:FnIs Pg 57 nt57 tr57 tl57 ac57 rs57:=codeF_is Tryz.func57 (by kernel_rfl)
theorem io57_0:InstOk Pg 57 nt57 ⟨pa57_0,Fn57_0 f57_0⟩:=inst_ok eo57_0 followsTry is57 ⟨⟨sh57,cm57_0,em57_0,gm57_0,fm57_0⟩⟩
abbrev nt73:Nat:=15
def sh73:SG:=[]
def tr73:TG:=[tT 0 [0,1,2],tT 1 [6]]
def tl73:TG:=[]
def ac73:ACode:=codeF Pg Tryz.f73 tr73 tl73
def rs73:List AResV:=resF Pg Tryz.f73
def pr73_0_0:PT (List RV):=pRs [pR false [rD dB]]
def ur73_0_0 {β:Type}(g:List RV->β):Bool->β:=pr73_0_0.unc g
def E73_0g:EnvK:=EnvK.of [] noSeq
def E73_0:EnvK:=E73_0g
theorem eo73_0:E73_0.Ok Pg:=EnvK.of_ok noSeq_ok TT
abbrev Tf73_0:Type 1:=(α:Type)->Int->Int->Int->(Bool->Op α)->Op α
def f73_0g (α:Type)(a b c:Int)(k1:Bool->Op α):Op α:=
 cK (decide (b<=a))
 (k1 (decide (a<=c)))
 (k1 false)
def f73_0 (α:Type)(a b c:Int)(k1:Bool->Op α):Op α:=f73_0g α a b c k1
def pa73_0:PT (List DV):=pA [vI,vI,vI]
def Fn73_0 (v:Tf73_0)(α:Type)(k:RT α):Int->Int->Int->Op α:=fun a b c=>v α a b c (fun d=>ur73_0_0 k d)
def cm73_0g:MCode:=(emb ac73)
def cm73_0:MCode:=cm73_0g
theorem gm73_0:cm73_0.Good Pg E73_0 sh73:=(emb_good ac73)
theorem em73_0:cm73_0.erase=ac73:=(emb_erase _)
theorem fm73_0g (α:Type)(k:RT α):Fn73_0 (f73_0g ) α k=pa73_0.unc fun ds=>fnM Pg (E73_0g ) sh73 (cm73_0g ) rs73 k ds:=by kernel_rfl
theorem fm73_0:∀ (α:Type) (k:RT α),Fn73_0 f73_0 α k=pa73_0.unc fun ds=>fnM Pg E73_0 sh73 cm73_0 rs73 k ds:=fm73_0g
theorem is73:FnIs Pg 73 nt73 tr73 tl73 ac73 rs73:=codeF_is Tryz.func73 (by kernel_rfl)
theorem io73_0:InstOk Pg 73 nt73 ⟨pa73_0,Fn73_0 f73_0⟩:=inst_ok eo73_0 followsTry is73 ⟨⟨sh73,cm73_0,em73_0,gm73_0,fm73_0⟩⟩
abbrev nt47:Nat:=5
def sh47:SG:=[]
def tr47:TG:=[tT 0 [0],tT 1 [2]]
def tl47:TG:=[]
def ac47:ACode:=codeF Pg Tryz.f47 tr47 tl47
def rs47:List AResV:=resF Pg Tryz.f47
def pr47_0_0:PT (List RV):=pRs [pR false [rD (dF .f64)]]
def ur47_0_0 {β:Type}(g:List RV->β):Nat->β:=pr47_0_0.unc g
def E47_0g:EnvK:=EnvK.of [] noSeq
def E47_0:EnvK:=E47_0g
theorem eo47_0:E47_0.Ok Pg:=EnvK.of_ok noSeq_ok TT
abbrev Tf47_0:Type 1:=(α:Type)->Nat->(Nat->Op α)->Op α
def f47_0g (α:Type)(a:Nat)(k1:Nat->Op α):Op α:=
 flK ((FloatKind.format .f64).sqrt a)
 (fun b=>k1 b)
def f47_0 (α:Type)(a:Nat)(k1:Nat->Op α):Op α:=f47_0g α a k1
def pa47_0:PT (List DV):=pA [pV false [(dF .f64)]]
def Fn47_0 (v:Tf47_0)(α:Type)(k:RT α):Nat->Op α:=fun a=>v α a (fun b=>ur47_0_0 k b)
def cm47_0g:MCode:=(emb ac47)
def cm47_0:MCode:=cm47_0g
theorem gm47_0:cm47_0.Good Pg E47_0 sh47:=(emb_good ac47)
theorem em47_0:cm47_0.erase=ac47:=(emb_erase _)
theorem fm47_0g (α:Type)(k:RT α):Fn47_0 (f47_0g ) α k=pa47_0.unc fun ds=>fnM Pg (E47_0g ) sh47 (cm47_0g ) rs47 k ds:=by kernel_rfl
theorem fm47_0:∀ (α:Type) (k:RT α),Fn47_0 f47_0 α k=pa47_0.unc fun ds=>fnM Pg E47_0 sh47 cm47_0 rs47 k ds:=fm47_0g
theorem is47:FnIs Pg 47 nt47 tr47 tl47 ac47 rs47:=codeF_is Tryz.func47 (by kernel_rfl)
theorem io47_0:InstOk Pg 47 nt47 ⟨pa47_0,Fn47_0 f47_0⟩:=inst_ok eo47_0 followsTry is47 ⟨⟨sh47,cm47_0,em47_0,gm47_0,fm47_0⟩⟩
abbrev nt23:Nat:=8
def sh23:SG:=[(4,iT),(6,iT)]
def tr23:TG:=[tT 0 [1,2],tT 1 [2]]
def tl23:TG:=[]
def ac23:ACode:=codeF Pg Tryz.f23 tr23 tl23
def rs23:List AResV:=resF Pg Tryz.f23
def pr23_0_0:PT (List RV):=pRs [pR true [rD (dI .i64),rD (dI .i64)]]
def ur23_0_0 {β:Type}(g:List RV->β):Int->Int->β:=pr23_0_0.unc g
def E23_0g:EnvK:=EnvK.of [] noSeq
def E23_0:EnvK:=E23_0g
theorem eo23_0:E23_0.Ok Pg:=EnvK.of_ok noSeq_ok TT
abbrev Tf23_0:Type 1:=(α:Type)->(Op α)->Op α
def f23_0g (α:Type)(k1:Op α):Op α:=
 k1
def f23_0 (α:Type)(k1:Op α):Op α:=f23_0g α k1
def pa23_0:PT (List DV):=pA [pV true [(dI .i64),(dI .i64)]]
def Fn23_0 (v:Tf23_0)(α:Type)(k:RT α):Int->Int->Op α:=fun a b=>v α (ur23_0_0 k a b)
def cm23_0g:MCode:=(emb ac23)
def cm23_0:MCode:=cm23_0g
theorem gm23_0:cm23_0.Good Pg E23_0 sh23:=(emb_good ac23)
theorem em23_0:cm23_0.erase=ac23:=(emb_erase _)
theorem fm23_0g (α:Type)(k:RT α):Fn23_0 (f23_0g ) α k=pa23_0.unc fun ds=>fnM Pg (E23_0g ) sh23 (cm23_0g ) rs23 k ds:=by kernel_rfl
theorem fm23_0:∀ (α:Type) (k:RT α),Fn23_0 f23_0 α k=pa23_0.unc fun ds=>fnM Pg E23_0 sh23 cm23_0 rs23 k ds:=fm23_0g
theorem is23:FnIs Pg 23 nt23 tr23 tl23 ac23 rs23:=codeF_is Tryz.func23 (by kernel_rfl)
theorem io23_0:InstOk Pg 23 nt23 ⟨pa23_0,Fn23_0 f23_0⟩:=inst_ok eo23_0 followsTry is23 ⟨⟨sh23,cm23_0,em23_0,gm23_0,fm23_0⟩⟩
abbrev nt19:Nat:=4
def sh19:SG:=[]
def tr19:TG:=[tT 0 [1],tT 1 [2]]
def tl19:TG:=[]
def ac19:ACode:=codeF Pg Tryz.f19 tr19 tl19
def rs19:List AResV:=resF Pg Tryz.f19
def pr19_0_0:PT (List RV):=pRs [pR false [rD (dFn 44 [(dP [dL] 0)])]]
def ur19_0_0 {β:Type}(g:List RV->β):Rows->β:=pr19_0_0.unc g
def E19_0g:EnvK:=EnvK.of [] noSeq
def E19_0:EnvK:=E19_0g
theorem eo19_0:E19_0.Ok Pg:=EnvK.of_ok noSeq_ok TT
abbrev Tf19_0:Type 1:=(α:Type)->(Op α)->Op α
def f19_0g (α:Type)(k1:Op α):Op α:=
 k1
def f19_0 (α:Type)(k1:Op α):Op α:=f19_0g α k1
def pa19_0:PT (List DV):=pA [pV false [dL]]
def Fn19_0 (v:Tf19_0)(α:Type)(k:RT α):Rows->Op α:=fun a=>v α (ur19_0_0 k a)
def cm19_0g:MCode:=(emb ac19)
def cm19_0:MCode:=cm19_0g
theorem gm19_0:cm19_0.Good Pg E19_0 sh19:=(emb_good ac19)
theorem em19_0:cm19_0.erase=ac19:=(emb_erase _)
theorem fm19_0g (α:Type)(k:RT α):Fn19_0 (f19_0g ) α k=pa19_0.unc fun ds=>fnM Pg (E19_0g ) sh19 (cm19_0g ) rs19 k ds:=by kernel_rfl
theorem fm19_0:∀ (α:Type) (k:RT α),Fn19_0 f19_0 α k=pa19_0.unc fun ds=>fnM Pg E19_0 sh19 cm19_0 rs19 k ds:=fm19_0g
theorem is19:FnIs Pg 19 nt19 tr19 tl19 ac19 rs19:=codeF_is Tryz.func19 (by kernel_rfl)
theorem io19_0:InstOk Pg 19 nt19 ⟨pa19_0,Fn19_0 f19_0⟩:=inst_ok eo19_0 followsTry is19 ⟨⟨sh19,cm19_0,em19_0,gm19_0,fm19_0⟩⟩
abbrev nt45:Nat:=15
def sh45:SG:=[]
def tr45:TG:=[tT 0 [0,1,2],tT 1 [6]]
def tl45:TG:=[]
def ac45:ACode:=codeF Pg Tryz.f45 tr45 tl45
def rs45:List AResV:=resF Pg Tryz.f45
def pr45_0_0:PT (List RV):=pRs [pR false [rD dB]]
def ur45_0_0 {β:Type}(g:List RV->β):Bool->β:=pr45_0_0.unc g
def E45_0g:EnvK:=EnvK.of [] noSeq
def E45_0:EnvK:=E45_0g
theorem eo45_0:E45_0.Ok Pg:=EnvK.of_ok noSeq_ok TT
abbrev Tf45_0:Type 1:=(α:Type)->Int->Int->Int->(Bool->Op α)->Op α
def f45_0g (α:Type)(a b c:Int)(k1:Bool->Op α):Op α:=
 cK (decide (b<=a))
 (k1 (decide (a<=c)))
 (k1 false)
def f45_0 (α:Type)(a b c:Int)(k1:Bool->Op α):Op α:=f45_0g α a b c k1
def pa45_0:PT (List DV):=pA [vI,vI,vI]
def Fn45_0 (v:Tf45_0)(α:Type)(k:RT α):Int->Int->Int->Op α:=fun a b c=>v α a b c (fun d=>ur45_0_0 k d)
def cm45_0g:MCode:=(emb ac45)
def cm45_0:MCode:=cm45_0g
theorem gm45_0:cm45_0.Good Pg E45_0 sh45:=(emb_good ac45)
theorem em45_0:cm45_0.erase=ac45:=(emb_erase _)
theorem fm45_0g (α:Type)(k:RT α):Fn45_0 (f45_0g ) α k=pa45_0.unc fun ds=>fnM Pg (E45_0g ) sh45 (cm45_0g ) rs45 k ds:=by kernel_rfl
theorem fm45_0:∀ (α:Type) (k:RT α),Fn45_0 f45_0 α k=pa45_0.unc fun ds=>fnM Pg E45_0 sh45 cm45_0 rs45 k ds:=fm45_0g
theorem is45:FnIs Pg 45 nt45 tr45 tl45 ac45 rs45:=codeF_is Tryz.func45 (by kernel_rfl)
theorem io45_0:InstOk Pg 45 nt45 ⟨pa45_0,Fn45_0 f45_0⟩:=inst_ok eo45_0 followsTry is45 ⟨⟨sh45,cm45_0,em45_0,gm45_0,fm45_0⟩⟩
abbrev nt18:Nat:=8
def sh18:SG:=[(4,iT),(6,iT)]
def tr18:TG:=[tT 0 [1,2],tT 1 [2]]
def tl18:TG:=[]
def ac18:ACode:=codeF Pg Tryz.f18 tr18 tl18
def rs18:List AResV:=resF Pg Tryz.f18
def pr18_0_0:PT (List RV):=pRs [pR true [rD (dI .i64),rD (dI .i64)]]
def ur18_0_0 {β:Type}(g:List RV->β):Int->Int->β:=pr18_0_0.unc g
def E18_0g:EnvK:=EnvK.of [] noSeq
def E18_0:EnvK:=E18_0g
theorem eo18_0:E18_0.Ok Pg:=EnvK.of_ok noSeq_ok TT
abbrev Tf18_0:Type 1:=(α:Type)->(Op α)->Op α
def f18_0g (α:Type)(k1:Op α):Op α:=
 k1
def f18_0 (α:Type)(k1:Op α):Op α:=f18_0g α k1
def pa18_0:PT (List DV):=pA [pV true [(dI .i64),(dI .i64)]]
def Fn18_0 (v:Tf18_0)(α:Type)(k:RT α):Int->Int->Op α:=fun a b=>v α (ur18_0_0 k a b)
def cm18_0g:MCode:=(emb ac18)
def cm18_0:MCode:=cm18_0g
theorem gm18_0:cm18_0.Good Pg E18_0 sh18:=(emb_good ac18)
theorem em18_0:cm18_0.erase=ac18:=(emb_erase _)
theorem fm18_0g (α:Type)(k:RT α):Fn18_0 (f18_0g ) α k=pa18_0.unc fun ds=>fnM Pg (E18_0g ) sh18 (cm18_0g ) rs18 k ds:=by kernel_rfl
theorem fm18_0:∀ (α:Type) (k:RT α),Fn18_0 f18_0 α k=pa18_0.unc fun ds=>fnM Pg E18_0 sh18 cm18_0 rs18 k ds:=fm18_0g
theorem is18:FnIs Pg 18 nt18 tr18 tl18 ac18 rs18:=codeF_is Tryz.func18 (by kernel_rfl)
theorem io18_0:InstOk Pg 18 nt18 ⟨pa18_0,Fn18_0 f18_0⟩:=inst_ok eo18_0 followsTry is18 ⟨⟨sh18,cm18_0,em18_0,gm18_0,fm18_0⟩⟩
abbrev nt46:Nat:=12
def sh46:SG:=[]
def tr46:TG:=[tT 0 [0,1],tT 1 [0,1,6],tT 2 [0,1],tT 3 [4]]
def tl46:TG:=[tT 1 [0,1]]
def ac46:ACode:=codeF Pg Tryz.f46 tr46 tl46
def rs46:List AResV:=resF Pg Tryz.f46
def td46_5:OT:=tdC (MCode.sub [1,0,0] (emb ac46))
def p46_0_0:PT St:=pS [sI 0,sI 1] []
def u46_0_0 {β:Type}(g:St->β):Int->Int->β:=p46_0_0.unc g
def p46_0_1:PT St:=pS [sI 0,sI 1,sY 6 dB] []
def u46_0_1 {β:Type}(g:St->β):Int->Int->Bool->β:=p46_0_1.unc g
def pr46_0_0:PT (List RV):=pRs [wI]
def ur46_0_0 {β:Type}(g:List RV->β):Int->β:=pr46_0_0.unc g
def E46_0g:EnvK:=EnvK.of [] noSeq
def E46_0:EnvK:=E46_0g
theorem eo46_0:E46_0.Ok Pg:=EnvK.of_ok noSeq_ok TT
def c46_0_5g:MCode:=MCode.sub [1,0,0,0] (emb ac46)
def c46_0_5:MCode:=c46_0_5g
def S46_0_0g (α:Type)(b a:Int)(kn:Int->Int->Op α)(k1:Int->Int->Bool->Op α):Op α:=
 cK (a != 0)
 (gK (a != 0) (kn a (Int.tmod b a)))
 (k1 b a (a != 0))
def S46_0_0 (α:Type)(a b:Int)(kn:Int->Int->Op α)(k1:Int->Int->Bool->Op α):Op α:=S46_0_0g α a b kn k1
def R46_0_0 (α:Type)(k1:Int->Int->Bool->Op α):Nat->Int->Int->Op α
 | 0,_,_=>none
 | n+1,a,b=>S46_0_0 α a b (R46_0_0 α k1 n) k1
def L46_0_0 (α:Type)(k1:Int->Int->Bool->Op α)(a b:Int):Op α:=R46_0_0 α k1 fuel a b
abbrev TL46_0_0:Type 1:=(α:Type)->(Int->Int->Bool->Op α)->Int->Int->Op α
def F46_0_0 (v:TL46_0_0)(α:Type)(K:KT α):Int->Int->Op α:=fun a b=>v α (fun c d e=>u46_0_1 (K (.exit 0)) c d e) a b
theorem r46_0_0g (α:Type)(K:KT α)(Kn:SK α)(a b:Int):u46_0_0 (fun σ=>runM Pg (E46_0g ) sh46 (c46_0_5g ) (thenK (fun σ=>tidyK td46_5 σ Kn) K) σ) a b=S46_0_0g α a b (fun a b=>u46_0_0 Kn a b) (fun c d e=>u46_0_1 (K (.exit 0)) c d e):=by kernel_rfl
theorem r46_0_0 (α:Type)(K:KT α)(Kn:SK α)(a b:Int):u46_0_0 (fun σ=>runM Pg E46_0 sh46 c46_0_5 (thenK (fun σ=>tidyK td46_5 σ Kn) K) σ) a b=S46_0_0 α a b (fun a b=>u46_0_0 Kn a b) (fun c d e=>u46_0_1 (K (.exit 0)) c d e):=r46_0_0g α K Kn a b
theorem t46_0_0 (α:Type)(K:KT α):∀ (n:Nat) (a b:Int),R46_0_0 α (fun c d e=>u46_0_1 (K (.exit 0)) c d e) n a b=u46_0_0 (loopT (runM Pg E46_0 sh46 c46_0_5) td46_5 K n) a b:=by
 intro n
 induction n with
 | zero=>intros;rfl
 | succ n ih=>intro a b;exact (congrArg (fun kn=>S46_0_0 α a b kn (fun c d e=>u46_0_1 (K (.exit 0)) c d e)) (funext fun a=>funext fun b=>ih a b)).trans (r46_0_0 α K (loopT (runM Pg E46_0 sh46 c46_0_5) td46_5 K n) a b).symm
theorem m46_0_0:∀ (α:Type) (K:KT α),F46_0_0 L46_0_0 α K=p46_0_0.unc fun σ=>loopT (runM Pg E46_0 sh46 c46_0_5) td46_5 K fuel σ:=fun α K=>funext fun a=>funext fun b=>t46_0_0 α K fuel a b
abbrev Tf46_0:Type 1:=(α:Type)->Int->Int->(Int->Op α)->Op α
def f46_0g (a:TL46_0_0)(α:Type)(b c:Int)(k1:Int->Op α):Op α:=
 a α
 (fun d e g=>k1 d) b c
def f46_0 (α:Type)(a b:Int)(k1:Int->Op α):Op α:=f46_0g L46_0_0 α a b k1
def pa46_0:PT (List DV):=pA [vI,vI]
def Fn46_0 (v:Tf46_0)(α:Type)(k:RT α):Int->Int->Op α:=fun a b=>v α a b (fun c=>ur46_0_0 k c)
def cm46_0g (a:TL46_0_0):MCode:=(MCode.put (.m [⟨p46_0_0,F46_0_0 a⟩]) [1,0,0] (emb ac46))
def cm46_0:MCode:=cm46_0g L46_0_0
theorem gm46_0:cm46_0.Good Pg E46_0 sh46:=(put_loop (td:=td46_5) (by kernel_rfl) (emb_good ac46) ⟨m46_0_0,TT⟩)
theorem em46_0:cm46_0.erase=ac46:=((put_erase _ _).trans (emb_erase _))
theorem fm46_0g (a:TL46_0_0)(α:Type)(k:RT α):Fn46_0 (f46_0g a) α k=pa46_0.unc fun ds=>fnM Pg (E46_0g ) sh46 (cm46_0g a) rs46 k ds:=by kernel_rfl
theorem fm46_0:∀ (α:Type) (k:RT α),Fn46_0 f46_0 α k=pa46_0.unc fun ds=>fnM Pg E46_0 sh46 cm46_0 rs46 k ds:=fm46_0g L46_0_0
theorem is46:FnIs Pg 46 nt46 tr46 tl46 ac46 rs46:=codeF_is Tryz.func46 (by kernel_rfl)
theorem io46_0:InstOk Pg 46 nt46 ⟨pa46_0,Fn46_0 f46_0⟩:=inst_ok eo46_0 followsTry is46 ⟨⟨sh46,cm46_0,em46_0,gm46_0,fm46_0⟩⟩
abbrev nt42:Nat:=7
def sh42:SG:=[]
def tr42:TG:=[tT 0 [0],tT 1 [2]]
def tl42:TG:=[]
def ac42:ACode:=codeF Pg Tryz.f42 tr42 tl42
def rs42:List AResV:=resF Pg Tryz.f42
def pr42_0_0:PT (List RV):=pRs [wI]
def ur42_0_0 {β:Type}(g:List RV->β):Int->β:=pr42_0_0.unc g
def E42_0g:EnvK:=EnvK.of [] noSeq
def E42_0:EnvK:=E42_0g
theorem eo42_0:E42_0.Ok Pg:=EnvK.of_ok noSeq_ok TT
abbrev Tf42_0:Type 1:=(α:Type)->Int->(Int->Op α)->Op α
def f42_0g (α:Type)(a:Int)(k1:Int->Op α):Op α:=
 k1 (if (w64 (0 - a)) > a then (w64 (0 - a)) else a)
def f42_0 (α:Type)(a:Int)(k1:Int->Op α):Op α:=f42_0g α a k1
def pa42_0:PT (List DV):=pA [vI]
def Fn42_0 (v:Tf42_0)(α:Type)(k:RT α):Int->Op α:=fun a=>v α a (fun b=>ur42_0_0 k b)
def cm42_0g:MCode:=(emb ac42)
def cm42_0:MCode:=cm42_0g
theorem gm42_0:cm42_0.Good Pg E42_0 sh42:=(emb_good ac42)
theorem em42_0:cm42_0.erase=ac42:=(emb_erase _)
theorem fm42_0g (α:Type)(k:RT α):Fn42_0 (f42_0g ) α k=pa42_0.unc fun ds=>fnM Pg (E42_0g ) sh42 (cm42_0g ) rs42 k ds:=by kernel_rfl
theorem fm42_0:∀ (α:Type) (k:RT α),Fn42_0 f42_0 α k=pa42_0.unc fun ds=>fnM Pg E42_0 sh42 cm42_0 rs42 k ds:=fm42_0g
theorem is42:FnIs Pg 42 nt42 tr42 tl42 ac42 rs42:=codeF_is Tryz.func42 (by kernel_rfl)
theorem io42_0:InstOk Pg 42 nt42 ⟨pa42_0,Fn42_0 f42_0⟩:=inst_ok eo42_0 followsTry is42 ⟨⟨sh42,cm42_0,em42_0,gm42_0,fm42_0⟩⟩
abbrev nt5:Nat:=15
def sh5:SG:=[]
def tr5:TG:=[tT 0 [0,1,2],tT 1 [6]]
def tl5:TG:=[]
def ac5:ACode:=codeF Pg Tryz.f5 tr5 tl5
def rs5:List AResV:=resF Pg Tryz.f5
def pr5_0_0:PT (List RV):=pRs [pR false [rD dB]]
def ur5_0_0 {β:Type}(g:List RV->β):Bool->β:=pr5_0_0.unc g
def E5_0g:EnvK:=EnvK.of [] noSeq
def E5_0:EnvK:=E5_0g
theorem eo5_0:E5_0.Ok Pg:=EnvK.of_ok noSeq_ok TT
abbrev Tf5_0:Type 1:=(α:Type)->Int->Int->Int->(Bool->Op α)->Op α
def f5_0g (α:Type)(a b c:Int)(k1:Bool->Op α):Op α:=
 cK (decide (b<=a))
 (k1 (decide (a<=c)))
 (k1 false)
def f5_0 (α:Type)(a b c:Int)(k1:Bool->Op α):Op α:=f5_0g α a b c k1
def pa5_0:PT (List DV):=pA [vI,vI,vI]
def Fn5_0 (v:Tf5_0)(α:Type)(k:RT α):Int->Int->Int->Op α:=fun a b c=>v α a b c (fun d=>ur5_0_0 k d)
def cm5_0g:MCode:=(emb ac5)
def cm5_0:MCode:=cm5_0g
theorem gm5_0:cm5_0.Good Pg E5_0 sh5:=(emb_good ac5)
theorem em5_0:cm5_0.erase=ac5:=(emb_erase _)
theorem fm5_0g (α:Type)(k:RT α):Fn5_0 (f5_0g ) α k=pa5_0.unc fun ds=>fnM Pg (E5_0g ) sh5 (cm5_0g ) rs5 k ds:=by kernel_rfl
theorem fm5_0:∀ (α:Type) (k:RT α),Fn5_0 f5_0 α k=pa5_0.unc fun ds=>fnM Pg E5_0 sh5 cm5_0 rs5 k ds:=fm5_0g
theorem is5:FnIs Pg 5 nt5 tr5 tl5 ac5 rs5:=codeF_is Tryz.func5 (by kernel_rfl)
theorem io5_0:InstOk Pg 5 nt5 ⟨pa5_0,Fn5_0 f5_0⟩:=inst_ok eo5_0 followsTry is5 ⟨⟨sh5,cm5_0,em5_0,gm5_0,fm5_0⟩⟩
abbrev nt11:Nat:=47
def sh11:SG:=[]
def tr11:TG:=[tT 0 [0,1,2,3],tT 1 [0,1,2,3,9,10],tT 2 [0,1,2,3,9,10,19],tT 3 [8],tT 4 [0,1,2,3,9,10,22],tT 5 [8],tT 6 [0,1,2,3],tT 7 [0,1,2,3,38],tT 8 [8],tT 9 [0,1,2,3,40],tT 10 [8],tT 11 [0,1,2,3,42],tT 12 [8],tT 13 [0,1,2,3]]
def tl11:TG:=[tT 1 [0,1,2,3]]
def ac11:ACode:=codeF Pg Tryz.f11 tr11 tl11
def rs11:List AResV:=resF Pg Tryz.f11
def td11_4:OT:=tdC (MCode.sub [1,0] (emb ac11))
def p11_0_0:PT St:=pS [sI 0,sI 1,sI 2,sI 3] []
def u11_0_0 {β:Type}(g:St->β):I4 β:=p11_0_0.unc g
def p11_0_1:PT St:=pS [sI 8] []
def u11_0_1 {β:Type}(g:St->β):Int->β:=p11_0_1.unc g
def p11_0_2:PT St:=pS [sI 0,sI 1,sI 2,sI 3,sY 38 dB] []
def u11_0_2 {β:Type}(g:St->β):Int->Int->Int->Int->Bool->β:=p11_0_2.unc g
def pr11_0_0:PT (List RV):=pRs [wI]
def ur11_0_0 {β:Type}(g:List RV->β):Int->β:=pr11_0_0.unc g
def E11_0g (a:Tf10_0):EnvK:=EnvK.of [⟨10,nt10,[⟨pa10_0,Fn10_0 a⟩]⟩] noSeq
def E11_0:EnvK:=E11_0g f10_0
theorem eo11_0:E11_0.Ok Pg:=EnvK.of_ok noSeq_ok ⟨⟨io10_0,TT⟩,TT⟩
def c11_0_22g:MCode:=MCode.sub [1,0,0,0,1,1,1,1,0] (emb ac11)
def c11_0_22:MCode:=c11_0_22g
abbrev TJ11_0_0:Type 1:=(α:Type)->Int->Int->(Op α)->(Bool->Op α)->Op α
def J11_0_0g (α:Type)(b a:Int)(k1:Op α)(k2:Bool->Op α):Op α:=
 cK (b == 0)
 (cK (a == 0)
 (k1)
 (k2 (a == 0)))
 (k2 false)
def J11_0_0 (α:Type)(a b:Int)(k1:Op α)(k2:Bool->Op α):Op α:=J11_0_0g α a b k1 k2
def F11_0_0 (v:TJ11_0_0)(α:Type)(K:KT α):I4 (Op α):=fun a c b d=>v α a b (u11_0_1 (K .ret) 0) (fun e=>u11_0_2 (K .normal) a c b d e)
theorem m11_0_0g (a:Tf10_0)(α:Type)(K:KT α):F11_0_0 (J11_0_0g ) α K=p11_0_0.unc fun σ=>runM Pg (E11_0g a) sh11 (c11_0_22g ) K σ:=by kernel_rfl
theorem m11_0_0:∀ (α:Type) (K:KT α),F11_0_0 J11_0_0 α K=p11_0_0.unc fun σ=>runM Pg E11_0 sh11 c11_0_22 K σ:=m11_0_0g f10_0
def c11_0_4g (a:TJ11_0_0):MCode:=MCode.sub [1,0,0] (MCode.put (.m [⟨p11_0_0,F11_0_0 a⟩]) [1,0,0,0,1,1,1,1] (emb ac11))
def c11_0_4:MCode:=c11_0_4g J11_0_0
def S11_0_1g (i:TJ11_0_0)(h:Tf10_0)(α:Type)(e a g b:Int)(kn:I4 (Op α))(k1:Int->Op α):Op α:=
 h α e a
 (fun c=>h α g b
 (fun d=>cK (decide (c < d))
 (k1 (-1))
 (cK (decide (d < c))
 (k1 1)
 (i α (w64 (e - (w64 (c*a)))) (w64 (g - (w64 (d*b))))
 (k1 0)
 (fun j=>cK ((w64 (e - (w64 (c*a)))) == 0)
 (k1 (-1))
 (cK ((w64 (g - (w64 (d*b)))) == 0)
 (k1 1)
 (kn b (w64 (g - (w64 (d*b)))) a (w64 (e - (w64 (c*a)))))))))))
def S11_0_1 (α:Type)(a b c d:Int)(kn:I4 (Op α))(k1:Int->Op α):Op α:=S11_0_1g J11_0_0 f10_0 α a b c d kn k1
def R11_0_1 (α:Type)(k1:Int->Op α):Nat->I4 (Op α)
 | 0,_,_,_,_=>none
 | n+1,a,b,c,d=>S11_0_1 α a b c d (R11_0_1 α k1 n) k1
def L11_0_1 (α:Type)(k1:Int->Op α)(a b c d:Int):Op α:=R11_0_1 α k1 fuel a b c d
abbrev TL11_0_1:Type 1:=(α:Type)->(Int->Op α)->I4 (Op α)
def F11_0_1 (v:TL11_0_1)(α:Type)(K:KT α):I4 (Op α):=fun a b c d=>v α (fun e=>u11_0_1 (K .ret) e) a b c d
theorem r11_0_1g (e:Tf10_0)(g:TJ11_0_0)(α:Type)(K:KT α)(Kn:SK α)(a b c d:Int):u11_0_0 (fun σ=>runM Pg (E11_0g e) sh11 (c11_0_4g g) (thenK (fun σ=>tidyK td11_4 σ Kn) K) σ) a b c d=S11_0_1g g e α a b c d (fun a b c d=>u11_0_0 Kn a b c d) (fun h=>u11_0_1 (K .ret) h):=by kernel_rfl
theorem r11_0_1 (α:Type)(K:KT α)(Kn:SK α)(a b c d:Int):u11_0_0 (fun σ=>runM Pg E11_0 sh11 c11_0_4 (thenK (fun σ=>tidyK td11_4 σ Kn) K) σ) a b c d=S11_0_1 α a b c d (fun a b c d=>u11_0_0 Kn a b c d) (fun e=>u11_0_1 (K .ret) e):=r11_0_1g f10_0 J11_0_0 α K Kn a b c d
theorem t11_0_1 (α:Type)(K:KT α):∀ (n:Nat) (a b c d:Int),R11_0_1 α (fun e=>u11_0_1 (K .ret) e) n a b c d=u11_0_0 (loopT (runM Pg E11_0 sh11 c11_0_4) td11_4 K n) a b c d:=by
 intro n
 induction n with
 | zero=>intros;rfl
 | succ n ih=>intro a b c d;exact (congrArg (fun kn=>S11_0_1 α a b c d kn (fun e=>u11_0_1 (K .ret) e)) (funext fun a=>funext fun b=>funext fun c=>funext fun d=>ih a b c d)).trans (r11_0_1 α K (loopT (runM Pg E11_0 sh11 c11_0_4) td11_4 K n) a b c d).symm
theorem m11_0_1:∀ (α:Type) (K:KT α),F11_0_1 L11_0_1 α K=p11_0_0.unc fun σ=>loopT (runM Pg E11_0 sh11 c11_0_4) td11_4 K fuel σ:=fun α K=>by funext a b c d;exact t11_0_1 α K fuel a b c d
abbrev Tf11_0:Type 1:=(α:Type)->Int->Int->Int->Int->(Int->Op α)->Op α
def f11_0g (a:TL11_0_1)(α:Type)(b c d e:Int)(k1:Int->Op α):Op α:=
 a α
 (fun g=>k1 g) b c d e
def f11_0 (α:Type)(a b c d:Int)(k1:Int->Op α):Op α:=f11_0g L11_0_1 α a b c d k1
def pa11_0:PT (List DV):=pA [vI,vI,vI,vI]
def Fn11_0 (v:Tf11_0)(α:Type)(k:RT α):I4 (Op α):=fun a b c d=>v α a b c d (fun e=>ur11_0_0 k e)
def cm11_0g (a:TL11_0_1):MCode:=(MCode.put (.m [⟨p11_0_0,F11_0_1 a⟩]) [1,0] (MCode.put (.m [⟨p11_0_0,F11_0_0 J11_0_0⟩]) [1,0,0,0,1,1,1,1] (emb ac11)))
def cm11_0:MCode:=cm11_0g L11_0_1
theorem gm11_0:cm11_0.Good Pg E11_0 sh11:=(put_loop (td:=td11_4) (by kernel_rfl) (put_seq (by kernel_rfl) (emb_good ac11) ⟨m11_0_0,TT⟩) ⟨m11_0_1,TT⟩)
theorem em11_0:cm11_0.erase=ac11:=((put_erase _ _).trans ((put_erase _ _).trans (emb_erase _)))
theorem fm11_0g (b:Tf10_0)(a:TL11_0_1)(α:Type)(k:RT α):Fn11_0 (f11_0g a) α k=pa11_0.unc fun ds=>fnM Pg (E11_0g b) sh11 (cm11_0g a) rs11 k ds:=by kernel_rfl
theorem fm11_0:∀ (α:Type) (k:RT α),Fn11_0 f11_0 α k=pa11_0.unc fun ds=>fnM Pg E11_0 sh11 cm11_0 rs11 k ds:=fm11_0g f10_0 L11_0_1
theorem is11:FnIs Pg 11 nt11 tr11 tl11 ac11 rs11:=codeF_is Tryz.func11 (by kernel_rfl)
theorem io11_0:InstOk Pg 11 nt11 ⟨pa11_0,Fn11_0 f11_0⟩:=inst_ok eo11_0 followsTry is11 ⟨⟨sh11,cm11_0,em11_0,gm11_0,fm11_0⟩⟩
abbrev nt37:Nat:=25
def sh37:SG:=[(10,[.sl])]
def tr37:TG:=[tT 0 [0],tT 1 [0,12,13],tT 2 [0,12,13,14],tT 3 [0,3,12,13],tT 4 [0,5,12,13],tT 5 [0,12,13,23],tT 6 [0,2],tT 7 [0,12,13],tT 8 [0,2]]
def tl37:TG:=[tT 2 [0,12,13]]
def ac37:ACode:=codeF Pg Tryz.f37 tr37 tl37
def rs37:List AResV:=resF Pg Tryz.f37
def td37_7:OT:=tdC (MCode.sub [1,0,1,0] (emb ac37))
def p37_0_0:PT St:=pSv [(0,500000000,0)] [sl 0 (aV false [(cPtr 500000000 0)]),sI 12,sI 13] [eBox 500000000 [xI,xI,xI,xI,xI,xI,xI,(cD dL),xI,xI]]
def u37_0_0 {β:Type}(g:St->β):Int->Int->Int->Int->Int->Int->Int->Int->Int->Rows->Int->Int->β:=p37_0_0.unc g
def p37_0_1:PT St:=pSv [(0,500000000,0)] [sl 0 (aV false [(cPtr 500000000 0)]),sY 2 dB] [eBox 500000000 [xI,xI,xI,xI,xI,xI,xI,(cD dL),xI,xI]]
def u37_0_1 {β:Type}(g:St->β):Bool->Int->Int->Int->Int->Int->Int->Int->Rows->Int->Int->β:=p37_0_1.unc g
def p37_0_2:PT St:=pSv [(0,500000000,0)] [sl 0 (aV false [(cPtr 500000000 0)]),sI 12,sI 13,sY 14 dB] [eBox 500000000 [xI,xI,xI,xI,xI,xI,xI,(cD dL),xI,xI]]
def u37_0_2 {β:Type}(g:St->β):Int->Int->Bool->Int->Int->Int->Int->Int->Int->Int->Rows->Int->Int->β:=p37_0_2.unc g
def pr37_0_0:PT (List RV):=pRs [pR false [rD dB],pR true [rD (dI .i64),rD (dI .i64),rD (dI .i64),rD (dI .i64),rD (dI .i64),rD (dI .i64),rD (dI .i64),rD dL,rD (dI .i64),rD (dI .i64)]]
def ur37_0_0 {β:Type}(g:List RV->β):Bool->Int->Int->Int->Int->Int->Int->Int->Rows->Int->Int->β:=pr37_0_0.unc g
def E37_0g (a:Tf57_0):EnvK:=EnvK.ofIO [⟨57,nt57,[⟨pa57_0,Fn57_0 a⟩]⟩] noSeq [(57,[0])]
def E37_0:EnvK:=E37_0g f57_0
theorem eo37_0:E37_0.Ok Pg:=EnvK.ofIO_ok noSeq_ok ⟨⟨io57_0,TT⟩,TT⟩
def c37_0_7g:MCode:=MCode.sub [1,0,1,0,0] (emb ac37)
def c37_0_7:MCode:=c37_0_7g
def S37_0_0g (c:Tf57_0)(α:Type)(b d:Int)(e:Rows)(g h a:Int)(kn:Int->Op α)(k1:Op α)(k2:Int->Bool->Op α):Op α:=
 cK (decide (a < b))
 (c α d e g h a
 (fun j l i=>cK (i != 0)
 (k1)
 (kn (w64 (a+1)))))
 (k2 a (decide (a < b)))
def S37_0_0 (α:Type)(a b:Int)(c:Rows)(d e g:Int)(kn:Int->Op α)(k1:Op α)(k2:Int->Bool->Op α):Op α:=S37_0_0g f57_0 α a b c d e g kn k1 k2
def R37_0_0 (α:Type)(a b:Int)(c:Rows)(d e:Int)(k1:Op α)(k2:Int->Bool->Op α):Nat->Int->Op α
 | 0,_=>none
 | n+1,g=>S37_0_0 α a b c d e g (R37_0_0 α a b c d e k1 k2 n) k1 k2
def L37_0_0 (α:Type)(a b:Int)(c:Rows)(d e:Int)(k1:Op α)(k2:Int->Bool->Op α)(g:Int):Op α:=R37_0_0 α a b c d e k1 k2 fuel g
abbrev TL37_0_0:Type 1:=(α:Type)->Int->Int->Rows->Int->Int->(Op α)->(Int->Bool->Op α)->Int->Op α
def F37_0_0 (v:TL37_0_0)(α:Type)(K:KT α):Int->Int->Int->Int->Int->Int->Int->Int->Int->Rows->Int->Int->Op α:=fun e o g a h i j l m b c d=>v α e a b c d (u37_0_1 (K .ret) true g a h i j l m b c d) (fun p q=>u37_0_2 (K (.exit 0)) e p q g a h i j l m b c d) o
theorem r37_0_0g (p:Tf57_0)(α:Type)(K:KT α)(Kn:SK α)(e g h a i j l m o:Int)(b:Rows)(c d:Int):u37_0_0 (fun σ=>runM Pg (E37_0g p) sh37 (c37_0_7g ) (thenK (fun σ=>tidyK td37_7 σ Kn) K) σ) e g h a i j l m o b c d=S37_0_0g p α e a b c d g (fun g=>u37_0_0 Kn e g h a i j l m o b c d) (u37_0_1 (K .ret) true h a i j l m o b c d) (fun q r=>u37_0_2 (K (.exit 0)) e q r h a i j l m o b c d):=by kernel_rfl
theorem r37_0_0 (α:Type)(K:KT α)(Kn:SK α)(e g h a i j l m o:Int)(b:Rows)(c d:Int):u37_0_0 (fun σ=>runM Pg E37_0 sh37 c37_0_7 (thenK (fun σ=>tidyK td37_7 σ Kn) K) σ) e g h a i j l m o b c d=S37_0_0 α e a b c d g (fun g=>u37_0_0 Kn e g h a i j l m o b c d) (u37_0_1 (K .ret) true h a i j l m o b c d) (fun p q=>u37_0_2 (K (.exit 0)) e p q h a i j l m o b c d):=r37_0_0g f57_0 α K Kn e g h a i j l m o b c d
theorem t37_0_0 (α:Type)(K:KT α):∀ (n:Nat) (e o g a h i j l m:Int) (b:Rows) (c d:Int),R37_0_0 α e a b c d (u37_0_1 (K .ret) true g a h i j l m b c d) (fun p q=>u37_0_2 (K (.exit 0)) e p q g a h i j l m b c d) n o=u37_0_0 (loopT (runM Pg E37_0 sh37 c37_0_7) td37_7 K n) e o g a h i j l m b c d:=by
 intro n
 induction n with
 | zero=>intros;rfl
 | succ n ih=>intro e o g a h i j l m b c d;exact (congrArg (fun kn=>S37_0_0 α e a b c d o kn (u37_0_1 (K .ret) true g a h i j l m b c d) (fun p q=>u37_0_2 (K (.exit 0)) e p q g a h i j l m b c d)) (funext fun o=>ih e o g a h i j l m b c d)).trans (r37_0_0 α K (loopT (runM Pg E37_0 sh37 c37_0_7) td37_7 K n) e o g a h i j l m b c d).symm
theorem m37_0_0:∀ (α:Type) (K:KT α),F37_0_0 L37_0_0 α K=p37_0_0.unc fun σ=>loopT (runM Pg E37_0 sh37 c37_0_7) td37_7 K fuel σ:=fun α K=>by funext a b c d e g h i j l m o;exact t37_0_0 α K fuel a b c d e g h i j l m o
abbrev Tf37_0:Type 1:=(α:Type)->Int->Rows->Int->Int->(Bool->Op α)->Op α
def f37_0g (b:TL37_0_0)(α:Type)(c:Int)(a:Rows)(d e:Int)(k1:Bool->Op α):Op α:=
 b α (w64 (((List.length a:Nat):Int)+2)) c a d e
 (k1 true)
 (fun g h=>k1 false) 0
def f37_0 (α:Type)(a:Int)(b:Rows)(c d:Int)(k1:Bool->Op α):Op α:=f37_0g L37_0_0 α a b c d k1
def pa37_0:PT (List DV):=pA [pV false [(dMr [(dI .i64),(dI .i64),(dI .i64),(dI .i64),(dI .i64),(dI .i64),(dI .i64),dL,(dI .i64),(dI .i64)] 0)]]
def Fn37_0 (v:Tf37_0)(α:Type)(k:RT α):Int->Int->Int->Int->Int->Int->Int->Rows->Int->Int->Op α:=fun e a g h i j l b c d=>v α a b c d (fun m=>ur37_0_0 k m e a g h i j l b c d)
def cm37_0g (a:TL37_0_0):MCode:=(MCode.put (.m [⟨p37_0_0,F37_0_0 a⟩]) [1,0,1,0] (emb ac37))
def cm37_0:MCode:=cm37_0g L37_0_0
theorem gm37_0:cm37_0.Good Pg E37_0 sh37:=(put_loop (td:=td37_7) (by kernel_rfl) (emb_good ac37) ⟨m37_0_0,TT⟩)
theorem em37_0:cm37_0.erase=ac37:=((put_erase _ _).trans (emb_erase _))
theorem fm37_0g (b:Tf57_0)(a:TL37_0_0)(α:Type)(k:RT α):Fn37_0 (f37_0g a) α k=pa37_0.unc fun ds=>fnM Pg (E37_0g b) sh37 (cm37_0g a) rs37 k ds:=by kernel_rfl
theorem fm37_0:∀ (α:Type) (k:RT α),Fn37_0 f37_0 α k=pa37_0.unc fun ds=>fnM Pg E37_0 sh37 cm37_0 rs37 k ds:=fm37_0g f57_0 L37_0_0
theorem is37:FnIs Pg 37 nt37 tr37 tl37 ac37 rs37:=codeF_is Tryz.func37 (by kernel_rfl)
theorem io37_0:InstOk Pg 37 nt37 ⟨pa37_0,Fn37_0 f37_0⟩:=inst_ok eo37_0 followsTry is37 ⟨⟨sh37,cm37_0,em37_0,gm37_0,fm37_0⟩⟩
abbrev nt138:Nat:=32
def sh138:SG:=[(7,iT),(13,iT),(21,iT),(28,iT),(30,iT)]
def tr138:TG:=[tT 0 [1,2],tT 1 [2,5],tT 2 [4],tT 3 [26],tT 4 [4],tT 5 [4]]
def tl138:TG:=[]
def ac138:ACode:=codeF Pg Tryz.f138 tr138 tl138
def rs138:List AResV:=resF Pg Tryz.f138
def p138_0_0:PT St:=pS [sI 1,sP 2] [eBox 2 [xI,xI]]
def u138_0_0 {β:Type}(g:St->β):Int->Int->Int->β:=p138_0_0.unc g
def p138_0_1:PT St:=pS [sP 2,sY 5 dB] [eBox 2 [xI,xI]]
def u138_0_1 {β:Type}(g:St->β):Bool->Int->Int->β:=p138_0_1.unc g
def pr138_0_0:PT (List RV):=pRs [wI]
def ur138_0_0 {β:Type}(g:List RV->β):Int->β:=pr138_0_0.unc g
def E138_0g (a:Tf100_0):EnvK:=EnvK.of [⟨100,nt100,[⟨pa100_0,Fn100_0 a⟩]⟩] noSeq
def E138_0:EnvK:=E138_0g f100_0
theorem eo138_0:E138_0.Ok Pg:=EnvK.of_ok noSeq_ok ⟨⟨io100_0,TT⟩,TT⟩
def c138_0_5g:MCode:=MCode.sub [1,0,0,0] (emb ac138)
def c138_0_5:MCode:=c138_0_5g
abbrev TJ138_0_0:Type 1:=(α:Type)->Int->Int->Int->(Bool->Op α)->Op α
def J138_0_0g (c:Tf100_0)(α:Type)(a d b:Int)(k1:Bool->Op α):Op α:=
 c α d a 1099511627776
 (fun e=>cK (!e)
 (k1 true)
 (cK (decide (1099511627776 < b))
 (k1 true)
 (cK (decide (a < 0))
 (k1 (decide (b < a)))
 (k1 false))))
def J138_0_0 (α:Type)(a b c:Int)(k1:Bool->Op α):Op α:=J138_0_0g f100_0 α a b c k1
def F138_0_0 (v:TJ138_0_0)(α:Type)(K:KT α):Int->Int->Int->Op α:=fun c a b=>v α c a b (fun d=>u138_0_1 (K .normal) d a b)
theorem m138_0_0g (a:Tf100_0)(α:Type)(K:KT α):F138_0_0 (J138_0_0g a) α K=p138_0_0.unc fun σ=>runM Pg (E138_0g a) sh138 (c138_0_5g ) K σ:=by kernel_rfl
theorem m138_0_0:∀ (α:Type) (K:KT α),F138_0_0 J138_0_0 α K=p138_0_0.unc fun σ=>runM Pg E138_0 sh138 c138_0_5 K σ:=m138_0_0g f100_0
abbrev Tf138_0:Type 1:=(α:Type)->Int->Int->Int->(Int->Op α)->Op α
def f138_0g (c:TJ138_0_0)(α:Type)(a b d:Int)(k1:Int->Op α):Op α:=
 c α d a b
 (fun e=>cK e
 (k1 2)
 (cK (decide (b < a))
 (k1 10)
 (k1 0)))
def f138_0 (α:Type)(a b c:Int)(k1:Int->Op α):Op α:=f138_0g J138_0_0 α a b c k1
def pa138_0:PT (List DV):=pA [pV true [(dI .i64),(dI .i64)],vI]
def Fn138_0 (v:Tf138_0)(α:Type)(k:RT α):Int->Int->Int->Op α:=fun a b c=>v α a b c (fun d=>ur138_0_0 k d)
def cm138_0g (a:TJ138_0_0):MCode:=(MCode.put (.m [⟨p138_0_0,F138_0_0 a⟩]) [1,0,0] (emb ac138))
def cm138_0:MCode:=cm138_0g J138_0_0
theorem gm138_0:cm138_0.Good Pg E138_0 sh138:=(put_seq (by kernel_rfl) (emb_good ac138) ⟨m138_0_0,TT⟩)
theorem em138_0:cm138_0.erase=ac138:=((put_erase _ _).trans (emb_erase _))
theorem fm138_0g (b:Tf100_0)(a:TJ138_0_0)(α:Type)(k:RT α):Fn138_0 (f138_0g a) α k=pa138_0.unc fun ds=>fnM Pg (E138_0g b) sh138 (cm138_0g a) rs138 k ds:=by kernel_rfl
theorem fm138_0:∀ (α:Type) (k:RT α),Fn138_0 f138_0 α k=pa138_0.unc fun ds=>fnM Pg E138_0 sh138 cm138_0 rs138 k ds:=fm138_0g f100_0 J138_0_0
theorem is138:FnIs Pg 138 nt138 tr138 tl138 ac138 rs138:=codeF_is Tryz.func138 (by kernel_rfl)
theorem io138_0:InstOk Pg 138 nt138 ⟨pa138_0,Fn138_0 f138_0⟩:=inst_ok eo138_0 followsTry is138 ⟨⟨sh138,cm138_0,em138_0,gm138_0,fm138_0⟩⟩
abbrev nt144:Nat:=6
def sh144:SG:=[]
def tr144:TG:=[tT 0 [0],tT 1 [2]]
def tl144:TG:=[]
def ac144:ACode:=codeF Pg Tryz.f144 tr144 tl144
def rs144:List AResV:=resF Pg Tryz.f144
def pr144_0_0:PT (List RV):=pRs [wI]
def ur144_0_0 {β:Type}(g:List RV->β):Int->β:=pr144_0_0.unc g
def E144_0g (a:Tf151_0):EnvK:=EnvK.of [⟨151,nt151,[⟨pa151_0,Fn151_0 a⟩]⟩] noSeq
def E144_0:EnvK:=E144_0g f151_0
theorem eo144_0:E144_0.Ok Pg:=EnvK.of_ok noSeq_ok ⟨⟨io151_0,TT⟩,TT⟩
abbrev Tf144_0:Type 1:=(α:Type)->Int->(Int->Op α)->Op α
def f144_0g (a:Tf151_0)(α:Type)(b:Int)(k1:Int->Op α):Op α:=
 a α b
 (fun c=>k1 (w64 (64 - c)))
def f144_0 (α:Type)(a:Int)(k1:Int->Op α):Op α:=f144_0g f151_0 α a k1
def pa144_0:PT (List DV):=pA [pV false [(dI .u64)]]
def Fn144_0 (v:Tf144_0)(α:Type)(k:RT α):Int->Op α:=fun a=>v α a (fun b=>ur144_0_0 k b)
def cm144_0g:MCode:=(emb ac144)
def cm144_0:MCode:=cm144_0g
theorem gm144_0:cm144_0.Good Pg E144_0 sh144:=(emb_good ac144)
theorem em144_0:cm144_0.erase=ac144:=(emb_erase _)
theorem fm144_0g (a:Tf151_0)(α:Type)(k:RT α):Fn144_0 (f144_0g a) α k=pa144_0.unc fun ds=>fnM Pg (E144_0g a) sh144 (cm144_0g ) rs144 k ds:=by kernel_rfl
theorem fm144_0:∀ (α:Type) (k:RT α),Fn144_0 f144_0 α k=pa144_0.unc fun ds=>fnM Pg E144_0 sh144 cm144_0 rs144 k ds:=fm144_0g f151_0
theorem is144:FnIs Pg 144 nt144 tr144 tl144 ac144 rs144:=codeF_is Tryz.func144 (by kernel_rfl)
theorem io144_0:InstOk Pg 144 nt144 ⟨pa144_0,Fn144_0 f144_0⟩:=inst_ok eo144_0 followsTry is144 ⟨⟨sh144,cm144_0,em144_0,gm144_0,fm144_0⟩⟩
abbrev nt122:Nat:=17
def sh122:SG:=[(7,iS 2),(9,iS 2),(12,iT),(14,iT)]
def tr122:TG:=[tT 0 [2,3,4],tT 1 [4,5]]
def tl122:TG:=[]
def ac122:ACode:=codeF Pg Tryz.f122 tr122 tl122
def rs122:List AResV:=resF Pg Tryz.f122
def pr122_0_0:PT (List RV):=pRs [pR true [rD (dI .i64),rD (dI .i64),rD (dI .i64)],wI]
def ur122_0_0 {β:Type}(g:List RV->β):I4 β:=pr122_0_0.unc g
def E122_0g (a:Tf123_0):EnvK:=EnvK.of [⟨123,nt123,[⟨pa123_0,Fn123_0 a⟩]⟩] noSeq
def E122_0:EnvK:=E122_0g f123_0
theorem eo122_0:E122_0.Ok Pg:=EnvK.of_ok noSeq_ok ⟨⟨io123_0,TT⟩,TT⟩
abbrev Tf122_0:Type 1:=(α:Type)->Int->Int->Int->Int->Int->Int->(Int->Int->Int->Op α)->Op α
def f122_0g (a:Tf123_0)(α:Type)(b c d e g h:Int)(k1:Int->Int->Int->Op α):Op α:=
 a α b c e g
 (fun i j=>k1 i j (w64 (d+h)))
def f122_0 (α:Type)(a b c d e g:Int)(k1:Int->Int->Int->Op α):Op α:=f122_0g f123_0 α a b c d e g k1
def pa122_0:PT (List DV):=pA [pV true [(dI .i64),(dI .i64),(dI .i64)],pV true [(dI .i64),(dI .i64),(dI .i64)]]
def Fn122_0 (v:Tf122_0)(α:Type)(k:RT α):I6 (Op α):=fun a b c d e g=>v α a b c d e g (fun h i j=>ur122_0_0 k h i j 0)
def cm122_0g:MCode:=(emb ac122)
def cm122_0:MCode:=cm122_0g
theorem gm122_0:cm122_0.Good Pg E122_0 sh122:=(emb_good ac122)
theorem em122_0:cm122_0.erase=ac122:=(emb_erase _)
theorem fm122_0g (a:Tf123_0)(α:Type)(k:RT α):Fn122_0 (f122_0g a) α k=pa122_0.unc fun ds=>fnM Pg (E122_0g a) sh122 (cm122_0g ) rs122 k ds:=by kernel_rfl
theorem fm122_0:∀ (α:Type) (k:RT α),Fn122_0 f122_0 α k=pa122_0.unc fun ds=>fnM Pg E122_0 sh122 cm122_0 rs122 k ds:=fm122_0g f123_0
theorem is122:FnIs Pg 122 nt122 tr122 tl122 ac122 rs122:=codeF_is Tryz.func122 (by kernel_rfl)
theorem io122_0:InstOk Pg 122 nt122 ⟨pa122_0,Fn122_0 f122_0⟩:=inst_ok eo122_0 followsTry is122 ⟨⟨sh122,cm122_0,em122_0,gm122_0,fm122_0⟩⟩
abbrev nt64:Nat:=10
def sh64:SG:=[]
def tr64:TG:=[tT 0 [0,1],tT 1 [4]]
def tl64:TG:=[]
def ac64:ACode:=codeF Pg Tryz.f64 tr64 tl64
def rs64:List AResV:=resF Pg Tryz.f64
def pr64_0_0:PT (List RV):=pRs [wI]
def ur64_0_0 {β:Type}(g:List RV->β):Int->β:=pr64_0_0.unc g
def E64_0g (a:Tf63_0):EnvK:=EnvK.of [⟨63,nt63,[⟨pa63_0,Fn63_0 a⟩]⟩] noSeq
def E64_0:EnvK:=E64_0g f63_0
theorem eo64_0:E64_0.Ok Pg:=EnvK.of_ok noSeq_ok ⟨⟨io63_0,TT⟩,TT⟩
abbrev Tf64_0:Type 1:=(α:Type)->Int->Int->(Int->Op α)->Op α
def f64_0g (a:Tf63_0)(α:Type)(b c:Int)(k1:Int->Op α):Op α:=
 a α (w64 (0 - b)) c
 (fun d=>k1 (w64 (0 - d)))
def f64_0 (α:Type)(a b:Int)(k1:Int->Op α):Op α:=f64_0g f63_0 α a b k1
def pa64_0:PT (List DV):=pA [vI,vI]
def Fn64_0 (v:Tf64_0)(α:Type)(k:RT α):Int->Int->Op α:=fun a b=>v α a b (fun c=>ur64_0_0 k c)
def cm64_0g:MCode:=(emb ac64)
def cm64_0:MCode:=cm64_0g
theorem gm64_0:cm64_0.Good Pg E64_0 sh64:=(emb_good ac64)
theorem em64_0:cm64_0.erase=ac64:=(emb_erase _)
theorem fm64_0g (a:Tf63_0)(α:Type)(k:RT α):Fn64_0 (f64_0g a) α k=pa64_0.unc fun ds=>fnM Pg (E64_0g a) sh64 (cm64_0g ) rs64 k ds:=by kernel_rfl
theorem fm64_0:∀ (α:Type) (k:RT α),Fn64_0 f64_0 α k=pa64_0.unc fun ds=>fnM Pg E64_0 sh64 cm64_0 rs64 k ds:=fm64_0g f63_0
theorem is64:FnIs Pg 64 nt64 tr64 tl64 ac64 rs64:=codeF_is Tryz.func64 (by kernel_rfl)
theorem io64_0:InstOk Pg 64 nt64 ⟨pa64_0,Fn64_0 f64_0⟩:=inst_ok eo64_0 followsTry is64 ⟨⟨sh64,cm64_0,em64_0,gm64_0,fm64_0⟩⟩
abbrev nt95:Nat:=25
def sh95:SG:=[]
def tr95:TG:=[tT 0 [0],tT 1 [0,3],tT 2 [0,3,12],tT 3 [0,3],tT 4 [0,3,21],tT 5 [0,3],tT 6 [2]]
def tl95:TG:=[tT 2 [0,3],tT 4 [0,3]]
def ac95:ACode:=codeF Pg Tryz.f95 tr95 tl95
def rs95:List AResV:=resF Pg Tryz.f95
def td95_7:OT:=tdC (MCode.sub [1,1,0,0] (emb ac95))
def td95_16:OT:=tdC (MCode.sub [1,1,1,0,0] (emb ac95))
def p95_0_0:PT St:=pS [sI 0,sI 3] []
def u95_0_0 {β:Type}(g:St->β):Int->Int->β:=p95_0_0.unc g
def p95_0_1:PT St:=pS [sI 0,sI 3,sY 12 dB] []
def u95_0_1 {β:Type}(g:St->β):Int->Int->Bool->β:=p95_0_1.unc g
def p95_0_2:PT St:=pS [sI 0,sI 3,sY 21 dB] []
def u95_0_2 {β:Type}(g:St->β):Int->Int->Bool->β:=p95_0_2.unc g
def pr95_0_0:PT (List RV):=pRs [wI]
def ur95_0_0 {β:Type}(g:List RV->β):Int->β:=pr95_0_0.unc g
def E95_0g (a:Tf47_0):EnvK:=EnvK.of [⟨47,nt47,[⟨pa47_0,Fn47_0 a⟩]⟩] noSeq
def E95_0:EnvK:=E95_0g f47_0
theorem eo95_0:E95_0.Ok Pg:=EnvK.of_ok noSeq_ok ⟨⟨io47_0,TT⟩,TT⟩
def c95_0_16g:MCode:=MCode.sub [1,1,1,0,0,0] (emb ac95)
def c95_0_16:MCode:=c95_0_16g
def S95_0_1g (α:Type)(b a:Int)(kn:Int->Op α)(k1:Int->Bool->Op α):Op α:=
 cK (decide ((w64 ((w64 (a+1))*(w64 (a+1))))<=b))
 (kn (w64 (a+1)))
 (k1 a (decide ((w64 ((w64 (a+1))*(w64 (a+1))))<=b)))
def S95_0_1 (α:Type)(a b:Int)(kn:Int->Op α)(k1:Int->Bool->Op α):Op α:=S95_0_1g α a b kn k1
def R95_0_1 (α:Type)(a:Int)(k1:Int->Bool->Op α):Nat->Int->Op α
 | 0,_=>none
 | n+1,b=>S95_0_1 α a b (R95_0_1 α a k1 n) k1
def L95_0_1 (α:Type)(a:Int)(k1:Int->Bool->Op α)(b:Int):Op α:=R95_0_1 α a k1 fuel b
abbrev TL95_0_1:Type 1:=(α:Type)->Int->(Int->Bool->Op α)->Int->Op α
def F95_0_1 (v:TL95_0_1)(α:Type)(K:KT α):Int->Int->Op α:=fun a b=>v α a (fun c d=>u95_0_2 (K (.exit 2)) a c d) b
theorem r95_0_1g (c:Tf47_0)(α:Type)(K:KT α)(Kn:SK α)(a b:Int):u95_0_0 (fun σ=>runM Pg (E95_0g c) sh95 (c95_0_16g ) (thenK (fun σ=>tidyK td95_16 σ Kn) K) σ) a b=S95_0_1g α a b (fun b=>u95_0_0 Kn a b) (fun d e=>u95_0_2 (K (.exit 2)) a d e):=by kernel_rfl
theorem r95_0_1 (α:Type)(K:KT α)(Kn:SK α)(a b:Int):u95_0_0 (fun σ=>runM Pg E95_0 sh95 c95_0_16 (thenK (fun σ=>tidyK td95_16 σ Kn) K) σ) a b=S95_0_1 α a b (fun b=>u95_0_0 Kn a b) (fun c d=>u95_0_2 (K (.exit 2)) a c d):=r95_0_1g f47_0 α K Kn a b
theorem t95_0_1 (α:Type)(K:KT α):∀ (n:Nat) (a b:Int),R95_0_1 α a (fun c d=>u95_0_2 (K (.exit 2)) a c d) n b=u95_0_0 (loopT (runM Pg E95_0 sh95 c95_0_16) td95_16 K n) a b:=by
 intro n
 induction n with
 | zero=>intros;rfl
 | succ n ih=>intro a b;exact (congrArg (fun kn=>S95_0_1 α a b kn (fun c d=>u95_0_2 (K (.exit 2)) a c d)) (funext fun b=>ih a b)).trans (r95_0_1 α K (loopT (runM Pg E95_0 sh95 c95_0_16) td95_16 K n) a b).symm
theorem m95_0_1:∀ (α:Type) (K:KT α),F95_0_1 L95_0_1 α K=p95_0_0.unc fun σ=>loopT (runM Pg E95_0 sh95 c95_0_16) td95_16 K fuel σ:=fun α K=>funext fun a=>funext fun b=>t95_0_1 α K fuel a b
def c95_0_7g:MCode:=MCode.sub [1,1,0,0,0] (emb ac95)
def c95_0_7:MCode:=c95_0_7g
def S95_0_0g (α:Type)(b a:Int)(kn:Int->Op α)(k1:Int->Bool->Op α):Op α:=
 cK (decide (b < (w64 (a*a))))
 (kn (w64 (a - 1)))
 (k1 a (decide (b < (w64 (a*a)))))
def S95_0_0 (α:Type)(a b:Int)(kn:Int->Op α)(k1:Int->Bool->Op α):Op α:=S95_0_0g α a b kn k1
def R95_0_0 (α:Type)(a:Int)(k1:Int->Bool->Op α):Nat->Int->Op α
 | 0,_=>none
 | n+1,b=>S95_0_0 α a b (R95_0_0 α a k1 n) k1
def L95_0_0 (α:Type)(a:Int)(k1:Int->Bool->Op α)(b:Int):Op α:=R95_0_0 α a k1 fuel b
abbrev TL95_0_0:Type 1:=(α:Type)->Int->(Int->Bool->Op α)->Int->Op α
def F95_0_0 (v:TL95_0_0)(α:Type)(K:KT α):Int->Int->Op α:=fun a b=>v α a (fun c d=>u95_0_1 (K (.exit 0)) a c d) b
theorem r95_0_0g (c:Tf47_0)(α:Type)(K:KT α)(Kn:SK α)(a b:Int):u95_0_0 (fun σ=>runM Pg (E95_0g c) sh95 (c95_0_7g ) (thenK (fun σ=>tidyK td95_7 σ Kn) K) σ) a b=S95_0_0g α a b (fun b=>u95_0_0 Kn a b) (fun d e=>u95_0_1 (K (.exit 0)) a d e):=by kernel_rfl
theorem r95_0_0 (α:Type)(K:KT α)(Kn:SK α)(a b:Int):u95_0_0 (fun σ=>runM Pg E95_0 sh95 c95_0_7 (thenK (fun σ=>tidyK td95_7 σ Kn) K) σ) a b=S95_0_0 α a b (fun b=>u95_0_0 Kn a b) (fun c d=>u95_0_1 (K (.exit 0)) a c d):=r95_0_0g f47_0 α K Kn a b
theorem t95_0_0 (α:Type)(K:KT α):∀ (n:Nat) (a b:Int),R95_0_0 α a (fun c d=>u95_0_1 (K (.exit 0)) a c d) n b=u95_0_0 (loopT (runM Pg E95_0 sh95 c95_0_7) td95_7 K n) a b:=by
 intro n
 induction n with
 | zero=>intros;rfl
 | succ n ih=>intro a b;exact (congrArg (fun kn=>S95_0_0 α a b kn (fun c d=>u95_0_1 (K (.exit 0)) a c d)) (funext fun b=>ih a b)).trans (r95_0_0 α K (loopT (runM Pg E95_0 sh95 c95_0_7) td95_7 K n) a b).symm
theorem m95_0_0:∀ (α:Type) (K:KT α),F95_0_0 L95_0_0 α K=p95_0_0.unc fun σ=>loopT (runM Pg E95_0 sh95 c95_0_7) td95_7 K fuel σ:=fun α K=>funext fun a=>funext fun b=>t95_0_0 α K fuel a b
abbrev Tf95_0:Type 1:=(α:Type)->Int->(Int->Op α)->Op α
def f95_0g (b:TL95_0_0)(c:TL95_0_1)(d:Tf47_0)(α:Type)(a:Int)(k1:Int->Op α):Op α:=
 d α (FloatKind.nearest .f64 a)
 (fun e=>ivK (f2i .f64 e .i64)
 (fun g=>b α a
 (fun h j=>c α a
 (fun i l=>k1 i) h) g))
def f95_0 (α:Type)(a:Int)(k1:Int->Op α):Op α:=f95_0g L95_0_0 L95_0_1 f47_0 α a k1
def pa95_0:PT (List DV):=pA [vI]
def Fn95_0 (v:Tf95_0)(α:Type)(k:RT α):Int->Op α:=fun a=>v α a (fun b=>ur95_0_0 k b)
def cm95_0g (a:TL95_0_0)(b:TL95_0_1):MCode:=(MCode.put (.m [⟨p95_0_0,F95_0_0 a⟩]) [1,1,0,0] (MCode.put (.m [⟨p95_0_0,F95_0_1 b⟩]) [1,1,1,0,0] (emb ac95)))
def cm95_0:MCode:=cm95_0g L95_0_0 L95_0_1
theorem gm95_0:cm95_0.Good Pg E95_0 sh95:=(put_loop (td:=td95_7) (by kernel_rfl) (put_loop (td:=td95_16) (by kernel_rfl) (emb_good ac95) ⟨m95_0_1,TT⟩) ⟨m95_0_0,TT⟩)
theorem em95_0:cm95_0.erase=ac95:=((put_erase _ _).trans ((put_erase _ _).trans (emb_erase _)))
theorem fm95_0g (a:Tf47_0)(b:TL95_0_0)(c:TL95_0_1)(α:Type)(k:RT α):Fn95_0 (f95_0g b c a) α k=pa95_0.unc fun ds=>fnM Pg (E95_0g a) sh95 (cm95_0g b c) rs95 k ds:=by kernel_rfl
theorem fm95_0:∀ (α:Type) (k:RT α),Fn95_0 f95_0 α k=pa95_0.unc fun ds=>fnM Pg E95_0 sh95 cm95_0 rs95 k ds:=fm95_0g f47_0 L95_0_0 L95_0_1
theorem is95:FnIs Pg 95 nt95 tr95 tl95 ac95 rs95:=codeF_is Tryz.func95 (by kernel_rfl)
theorem io95_0:InstOk Pg 95 nt95 ⟨pa95_0,Fn95_0 f95_0⟩:=inst_ok eo95_0 followsTry is95 ⟨⟨sh95,cm95_0,em95_0,gm95_0,fm95_0⟩⟩
abbrev nt112:Nat:=17
def sh112:SG:=[(7,iS 2),(9,iS 2),(12,iT),(14,iT)]
def tr112:TG:=[tT 0 [2,3,4],tT 1 [4,5]]
def tl112:TG:=[]
def ac112:ACode:=codeF Pg Tryz.f112 tr112 tl112
def rs112:List AResV:=resF Pg Tryz.f112
def pr112_0_0:PT (List RV):=pRs [pR true [rD (dI .i64),rD (dI .i64),rD (dI .i64)],wI]
def ur112_0_0 {β:Type}(g:List RV->β):I4 β:=pr112_0_0.unc g
def E112_0g (a:Tf113_0):EnvK:=EnvK.of [⟨113,nt113,[⟨pa113_0,Fn113_0 a⟩]⟩] noSeq
def E112_0:EnvK:=E112_0g f113_0
theorem eo112_0:E112_0.Ok Pg:=EnvK.of_ok noSeq_ok ⟨⟨io113_0,TT⟩,TT⟩
abbrev Tf112_0:Type 1:=(α:Type)->Int->Int->Int->Int->Int->Int->(Int->Int->Int->Op α)->Op α
def f112_0g (a:Tf113_0)(α:Type)(b c d e g h:Int)(k1:Int->Int->Int->Op α):Op α:=
 a α b c e g
 (fun i j=>k1 i j (w64 (d+h)))
def f112_0 (α:Type)(a b c d e g:Int)(k1:Int->Int->Int->Op α):Op α:=f112_0g f113_0 α a b c d e g k1
def pa112_0:PT (List DV):=pA [pV true [(dI .i64),(dI .i64),(dI .i64)],pV true [(dI .i64),(dI .i64),(dI .i64)]]
def Fn112_0 (v:Tf112_0)(α:Type)(k:RT α):I6 (Op α):=fun a b c d e g=>v α a b c d e g (fun h i j=>ur112_0_0 k h i j 0)
def cm112_0g:MCode:=(emb ac112)
def cm112_0:MCode:=cm112_0g
theorem gm112_0:cm112_0.Good Pg E112_0 sh112:=(emb_good ac112)
theorem em112_0:cm112_0.erase=ac112:=(emb_erase _)
theorem fm112_0g (a:Tf113_0)(α:Type)(k:RT α):Fn112_0 (f112_0g a) α k=pa112_0.unc fun ds=>fnM Pg (E112_0g a) sh112 (cm112_0g ) rs112 k ds:=by kernel_rfl
theorem fm112_0:∀ (α:Type) (k:RT α),Fn112_0 f112_0 α k=pa112_0.unc fun ds=>fnM Pg E112_0 sh112 cm112_0 rs112 k ds:=fm112_0g f113_0
theorem is112:FnIs Pg 112 nt112 tr112 tl112 ac112 rs112:=codeF_is Tryz.func112 (by kernel_rfl)
theorem io112_0:InstOk Pg 112 nt112 ⟨pa112_0,Fn112_0 f112_0⟩:=inst_ok eo112_0 followsTry is112 ⟨⟨sh112,cm112_0,em112_0,gm112_0,fm112_0⟩⟩
abbrev nt146:Nat:=15
def sh146:SG:=[]
def tr146:TG:=[tT 0 [0,1],tT 1 [0,1,6],tT 2 [0],tT 3 [0,10],tT 4 [0],tT 5 [4]]
def tl146:TG:=[]
def ac146:ACode:=codeF Pg Tryz.f146 tr146 tl146
def rs146:List AResV:=resF Pg Tryz.f146
def pr146_0_0:PT (List RV):=pRs [pR false [rD dB]]
def ur146_0_0 {β:Type}(g:List RV->β):Bool->β:=pr146_0_0.unc g
def E146_0g (a:Tf131_0):EnvK:=EnvK.of [⟨131,nt131,[⟨pa131_0,Fn131_0 a⟩]⟩] noSeq
def E146_0:EnvK:=E146_0g f131_0
theorem eo146_0:E146_0.Ok Pg:=EnvK.of_ok noSeq_ok ⟨⟨io131_0,TT⟩,TT⟩
abbrev Tf146_0:Type 1:=(α:Type)->Nat->Int->(Bool->Op α)->Op α
def f146_0g (c:Tf131_0)(α:Type)(a:Nat)(b:Int)(k1:Bool->Op α):Op α:=
 cK (b == 0)
 (c α a
 (fun d=>k1 ((FloatKind.format .f64).order d 9218868437227405311 == some Ordering.gt)))
 (cK (decide (b < 0))
 (k1 ((FloatKind.format .f64).order (Op.negFloat .f64 a) 9218868437227405311 == some Ordering.gt))
 (k1 ((FloatKind.format .f64).order a 9218868437227405311 == some Ordering.gt)))
def f146_0 (α:Type)(a:Nat)(b:Int)(k1:Bool->Op α):Op α:=f146_0g f131_0 α a b k1
def pa146_0:PT (List DV):=pA [pV false [(dF .f64)],vI]
def Fn146_0 (v:Tf146_0)(α:Type)(k:RT α):Nat->Int->Op α:=fun a b=>v α a b (fun c=>ur146_0_0 k c)
def cm146_0g:MCode:=(emb ac146)
def cm146_0:MCode:=cm146_0g
theorem gm146_0:cm146_0.Good Pg E146_0 sh146:=(emb_good ac146)
theorem em146_0:cm146_0.erase=ac146:=(emb_erase _)
theorem fm146_0g (a:Tf131_0)(α:Type)(k:RT α):Fn146_0 (f146_0g a) α k=pa146_0.unc fun ds=>fnM Pg (E146_0g a) sh146 (cm146_0g ) rs146 k ds:=by kernel_rfl
theorem fm146_0:∀ (α:Type) (k:RT α),Fn146_0 f146_0 α k=pa146_0.unc fun ds=>fnM Pg E146_0 sh146 cm146_0 rs146 k ds:=fm146_0g f131_0
theorem is146:FnIs Pg 146 nt146 tr146 tl146 ac146 rs146:=codeF_is Tryz.func146 (by kernel_rfl)
theorem io146_0:InstOk Pg 146 nt146 ⟨pa146_0,Fn146_0 f146_0⟩:=inst_ok eo146_0 followsTry is146 ⟨⟨sh146,cm146_0,em146_0,gm146_0,fm146_0⟩⟩
abbrev nt116:Nat:=17
def sh116:SG:=[]
def tr116:TG:=[tT 0 [0,1],tT 1 [4,5]]
def tl116:TG:=[]
def ac116:ACode:=codeF Pg Tryz.f116 tr116 tl116
def rs116:List AResV:=resF Pg Tryz.f116
def pr116_0_0:PT (List RV):=pRs [wI,pR false [rD dB]]
def ur116_0_0 {β:Type}(g:List RV->β):Int->Bool->β:=pr116_0_0.unc g
def E116_0g (a:Tf63_0):EnvK:=EnvK.of [⟨63,nt63,[⟨pa63_0,Fn63_0 a⟩]⟩] noSeq
def E116_0:EnvK:=E116_0g f63_0
theorem eo116_0:E116_0.Ok Pg:=EnvK.of_ok noSeq_ok ⟨⟨io63_0,TT⟩,TT⟩
abbrev Tf116_0:Type 1:=(α:Type)->Int->Int->(Int->Bool->Op α)->Op α
def f116_0g (c:Tf63_0)(α:Type)(b a:Int)(k1:Int->Bool->Op α):Op α:=
 c α (w64 ((w64 (2*b))+a)) (w64 (2*a))
 (fun d=>gK (a != 0) (k1 d ((Int.tmod b a) != 0)))
def f116_0 (α:Type)(a b:Int)(k1:Int->Bool->Op α):Op α:=f116_0g f63_0 α a b k1
def pa116_0:PT (List DV):=pA [vI,vI]
def Fn116_0 (v:Tf116_0)(α:Type)(k:RT α):Int->Int->Op α:=fun a b=>v α a b (fun c d=>ur116_0_0 k c d)
def cm116_0g:MCode:=(emb ac116)
def cm116_0:MCode:=cm116_0g
theorem gm116_0:cm116_0.Good Pg E116_0 sh116:=(emb_good ac116)
theorem em116_0:cm116_0.erase=ac116:=(emb_erase _)
theorem fm116_0g (a:Tf63_0)(α:Type)(k:RT α):Fn116_0 (f116_0g a) α k=pa116_0.unc fun ds=>fnM Pg (E116_0g a) sh116 (cm116_0g ) rs116 k ds:=by kernel_rfl
theorem fm116_0:∀ (α:Type) (k:RT α),Fn116_0 f116_0 α k=pa116_0.unc fun ds=>fnM Pg E116_0 sh116 cm116_0 rs116 k ds:=fm116_0g f63_0
theorem is116:FnIs Pg 116 nt116 tr116 tl116 ac116 rs116:=codeF_is Tryz.func116 (by kernel_rfl)
theorem io116_0:InstOk Pg 116 nt116 ⟨pa116_0,Fn116_0 f116_0⟩:=inst_ok eo116_0 followsTry is116 ⟨⟨sh116,cm116_0,em116_0,gm116_0,fm116_0⟩⟩
abbrev nt94:Nat:=10
def sh94:SG:=[]
def tr94:TG:=[tT 0 [0,1],tT 1 [4]]
def tl94:TG:=[]
def ac94:ACode:=codeF Pg Tryz.f94 tr94 tl94
def rs94:List AResV:=resF Pg Tryz.f94
def pr94_0_0:PT (List RV):=pRs [pR false [rD dB]]
def ur94_0_0 {β:Type}(g:List RV->β):Bool->β:=pr94_0_0.unc g
def E94_0g (a:Tf100_0):EnvK:=EnvK.of [⟨100,nt100,[⟨pa100_0,Fn100_0 a⟩]⟩] noSeq
def E94_0:EnvK:=E94_0g f100_0
theorem eo94_0:E94_0.Ok Pg:=EnvK.of_ok noSeq_ok ⟨⟨io100_0,TT⟩,TT⟩
abbrev Tf94_0:Type 1:=(α:Type)->Int->Int->(Bool->Op α)->Op α
def f94_0g (b:Tf100_0)(α:Type)(c a:Int)(k1:Bool->Op α):Op α:=
 b α c (w64 (0 - a)) a
 (fun d=>k1 d)
def f94_0 (α:Type)(a b:Int)(k1:Bool->Op α):Op α:=f94_0g f100_0 α a b k1
def pa94_0:PT (List DV):=pA [vI,vI]
def Fn94_0 (v:Tf94_0)(α:Type)(k:RT α):Int->Int->Op α:=fun a b=>v α a b (fun c=>ur94_0_0 k c)
def cm94_0g:MCode:=(emb ac94)
def cm94_0:MCode:=cm94_0g
theorem gm94_0:cm94_0.Good Pg E94_0 sh94:=(emb_good ac94)
theorem em94_0:cm94_0.erase=ac94:=(emb_erase _)
theorem fm94_0g (a:Tf100_0)(α:Type)(k:RT α):Fn94_0 (f94_0g a) α k=pa94_0.unc fun ds=>fnM Pg (E94_0g a) sh94 (cm94_0g ) rs94 k ds:=by kernel_rfl
theorem fm94_0:∀ (α:Type) (k:RT α),Fn94_0 f94_0 α k=pa94_0.unc fun ds=>fnM Pg E94_0 sh94 cm94_0 rs94 k ds:=fm94_0g f100_0
theorem is94:FnIs Pg 94 nt94 tr94 tl94 ac94 rs94:=codeF_is Tryz.func94 (by kernel_rfl)
theorem io94_0:InstOk Pg 94 nt94 ⟨pa94_0,Fn94_0 f94_0⟩:=inst_ok eo94_0 followsTry is94 ⟨⟨sh94,cm94_0,em94_0,gm94_0,fm94_0⟩⟩
end
end Go.AM.K
