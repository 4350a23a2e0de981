/- Printed by KGen. -/
import Derived.Test.YtaondhhdefbfkaaGreatRa
namespace Go.AM.K
open Go.Proofs
set_option maxRecDepth 100000
set_option linter.unusedVariables false
noncomputable section
abbrev nt76:Nat:=5
def sh76:SG:=[]
def tr76:TG:=[tT 0 [0],tT 1 [2]]
def tl76:TG:=[]
def ac76:ACode:=codeF Pg Tryz.f76 tr76 tl76
def rs76:List AResV:=resF Pg Tryz.f76
def pr76_0_0:PT (List RV):=pRs [pR false [rD dB]]
def ur76_0_0 {β:Type}(g:List RV->β):Bool->β:=pr76_0_0.unc g
def E76_0g (a:Tf73_0):EnvK:=EnvK.of [⟨73,nt73,[⟨pa73_0,Fn73_0 a⟩]⟩] noSeq
def E76_0:EnvK:=E76_0g f73_0
theorem eo76_0:E76_0.Ok Pg:=EnvK.of_ok noSeq_ok ⟨⟨io73_0,TT⟩,TT⟩
abbrev Tf76_0:Type 1:=(α:Type)->Int->(Bool->Op α)->Op α
def f76_0g (a:Tf73_0)(α:Type)(b:Int)(k1:Bool->Op α):Op α:=
 a α b 0 80000
 (fun c=>k1 c)
def f76_0 (α:Type)(a:Int)(k1:Bool->Op α):Op α:=f76_0g f73_0 α a k1
def pa76_0:PT (List DV):=pA [vI]
def Fn76_0 (v:Tf76_0)(α:Type)(k:RT α):Int->Op α:=fun a=>v α a (fun b=>ur76_0_0 k b)
def cm76_0g:MCode:=(emb ac76)
def cm76_0:MCode:=cm76_0g
theorem gm76_0:cm76_0.Good Pg E76_0 sh76:=(emb_good ac76)
theorem em76_0:cm76_0.erase=ac76:=(emb_erase _)
theorem fm76_0g (a:Tf73_0)(α:Type)(k:RT α):Fn76_0 (f76_0g a) α k=pa76_0.unc fun ds=>fnM Pg (E76_0g a) sh76 (cm76_0g ) rs76 k ds:=by kernel_rfl
theorem fm76_0:∀ (α:Type) (k:RT α),Fn76_0 f76_0 α k=pa76_0.unc fun ds=>fnM Pg E76_0 sh76 cm76_0 rs76 k ds:=fm76_0g f73_0
theorem is76:FnIs Pg 76 nt76 tr76 tl76 ac76 rs76:=codeF_is Tryz.func76 (by kernel_rfl)
theorem io76_0:InstOk Pg 76 nt76 ⟨pa76_0,Fn76_0 f76_0⟩:=inst_ok eo76_0 followsTry is76 ⟨⟨sh76,cm76_0,em76_0,gm76_0,fm76_0⟩⟩
abbrev nt75:Nat:=5
def sh75:SG:=[]
def tr75:TG:=[tT 0 [0],tT 1 [2]]
def tl75:TG:=[]
def ac75:ACode:=codeF Pg Tryz.f75 tr75 tl75
def rs75:List AResV:=resF Pg Tryz.f75
def pr75_0_0:PT (List RV):=pRs [pR false [rD dB]]
def ur75_0_0 {β:Type}(g:List RV->β):Bool->β:=pr75_0_0.unc g
def E75_0g (a:Tf73_0):EnvK:=EnvK.of [⟨73,nt73,[⟨pa73_0,Fn73_0 a⟩]⟩] noSeq
def E75_0:EnvK:=E75_0g f73_0
theorem eo75_0:E75_0.Ok Pg:=EnvK.of_ok noSeq_ok ⟨⟨io73_0,TT⟩,TT⟩
abbrev Tf75_0:Type 1:=(α:Type)->Int->(Bool->Op α)->Op α
def f75_0g (a:Tf73_0)(α:Type)(b:Int)(k1:Bool->Op α):Op α:=
 a α b 0 1000000
 (fun c=>k1 c)
def f75_0 (α:Type)(a:Int)(k1:Bool->Op α):Op α:=f75_0g f73_0 α a k1
def pa75_0:PT (List DV):=pA [vI]
def Fn75_0 (v:Tf75_0)(α:Type)(k:RT α):Int->Op α:=fun a=>v α a (fun b=>ur75_0_0 k b)
def cm75_0g:MCode:=(emb ac75)
def cm75_0:MCode:=cm75_0g
theorem gm75_0:cm75_0.Good Pg E75_0 sh75:=(emb_good ac75)
theorem em75_0:cm75_0.erase=ac75:=(emb_erase _)
theorem fm75_0g (a:Tf73_0)(α:Type)(k:RT α):Fn75_0 (f75_0g a) α k=pa75_0.unc fun ds=>fnM Pg (E75_0g a) sh75 (cm75_0g ) rs75 k ds:=by kernel_rfl
theorem fm75_0:∀ (α:Type) (k:RT α),Fn75_0 f75_0 α k=pa75_0.unc fun ds=>fnM Pg E75_0 sh75 cm75_0 rs75 k ds:=fm75_0g f73_0
theorem is75:FnIs Pg 75 nt75 tr75 tl75 ac75 rs75:=codeF_is Tryz.func75 (by kernel_rfl)
theorem io75_0:InstOk Pg 75 nt75 ⟨pa75_0,Fn75_0 f75_0⟩:=inst_ok eo75_0 followsTry is75 ⟨⟨sh75,cm75_0,em75_0,gm75_0,fm75_0⟩⟩
abbrev nt74:Nat:=5
def sh74:SG:=[]
def tr74:TG:=[tT 0 [0],tT 1 [2]]
def tl74:TG:=[]
def ac74:ACode:=codeF Pg Tryz.f74 tr74 tl74
def rs74:List AResV:=resF Pg Tryz.f74
def pr74_0_0:PT (List RV):=pRs [pR false [rD dB]]
def ur74_0_0 {β:Type}(g:List RV->β):Bool->β:=pr74_0_0.unc g
def E74_0g (a:Tf73_0):EnvK:=EnvK.of [⟨73,nt73,[⟨pa73_0,Fn73_0 a⟩]⟩] noSeq
def E74_0:EnvK:=E74_0g f73_0
theorem eo74_0:E74_0.Ok Pg:=EnvK.of_ok noSeq_ok ⟨⟨io73_0,TT⟩,TT⟩
abbrev Tf74_0:Type 1:=(α:Type)->Int->(Bool->Op α)->Op α
def f74_0g (a:Tf73_0)(α:Type)(b:Int)(k1:Bool->Op α):Op α:=
 a α b 1000 200000
 (fun c=>k1 c)
def f74_0 (α:Type)(a:Int)(k1:Bool->Op α):Op α:=f74_0g f73_0 α a k1
def pa74_0:PT (List DV):=pA [vI]
def Fn74_0 (v:Tf74_0)(α:Type)(k:RT α):Int->Op α:=fun a=>v α a (fun b=>ur74_0_0 k b)
def cm74_0g:MCode:=(emb ac74)
def cm74_0:MCode:=cm74_0g
theorem gm74_0:cm74_0.Good Pg E74_0 sh74:=(emb_good ac74)
theorem em74_0:cm74_0.erase=ac74:=(emb_erase _)
theorem fm74_0g (a:Tf73_0)(α:Type)(k:RT α):Fn74_0 (f74_0g a) α k=pa74_0.unc fun ds=>fnM Pg (E74_0g a) sh74 (cm74_0g ) rs74 k ds:=by kernel_rfl
theorem fm74_0:∀ (α:Type) (k:RT α),Fn74_0 f74_0 α k=pa74_0.unc fun ds=>fnM Pg E74_0 sh74 cm74_0 rs74 k ds:=fm74_0g f73_0
theorem is74:FnIs Pg 74 nt74 tr74 tl74 ac74 rs74:=codeF_is Tryz.func74 (by kernel_rfl)
theorem io74_0:InstOk Pg 74 nt74 ⟨pa74_0,Fn74_0 f74_0⟩:=inst_ok eo74_0 followsTry is74 ⟨⟨sh74,cm74_0,em74_0,gm74_0,fm74_0⟩⟩
abbrev nt72:Nat:=5
def sh72:SG:=[]
def tr72:TG:=[tT 0 [0],tT 1 [2]]
def tl72:TG:=[]
def ac72:ACode:=codeF Pg Tryz.f72 tr72 tl72
def rs72:List AResV:=resF Pg Tryz.f72
def pr72_0_0:PT (List RV):=pRs [pR false [rD dB]]
def ur72_0_0 {β:Type}(g:List RV->β):Bool->β:=pr72_0_0.unc g
def E72_0g (a:Tf73_0):EnvK:=EnvK.of [⟨73,nt73,[⟨pa73_0,Fn73_0 a⟩]⟩] noSeq
def E72_0:EnvK:=E72_0g f73_0
theorem eo72_0:E72_0.Ok Pg:=EnvK.of_ok noSeq_ok ⟨⟨io73_0,TT⟩,TT⟩
abbrev Tf72_0:Type 1:=(α:Type)->Int->(Bool->Op α)->Op α
def f72_0g (a:Tf73_0)(α:Type)(b:Int)(k1:Bool->Op α):Op α:=
 a α b 0 9999
 (fun c=>k1 c)
def f72_0 (α:Type)(a:Int)(k1:Bool->Op α):Op α:=f72_0g f73_0 α a k1
def pa72_0:PT (List DV):=pA [vI]
def Fn72_0 (v:Tf72_0)(α:Type)(k:RT α):Int->Op α:=fun a=>v α a (fun b=>ur72_0_0 k b)
def cm72_0g:MCode:=(emb ac72)
def cm72_0:MCode:=cm72_0g
theorem gm72_0:cm72_0.Good Pg E72_0 sh72:=(emb_good ac72)
theorem em72_0:cm72_0.erase=ac72:=(emb_erase _)
theorem fm72_0g (a:Tf73_0)(α:Type)(k:RT α):Fn72_0 (f72_0g a) α k=pa72_0.unc fun ds=>fnM Pg (E72_0g a) sh72 (cm72_0g ) rs72 k ds:=by kernel_rfl
theorem fm72_0:∀ (α:Type) (k:RT α),Fn72_0 f72_0 α k=pa72_0.unc fun ds=>fnM Pg E72_0 sh72 cm72_0 rs72 k ds:=fm72_0g f73_0
theorem is72:FnIs Pg 72 nt72 tr72 tl72 ac72 rs72:=codeF_is Tryz.func72 (by kernel_rfl)
theorem io72_0:InstOk Pg 72 nt72 ⟨pa72_0,Fn72_0 f72_0⟩:=inst_ok eo72_0 followsTry is72 ⟨⟨sh72,cm72_0,em72_0,gm72_0,fm72_0⟩⟩
abbrev nt70:Nat:=5
def sh70:SG:=[]
def tr70:TG:=[tT 0 [0],tT 1 [2]]
def tl70:TG:=[]
def ac70:ACode:=codeF Pg Tryz.f70 tr70 tl70
def rs70:List AResV:=resF Pg Tryz.f70
def pr70_0_0:PT (List RV):=pRs [pR false [rD dB]]
def ur70_0_0 {β:Type}(g:List RV->β):Bool->β:=pr70_0_0.unc g
def E70_0g (a:Tf73_0):EnvK:=EnvK.of [⟨73,nt73,[⟨pa73_0,Fn73_0 a⟩]⟩] noSeq
def E70_0:EnvK:=E70_0g f73_0
theorem eo70_0:E70_0.Ok Pg:=EnvK.of_ok noSeq_ok ⟨⟨io73_0,TT⟩,TT⟩
abbrev Tf70_0:Type 1:=(α:Type)->Int->(Bool->Op α)->Op α
def f70_0g (a:Tf73_0)(α:Type)(b:Int)(k1:Bool->Op α):Op α:=
 a α b 5000 80000
 (fun c=>k1 c)
def f70_0 (α:Type)(a:Int)(k1:Bool->Op α):Op α:=f70_0g f73_0 α a k1
def pa70_0:PT (List DV):=pA [vI]
def Fn70_0 (v:Tf70_0)(α:Type)(k:RT α):Int->Op α:=fun a=>v α a (fun b=>ur70_0_0 k b)
def cm70_0g:MCode:=(emb ac70)
def cm70_0:MCode:=cm70_0g
theorem gm70_0:cm70_0.Good Pg E70_0 sh70:=(emb_good ac70)
theorem em70_0:cm70_0.erase=ac70:=(emb_erase _)
theorem fm70_0g (a:Tf73_0)(α:Type)(k:RT α):Fn70_0 (f70_0g a) α k=pa70_0.unc fun ds=>fnM Pg (E70_0g a) sh70 (cm70_0g ) rs70 k ds:=by kernel_rfl
theorem fm70_0:∀ (α:Type) (k:RT α),Fn70_0 f70_0 α k=pa70_0.unc fun ds=>fnM Pg E70_0 sh70 cm70_0 rs70 k ds:=fm70_0g f73_0
theorem is70:FnIs Pg 70 nt70 tr70 tl70 ac70 rs70:=codeF_is Tryz.func70 (by kernel_rfl)
theorem io70_0:InstOk Pg 70 nt70 ⟨pa70_0,Fn70_0 f70_0⟩:=inst_ok eo70_0 followsTry is70 ⟨⟨sh70,cm70_0,em70_0,gm70_0,fm70_0⟩⟩
abbrev nt26:Nat:=31
def sh26:SG:=[]
def tr26:TG:=[tT 0 [0],tT 1 [0,4],tT 2 [0,4,13],tT 3 [0,4],tT 4 [0,4,22],tT 5 [0,4],tT 6 [2,3]]
def tl26:TG:=[tT 2 [0,4],tT 4 [0,4]]
def ac26:ACode:=codeF Pg Tryz.f26 tr26 tl26
def rs26:List AResV:=resF Pg Tryz.f26
def td26_7:OT:=tdC (MCode.sub [1,1,0,0] (emb ac26))
def td26_16:OT:=tdC (MCode.sub [1,1,1,0,0] (emb ac26))
def p26_0_0:PT St:=pS [sI 0,sI 4] []
def u26_0_0 {β:Type}(g:St->β):Int->Int->β:=p26_0_0.unc g
def p26_0_1:PT St:=pS [sI 0,sI 4,sY 13 dB] []
def u26_0_1 {β:Type}(g:St->β):Int->Int->Bool->β:=p26_0_1.unc g
def p26_0_2:PT St:=pS [sI 0,sI 4,sY 22 dB] []
def u26_0_2 {β:Type}(g:St->β):Int->Int->Bool->β:=p26_0_2.unc g
def pr26_0_0:PT (List RV):=pRs [wI,pR false [rD dB]]
def ur26_0_0 {β:Type}(g:List RV->β):Int->Bool->β:=pr26_0_0.unc g
def E26_0g (a:Tf47_0):EnvK:=EnvK.of [⟨47,nt47,[⟨pa47_0,Fn47_0 a⟩]⟩] noSeq
def E26_0:EnvK:=E26_0g f47_0
theorem eo26_0:E26_0.Ok Pg:=EnvK.of_ok noSeq_ok ⟨⟨io47_0,TT⟩,TT⟩
def c26_0_16g:MCode:=MCode.sub [1,1,1,0,0,0] (emb ac26)
def c26_0_16:MCode:=c26_0_16g
def S26_0_1g (α:Type)(b a:Int)(kn:Int->Op α)(k1:Int->Bool->Op α):Op α:=
 cK (decide ((w64 ((w64 (a+1))*(w64 (a+1))))<=b))
 (kn (w64 (a+1)))
 (k1 a (decide ((w64 ((w64 (a+1))*(w64 (a+1))))<=b)))
def S26_0_1 (α:Type)(a b:Int)(kn:Int->Op α)(k1:Int->Bool->Op α):Op α:=S26_0_1g α a b kn k1
def R26_0_1 (α:Type)(a:Int)(k1:Int->Bool->Op α):Nat->Int->Op α
 | 0,_=>none
 | n+1,b=>S26_0_1 α a b (R26_0_1 α a k1 n) k1
def L26_0_1 (α:Type)(a:Int)(k1:Int->Bool->Op α)(b:Int):Op α:=R26_0_1 α a k1 fuel b
abbrev TL26_0_1:Type 1:=(α:Type)->Int->(Int->Bool->Op α)->Int->Op α
def F26_0_1 (v:TL26_0_1)(α:Type)(K:KT α):Int->Int->Op α:=fun a b=>v α a (fun c d=>u26_0_2 (K (.exit 2)) a c d) b
theorem r26_0_1g (c:Tf47_0)(α:Type)(K:KT α)(Kn:SK α)(a b:Int):u26_0_0 (fun σ=>runM Pg (E26_0g c) sh26 (c26_0_16g ) (thenK (fun σ=>tidyK td26_16 σ Kn) K) σ) a b=S26_0_1g α a b (fun b=>u26_0_0 Kn a b) (fun d e=>u26_0_2 (K (.exit 2)) a d e):=by kernel_rfl
theorem r26_0_1 (α:Type)(K:KT α)(Kn:SK α)(a b:Int):u26_0_0 (fun σ=>runM Pg E26_0 sh26 c26_0_16 (thenK (fun σ=>tidyK td26_16 σ Kn) K) σ) a b=S26_0_1 α a b (fun b=>u26_0_0 Kn a b) (fun c d=>u26_0_2 (K (.exit 2)) a c d):=r26_0_1g f47_0 α K Kn a b
theorem t26_0_1 (α:Type)(K:KT α):∀ (n:Nat) (a b:Int),R26_0_1 α a (fun c d=>u26_0_2 (K (.exit 2)) a c d) n b=u26_0_0 (loopT (runM Pg E26_0 sh26 c26_0_16) td26_16 K n) a b:=by
 intro n
 induction n with
 | zero=>intros;rfl
 | succ n ih=>intro a b;exact (congrArg (fun kn=>S26_0_1 α a b kn (fun c d=>u26_0_2 (K (.exit 2)) a c d)) (funext fun b=>ih a b)).trans (r26_0_1 α K (loopT (runM Pg E26_0 sh26 c26_0_16) td26_16 K n) a b).symm
theorem m26_0_1:∀ (α:Type) (K:KT α),F26_0_1 L26_0_1 α K=p26_0_0.unc fun σ=>loopT (runM Pg E26_0 sh26 c26_0_16) td26_16 K fuel σ:=fun α K=>funext fun a=>funext fun b=>t26_0_1 α K fuel a b
def c26_0_7g:MCode:=MCode.sub [1,1,0,0,0] (emb ac26)
def c26_0_7:MCode:=c26_0_7g
def S26_0_0g (α:Type)(b a:Int)(kn:Int->Op α)(k1:Int->Bool->Op α):Op α:=
 cK (decide (b < (w64 (a*a))))
 (kn (w64 (a - 1)))
 (k1 a (decide (b < (w64 (a*a)))))
def S26_0_0 (α:Type)(a b:Int)(kn:Int->Op α)(k1:Int->Bool->Op α):Op α:=S26_0_0g α a b kn k1
def R26_0_0 (α:Type)(a:Int)(k1:Int->Bool->Op α):Nat->Int->Op α
 | 0,_=>none
 | n+1,b=>S26_0_0 α a b (R26_0_0 α a k1 n) k1
def L26_0_0 (α:Type)(a:Int)(k1:Int->Bool->Op α)(b:Int):Op α:=R26_0_0 α a k1 fuel b
abbrev TL26_0_0:Type 1:=(α:Type)->Int->(Int->Bool->Op α)->Int->Op α
def F26_0_0 (v:TL26_0_0)(α:Type)(K:KT α):Int->Int->Op α:=fun a b=>v α a (fun c d=>u26_0_1 (K (.exit 0)) a c d) b
theorem r26_0_0g (c:Tf47_0)(α:Type)(K:KT α)(Kn:SK α)(a b:Int):u26_0_0 (fun σ=>runM Pg (E26_0g c) sh26 (c26_0_7g ) (thenK (fun σ=>tidyK td26_7 σ Kn) K) σ) a b=S26_0_0g α a b (fun b=>u26_0_0 Kn a b) (fun d e=>u26_0_1 (K (.exit 0)) a d e):=by kernel_rfl
theorem r26_0_0 (α:Type)(K:KT α)(Kn:SK α)(a b:Int):u26_0_0 (fun σ=>runM Pg E26_0 sh26 c26_0_7 (thenK (fun σ=>tidyK td26_7 σ Kn) K) σ) a b=S26_0_0 α a b (fun b=>u26_0_0 Kn a b) (fun c d=>u26_0_1 (K (.exit 0)) a c d):=r26_0_0g f47_0 α K Kn a b
theorem t26_0_0 (α:Type)(K:KT α):∀ (n:Nat) (a b:Int),R26_0_0 α a (fun c d=>u26_0_1 (K (.exit 0)) a c d) n b=u26_0_0 (loopT (runM Pg E26_0 sh26 c26_0_7) td26_7 K n) a b:=by
 intro n
 induction n with
 | zero=>intros;rfl
 | succ n ih=>intro a b;exact (congrArg (fun kn=>S26_0_0 α a b kn (fun c d=>u26_0_1 (K (.exit 0)) a c d)) (funext fun b=>ih a b)).trans (r26_0_0 α K (loopT (runM Pg E26_0 sh26 c26_0_7) td26_7 K n) a b).symm
theorem m26_0_0:∀ (α:Type) (K:KT α),F26_0_0 L26_0_0 α K=p26_0_0.unc fun σ=>loopT (runM Pg E26_0 sh26 c26_0_7) td26_7 K fuel σ:=fun α K=>funext fun a=>funext fun b=>t26_0_0 α K fuel a b
abbrev Tf26_0:Type 1:=(α:Type)->Int->(Int->Bool->Op α)->Op α
def f26_0g (c:TL26_0_0)(d:TL26_0_1)(e:Tf47_0)(α:Type)(a:Int)(k1:Int->Bool->Op α):Op α:=
 e α (FloatKind.nearest .f64 a)
 (fun g=>ivK (f2i .f64 g .i64)
 (fun h=>c α a
 (fun i j=>d α a
 (fun b l=>k1 b ((w64 (b*b)) == a)) i) h))
def f26_0 (α:Type)(a:Int)(k1:Int->Bool->Op α):Op α:=f26_0g L26_0_0 L26_0_1 f47_0 α a k1
def pa26_0:PT (List DV):=pA [vI]
def Fn26_0 (v:Tf26_0)(α:Type)(k:RT α):Int->Op α:=fun a=>v α a (fun b c=>ur26_0_0 k b c)
def cm26_0g (a:TL26_0_0)(b:TL26_0_1):MCode:=(MCode.put (.m [⟨p26_0_0,F26_0_0 a⟩]) [1,1,0,0] (MCode.put (.m [⟨p26_0_0,F26_0_1 b⟩]) [1,1,1,0,0] (emb ac26)))
def cm26_0:MCode:=cm26_0g L26_0_0 L26_0_1
theorem gm26_0:cm26_0.Good Pg E26_0 sh26:=(put_loop (td:=td26_7) (by kernel_rfl) (put_loop (td:=td26_16) (by kernel_rfl) (emb_good ac26) ⟨m26_0_1,TT⟩) ⟨m26_0_0,TT⟩)
theorem em26_0:cm26_0.erase=ac26:=((put_erase _ _).trans ((put_erase _ _).trans (emb_erase _)))
theorem fm26_0g (a:Tf47_0)(b:TL26_0_0)(c:TL26_0_1)(α:Type)(k:RT α):Fn26_0 (f26_0g b c a) α k=pa26_0.unc fun ds=>fnM Pg (E26_0g a) sh26 (cm26_0g b c) rs26 k ds:=by kernel_rfl
theorem fm26_0:∀ (α:Type) (k:RT α),Fn26_0 f26_0 α k=pa26_0.unc fun ds=>fnM Pg E26_0 sh26 cm26_0 rs26 k ds:=fm26_0g f47_0 L26_0_0 L26_0_1
theorem is26:FnIs Pg 26 nt26 tr26 tl26 ac26 rs26:=codeF_is Tryz.func26 (by kernel_rfl)
theorem io26_0:InstOk Pg 26 nt26 ⟨pa26_0,Fn26_0 f26_0⟩:=inst_ok eo26_0 followsTry is26 ⟨⟨sh26,cm26_0,em26_0,gm26_0,fm26_0⟩⟩
abbrev nt25:Nat:=22
def sh25:SG:=[]
def tr25:TG:=[tT 0 [0,1,4],tT 1 [0,1,4,5],tT 2 [0,1,4,5,12],tT 3 [0,1,4,5],tT 4 [4]]
def tl25:TG:=[]
def ac25:ACode:=codeF Pg Tryz.f25 tr25 tl25
def rs25:List AResV:=resF Pg Tryz.f25
def p25_0_0:PT St:=pS [sI 0,sI 1,sP 4,sI 5] [eBox 4 [xI,xI]]
def u25_0_0 {β:Type}(g:St->β):I5 β:=p25_0_0.unc g
def p25_0_1:PT St:=pS [sI 0,sI 1,sP 4,sI 5,sY 12 dB] [eBox 4 [xI,xI]]
def u25_0_1 {β:Type}(g:St->β):Int->Int->Int->Bool->Int->Int->β:=p25_0_1.unc g
def pr25_0_0:PT (List RV):=pRs [pR true [rD (dI .i64),rD (dI .i64)]]
def ur25_0_0 {β:Type}(g:List RV->β):Int->Int->β:=pr25_0_0.unc g
def E25_0g (a:Tf46_0):EnvK:=EnvK.of [⟨46,nt46,[⟨pa46_0,Fn46_0 a⟩]⟩] noSeq
def E25_0:EnvK:=E25_0g f46_0
theorem eo25_0:E25_0.Ok Pg:=EnvK.of_ok noSeq_ok ⟨⟨io46_0,TT⟩,TT⟩
def c25_0_5g:MCode:=MCode.sub [1,1,0] (emb ac25)
def c25_0_5:MCode:=c25_0_5g
abbrev TJ25_0_0:Type 1:=(α:Type)->Int->Int->(Int->Op α)->(Bool->Op α)->Op α
def J25_0_0g (α:Type)(b a:Int)(k1:Int->Op α)(k2:Bool->Op α):Op α:=
 gK (a != 0) (cK (decide ((w64 (Int.tdiv b a)) < 0))
 (k1 (w64 (0 - a)))
 (k2 (decide ((w64 (Int.tdiv b a)) < 0))))
def J25_0_0 (α:Type)(a b:Int)(k1:Int->Op α)(k2:Bool->Op α):Op α:=J25_0_0g α a b k1 k2
def F25_0_0 (v:TJ25_0_0)(α:Type)(K:KT α):I5 (Op α):=fun c a d e g=>v α a d (fun b=>u25_0_0 (K .normal) c a b e g) (fun b=>u25_0_1 (K .normal) c a d b e g)
theorem m25_0_0g (a:Tf46_0)(α:Type)(K:KT α):F25_0_0 (J25_0_0g ) α K=p25_0_0.unc fun σ=>runM Pg (E25_0g a) sh25 (c25_0_5g ) K σ:=by kernel_rfl
theorem m25_0_0:∀ (α:Type) (K:KT α),F25_0_0 J25_0_0 α K=p25_0_0.unc fun σ=>runM Pg E25_0 sh25 c25_0_5 K σ:=m25_0_0g f46_0
abbrev Tf25_0:Type 1:=(α:Type)->Int->Int->(Int->Int->Op α)->Op α
def f25_0g (e:TJ25_0_0)(g:Tf46_0)(α:Type)(d b:Int)(k1:Int->Int->Op α):Op α:=
 g α d b
 (fun a=>e α b a
 (fun c=>gK (c != 0) (gK (c != 0) (k1 (w64 (Int.tdiv d c)) (w64 (Int.tdiv b c)))))
 (fun h=>gK (a != 0) (gK (a != 0) (k1 (w64 (Int.tdiv d a)) (w64 (Int.tdiv b a))))))
def f25_0 (α:Type)(a b:Int)(k1:Int->Int->Op α):Op α:=f25_0g J25_0_0 f46_0 α a b k1
def pa25_0:PT (List DV):=pA [vI,vI]
def Fn25_0 (v:Tf25_0)(α:Type)(k:RT α):Int->Int->Op α:=fun a b=>v α a b (fun c d=>ur25_0_0 k c d)
def cm25_0g (a:TJ25_0_0):MCode:=(MCode.put (.m [⟨p25_0_0,F25_0_0 a⟩]) [1,1] (emb ac25))
def cm25_0:MCode:=cm25_0g J25_0_0
theorem gm25_0:cm25_0.Good Pg E25_0 sh25:=(put_seq (by kernel_rfl) (emb_good ac25) ⟨m25_0_0,TT⟩)
theorem em25_0:cm25_0.erase=ac25:=((put_erase _ _).trans (emb_erase _))
theorem fm25_0g (a:Tf46_0)(b:TJ25_0_0)(α:Type)(k:RT α):Fn25_0 (f25_0g b a) α k=pa25_0.unc fun ds=>fnM Pg (E25_0g a) sh25 (cm25_0g b) rs25 k ds:=by kernel_rfl
theorem fm25_0:∀ (α:Type) (k:RT α),Fn25_0 f25_0 α k=pa25_0.unc fun ds=>fnM Pg E25_0 sh25 cm25_0 rs25 k ds:=fm25_0g f46_0 J25_0_0
theorem is25:FnIs Pg 25 nt25 tr25 tl25 ac25 rs25:=codeF_is Tryz.func25 (by kernel_rfl)
theorem io25_0:InstOk Pg 25 nt25 ⟨pa25_0,Fn25_0 f25_0⟩:=inst_ok eo25_0 followsTry is25 ⟨⟨sh25,cm25_0,em25_0,gm25_0,fm25_0⟩⟩
abbrev nt22:Nat:=17
def sh22:SG:=[(6,iT),(13,iT)]
def tr22:TG:=[tT 0 [1,2],tT 1 [4]]
def tl22:TG:=[]
def ac22:ACode:=codeF Pg Tryz.f22 tr22 tl22
def rs22:List AResV:=resF Pg Tryz.f22
def pr22_0_0:PT (List RV):=pRs [pR false [rD dB]]
def ur22_0_0 {β:Type}(g:List RV->β):Bool->β:=pr22_0_0.unc g
def E22_0g (a:Tf45_0):EnvK:=EnvK.of [⟨45,nt45,[⟨pa45_0,Fn45_0 a⟩]⟩] noSeq
def E22_0:EnvK:=E22_0g f45_0
theorem eo22_0:E22_0.Ok Pg:=EnvK.of_ok noSeq_ok ⟨⟨io45_0,TT⟩,TT⟩
abbrev Tf22_0:Type 1:=(α:Type)->Int->Int->Int->(Bool->Op α)->Op α
def f22_0g (b:Tf45_0)(α:Type)(c d a:Int)(k1:Bool->Op α):Op α:=
 b α c (w64 (0 - a)) a
 (fun e=>cK e
 (k1 (decide (d<=a)))
 (k1 false))
def f22_0 (α:Type)(a b c:Int)(k1:Bool->Op α):Op α:=f22_0g f45_0 α a b c k1
def pa22_0:PT (List DV):=pA [pV true [(dI .i64),(dI .i64)],vI]
def Fn22_0 (v:Tf22_0)(α:Type)(k:RT α):Int->Int->Int->Op α:=fun a b c=>v α a b c (fun d=>ur22_0_0 k d)
def cm22_0g:MCode:=(emb ac22)
def cm22_0:MCode:=cm22_0g
theorem gm22_0:cm22_0.Good Pg E22_0 sh22:=(emb_good ac22)
theorem em22_0:cm22_0.erase=ac22:=(emb_erase _)
theorem fm22_0g (a:Tf45_0)(α:Type)(k:RT α):Fn22_0 (f22_0g a) α k=pa22_0.unc fun ds=>fnM Pg (E22_0g a) sh22 (cm22_0g ) rs22 k ds:=by kernel_rfl
theorem fm22_0:∀ (α:Type) (k:RT α),Fn22_0 f22_0 α k=pa22_0.unc fun ds=>fnM Pg E22_0 sh22 cm22_0 rs22 k ds:=fm22_0g f45_0
theorem is22:FnIs Pg 22 nt22 tr22 tl22 ac22 rs22:=codeF_is Tryz.func22 (by kernel_rfl)
theorem io22_0:InstOk Pg 22 nt22 ⟨pa22_0,Fn22_0 f22_0⟩:=inst_ok eo22_0 followsTry is22 ⟨⟨sh22,cm22_0,em22_0,gm22_0,fm22_0⟩⟩
abbrev nt24:Nat:=20
def sh24:SG:=[(5,iT),(7,iT),(10,iT)]
def tr24:TG:=[tT 0 [1],tT 1 [1,3],tT 2 [2]]
def tl24:TG:=[]
def ac24:ACode:=codeF Pg Tryz.f24 tr24 tl24
def rs24:List AResV:=resF Pg Tryz.f24
def pr24_0_0:PT (List RV):=pRs [pR false [rD dB]]
def ur24_0_0 {β:Type}(g:List RV->β):Bool->β:=pr24_0_0.unc g
def E24_0g (a:Tf46_0):EnvK:=EnvK.of [⟨46,nt46,[⟨pa46_0,Fn46_0 a⟩]⟩] noSeq
def E24_0:EnvK:=E24_0g f46_0
theorem eo24_0:E24_0.Ok Pg:=EnvK.of_ok noSeq_ok ⟨⟨io46_0,TT⟩,TT⟩
abbrev Tf24_0:Type 1:=(α:Type)->Int->Int->(Bool->Op α)->Op α
def f24_0g (c:Tf46_0)(α:Type)(d a:Int)(k1:Bool->Op α):Op α:=
 c α d a
 (fun b=>cK (decide (0 < a))
 (cK (b == 1)
 (k1 true)
 (k1 (b == (-1))))
 (k1 false))
def f24_0 (α:Type)(a b:Int)(k1:Bool->Op α):Op α:=f24_0g f46_0 α a b k1
def pa24_0:PT (List DV):=pA [pV true [(dI .i64),(dI .i64)]]
def Fn24_0 (v:Tf24_0)(α:Type)(k:RT α):Int->Int->Op α:=fun a b=>v α a b (fun c=>ur24_0_0 k c)
def cm24_0g:MCode:=(emb ac24)
def cm24_0:MCode:=cm24_0g
theorem gm24_0:cm24_0.Good Pg E24_0 sh24:=(emb_good ac24)
theorem em24_0:cm24_0.erase=ac24:=(emb_erase _)
theorem fm24_0g (a:Tf46_0)(α:Type)(k:RT α):Fn24_0 (f24_0g a) α k=pa24_0.unc fun ds=>fnM Pg (E24_0g a) sh24 (cm24_0g ) rs24 k ds:=by kernel_rfl
theorem fm24_0:∀ (α:Type) (k:RT α),Fn24_0 f24_0 α k=pa24_0.unc fun ds=>fnM Pg E24_0 sh24 cm24_0 rs24 k ds:=fm24_0g f46_0
theorem is24:FnIs Pg 24 nt24 tr24 tl24 ac24 rs24:=codeF_is Tryz.func24 (by kernel_rfl)
theorem io24_0:InstOk Pg 24 nt24 ⟨pa24_0,Fn24_0 f24_0⟩:=inst_ok eo24_0 followsTry is24 ⟨⟨sh24,cm24_0,em24_0,gm24_0,fm24_0⟩⟩
abbrev nt15:Nat:=13
def sh15:SG:=[]
def tr15:TG:=[tT 0 [0,1],tT 1 [0,1,6],tT 2 [0,1],tT 3 [4]]
def tl15:TG:=[tT 1 [0,1]]
def ac15:ACode:=codeF Pg Tryz.f15 tr15 tl15
def rs15:List AResV:=resF Pg Tryz.f15
def td15_5:OT:=tdC (MCode.sub [1,0,0] (emb ac15))
def p15_0_0:PT St:=pS [sI 0,sI 1] []
def u15_0_0 {β:Type}(g:St->β):Int->Int->β:=p15_0_0.unc g
def p15_0_1:PT St:=pS [sI 0,sI 1,sY 6 dB] []
def u15_0_1 {β:Type}(g:St->β):Int->Int->Bool->β:=p15_0_1.unc g
def pr15_0_0:PT (List RV):=pRs [wI]
def ur15_0_0 {β:Type}(g:List RV->β):Int->β:=pr15_0_0.unc g
def E15_0g (a:Tf42_0):EnvK:=EnvK.of [⟨42,nt42,[⟨pa42_0,Fn42_0 a⟩]⟩] noSeq
def E15_0:EnvK:=E15_0g f42_0
theorem eo15_0:E15_0.Ok Pg:=EnvK.of_ok noSeq_ok ⟨⟨io42_0,TT⟩,TT⟩
def c15_0_5g:MCode:=MCode.sub [1,0,0,0] (emb ac15)
def c15_0_5:MCode:=c15_0_5g
def S15_0_0g (α:Type)(b a:Int)(kn:Int->Int->Op α)(k1:Int->Int->Bool->Op α):Op α:=
 cK (a != 0)
 (gK (a != 0) (kn a (Int.tmod b a)))
 (k1 b a (a != 0))
def S15_0_0 (α:Type)(a b:Int)(kn:Int->Int->Op α)(k1:Int->Int->Bool->Op α):Op α:=S15_0_0g α a b kn k1
def R15_0_0 (α:Type)(k1:Int->Int->Bool->Op α):Nat->Int->Int->Op α
 | 0,_,_=>none
 | n+1,a,b=>S15_0_0 α a b (R15_0_0 α k1 n) k1
def L15_0_0 (α:Type)(k1:Int->Int->Bool->Op α)(a b:Int):Op α:=R15_0_0 α k1 fuel a b
abbrev TL15_0_0:Type 1:=(α:Type)->(Int->Int->Bool->Op α)->Int->Int->Op α
def F15_0_0 (v:TL15_0_0)(α:Type)(K:KT α):Int->Int->Op α:=fun a b=>v α (fun c d e=>u15_0_1 (K (.exit 0)) c d e) a b
theorem r15_0_0g (c:Tf42_0)(α:Type)(K:KT α)(Kn:SK α)(a b:Int):u15_0_0 (fun σ=>runM Pg (E15_0g c) sh15 (c15_0_5g ) (thenK (fun σ=>tidyK td15_5 σ Kn) K) σ) a b=S15_0_0g α a b (fun a b=>u15_0_0 Kn a b) (fun d e g=>u15_0_1 (K (.exit 0)) d e g):=by kernel_rfl
theorem r15_0_0 (α:Type)(K:KT α)(Kn:SK α)(a b:Int):u15_0_0 (fun σ=>runM Pg E15_0 sh15 c15_0_5 (thenK (fun σ=>tidyK td15_5 σ Kn) K) σ) a b=S15_0_0 α a b (fun a b=>u15_0_0 Kn a b) (fun c d e=>u15_0_1 (K (.exit 0)) c d e):=r15_0_0g f42_0 α K Kn a b
theorem t15_0_0 (α:Type)(K:KT α):∀ (n:Nat) (a b:Int),R15_0_0 α (fun c d e=>u15_0_1 (K (.exit 0)) c d e) n a b=u15_0_0 (loopT (runM Pg E15_0 sh15 c15_0_5) td15_5 K n) a b:=by
 intro n
 induction n with
 | zero=>intros;rfl
 | succ n ih=>intro a b;exact (congrArg (fun kn=>S15_0_0 α a b kn (fun c d e=>u15_0_1 (K (.exit 0)) c d e)) (funext fun a=>funext fun b=>ih a b)).trans (r15_0_0 α K (loopT (runM Pg E15_0 sh15 c15_0_5) td15_5 K n) a b).symm
theorem m15_0_0:∀ (α:Type) (K:KT α),F15_0_0 L15_0_0 α K=p15_0_0.unc fun σ=>loopT (runM Pg E15_0 sh15 c15_0_5) td15_5 K fuel σ:=fun α K=>funext fun a=>funext fun b=>t15_0_0 α K fuel a b
abbrev Tf15_0:Type 1:=(α:Type)->Int->Int->(Int->Op α)->Op α
def f15_0g (a:TL15_0_0)(b:Tf42_0)(α:Type)(c d:Int)(k1:Int->Op α):Op α:=
 a α
 (fun e h i=>b α e
 (fun g=>k1 g)) c d
def f15_0 (α:Type)(a b:Int)(k1:Int->Op α):Op α:=f15_0g L15_0_0 f42_0 α a b k1
def pa15_0:PT (List DV):=pA [vI,vI]
def Fn15_0 (v:Tf15_0)(α:Type)(k:RT α):Int->Int->Op α:=fun a b=>v α a b (fun c=>ur15_0_0 k c)
def cm15_0g (a:TL15_0_0):MCode:=(MCode.put (.m [⟨p15_0_0,F15_0_0 a⟩]) [1,0,0] (emb ac15))
def cm15_0:MCode:=cm15_0g L15_0_0
theorem gm15_0:cm15_0.Good Pg E15_0 sh15:=(put_loop (td:=td15_5) (by kernel_rfl) (emb_good ac15) ⟨m15_0_0,TT⟩)
theorem em15_0:cm15_0.erase=ac15:=((put_erase _ _).trans (emb_erase _))
theorem fm15_0g (a:Tf42_0)(b:TL15_0_0)(α:Type)(k:RT α):Fn15_0 (f15_0g b a) α k=pa15_0.unc fun ds=>fnM Pg (E15_0g a) sh15 (cm15_0g b) rs15 k ds:=by kernel_rfl
theorem fm15_0:∀ (α:Type) (k:RT α),Fn15_0 f15_0 α k=pa15_0.unc fun ds=>fnM Pg E15_0 sh15 cm15_0 rs15 k ds:=fm15_0g f42_0 L15_0_0
theorem is15:FnIs Pg 15 nt15 tr15 tl15 ac15 rs15:=codeF_is Tryz.func15 (by kernel_rfl)
theorem io15_0:InstOk Pg 15 nt15 ⟨pa15_0,Fn15_0 f15_0⟩:=inst_ok eo15_0 followsTry is15 ⟨⟨sh15,cm15_0,em15_0,gm15_0,fm15_0⟩⟩
abbrev nt141:Nat:=32
def sh141:SG:=[]
def tr141:TG:=[tT 0 [0],tT 1 [3],tT 2 [3,4],tT 3 [4,5],tT 4 [4,6],tT 5 [6,23,24],tT 6 [6,23,24,25],tT 7 [6,23,24],tT 8 [6,23,24],tT 9 [2]]
def tl141:TG:=[tT 6 [6,23,24]]
def ac141:ACode:=codeF Pg Tryz.f141 tr141 tl141
def rs141:List AResV:=resF Pg Tryz.f141
def td141_15:OT:=tdC (MCode.sub [1,1,1,1,1,0,1,0] (emb ac141))
def p141_0_0:PT St:=pS [sI 6,sI 23,sI 24] []
def u141_0_0 {β:Type}(g:St->β):Int->Int->Int->β:=p141_0_0.unc g
def p141_0_1:PT St:=pS [sI 6,sI 23,sI 24,sY 25 dB] []
def u141_0_1 {β:Type}(g:St->β):Int->Int->Int->Bool->β:=p141_0_1.unc g
def pr141_0_0:PT (List RV):=pRs [wI]
def ur141_0_0 {β:Type}(g:List RV->β):Int->β:=pr141_0_0.unc g
def E141_0g (a:Tf150_0)(b:Tf64_0):EnvK:=EnvK.of [⟨150,nt150,[⟨pa150_0,Fn150_0 a⟩]⟩,⟨64,nt64,[⟨pa64_0,Fn64_0 b⟩]⟩] noSeq
def E141_0:EnvK:=E141_0g f150_0 f64_0
theorem eo141_0:E141_0.Ok Pg:=EnvK.of_ok noSeq_ok ⟨⟨io150_0,TT⟩,⟨io64_0,TT⟩,TT⟩
def c141_0_15g:MCode:=MCode.sub [1,1,1,1,1,0,1,0,0] (emb ac141)
def c141_0_15:MCode:=c141_0_15g
def S141_0_0g (d:Tf64_0)(α:Type)(c b a:Int)(kn:Int->Int->Op α)(k1:Int->Int->Bool->Op α):Op α:=
 cK (decide (a < c))
 (d α (w64 (b*b)) 1073741824
 (fun e=>kn e (w64 (a+1))))
 (k1 b a (decide (a < c)))
def S141_0_0 (α:Type)(a b c:Int)(kn:Int->Int->Op α)(k1:Int->Int->Bool->Op α):Op α:=S141_0_0g f64_0 α a b c kn k1
def R141_0_0 (α:Type)(a:Int)(k1:Int->Int->Bool->Op α):Nat->Int->Int->Op α
 | 0,_,_=>none
 | n+1,b,c=>S141_0_0 α a b c (R141_0_0 α a k1 n) k1
def L141_0_0 (α:Type)(a:Int)(k1:Int->Int->Bool->Op α)(b c:Int):Op α:=R141_0_0 α a k1 fuel b c
abbrev TL141_0_0:Type 1:=(α:Type)->Int->(Int->Int->Bool->Op α)->Int->Int->Op α
def F141_0_0 (v:TL141_0_0)(α:Type)(K:KT α):Int->Int->Int->Op α:=fun b a c=>v α a (fun d e g=>u141_0_1 (K (.exit 0)) d a e g) b c
theorem r141_0_0g (e:Tf150_0)(d:Tf64_0)(α:Type)(K:KT α)(Kn:SK α)(a b c:Int):u141_0_0 (fun σ=>runM Pg (E141_0g e d) sh141 (c141_0_15g ) (thenK (fun σ=>tidyK td141_15 σ Kn) K) σ) a b c=S141_0_0g d α b a c (fun a c=>u141_0_0 Kn a b c) (fun g h i=>u141_0_1 (K (.exit 0)) g b h i):=by kernel_rfl
theorem r141_0_0 (α:Type)(K:KT α)(Kn:SK α)(a b c:Int):u141_0_0 (fun σ=>runM Pg E141_0 sh141 c141_0_15 (thenK (fun σ=>tidyK td141_15 σ Kn) K) σ) a b c=S141_0_0 α b a c (fun a c=>u141_0_0 Kn a b c) (fun d e g=>u141_0_1 (K (.exit 0)) d b e g):=r141_0_0g f150_0 f64_0 α K Kn a b c
theorem t141_0_0 (α:Type)(K:KT α):∀ (n:Nat) (b a c:Int),R141_0_0 α a (fun d e g=>u141_0_1 (K (.exit 0)) d a e g) n b c=u141_0_0 (loopT (runM Pg E141_0 sh141 c141_0_15) td141_15 K n) b a c:=by
 intro n
 induction n with
 | zero=>intros;rfl
 | succ n ih=>intro b a c;exact (congrArg (fun kn=>S141_0_0 α a b c kn (fun d e g=>u141_0_1 (K (.exit 0)) d a e g)) (funext fun b=>funext fun c=>ih b a c)).trans (r141_0_0 α K (loopT (runM Pg E141_0 sh141 c141_0_15) td141_15 K n) b a c).symm
theorem m141_0_0:∀ (α:Type) (K:KT α),F141_0_0 L141_0_0 α K=p141_0_0.unc fun σ=>loopT (runM Pg E141_0 sh141 c141_0_15) td141_15 K fuel σ:=fun α K=>by funext a b c;exact t141_0_0 α K fuel a b c
abbrev Tf141_0:Type 1:=(α:Type)->Int->(Int->Op α)->Op α
def f141_0g (c:TL141_0_0)(d:Tf150_0)(e:Tf64_0)(α:Type)(b:Int)(k1:Int->Op α):Op α:=
 d α (w64 (Int.tdiv (w64 ((w64 (256*b))*62831853)) 10000000))
 (fun a=>gK (decide (0<=a)) (e α (w64 ((Int.fdiv (w64 (Int.tdiv (w64 ((w64 (256*b))*62831853)) 10000000)) (2 ^ (min (Int.toNat a) 64)))*(Int.fdiv (w64 (Int.tdiv (w64 ((w64 (256*b))*62831853)) 10000000)) (2 ^ (min (Int.toNat a) 64))))) 2147483648
 (fun g=>c α a
 (fun h i j=>k1 h) (w64 ((w64 (1073741824 - (Int.fdiv (w64 (Int.tdiv (w64 ((w64 (256*b))*62831853)) 10000000)) (2 ^ (min (Int.toNat a) 64)))))+g)) 0)))
def f141_0 (α:Type)(a:Int)(k1:Int->Op α):Op α:=f141_0g L141_0_0 f150_0 f64_0 α a k1
def pa141_0:PT (List DV):=pA [vI]
def Fn141_0 (v:Tf141_0)(α:Type)(k:RT α):Int->Op α:=fun a=>v α a (fun b=>ur141_0_0 k b)
def cm141_0g (a:TL141_0_0):MCode:=(MCode.put (.m [⟨p141_0_0,F141_0_0 a⟩]) [1,1,1,1,1,0,1,0] (emb ac141))
def cm141_0:MCode:=cm141_0g L141_0_0
theorem gm141_0:cm141_0.Good Pg E141_0 sh141:=(put_loop (td:=td141_15) (by kernel_rfl) (emb_good ac141) ⟨m141_0_0,TT⟩)
theorem em141_0:cm141_0.erase=ac141:=((put_erase _ _).trans (emb_erase _))
theorem fm141_0g (a:Tf150_0)(b:Tf64_0)(c:TL141_0_0)(α:Type)(k:RT α):Fn141_0 (f141_0g c a b) α k=pa141_0.unc fun ds=>fnM Pg (E141_0g a b) sh141 (cm141_0g c) rs141 k ds:=by kernel_rfl
theorem fm141_0:∀ (α:Type) (k:RT α),Fn141_0 f141_0 α k=pa141_0.unc fun ds=>fnM Pg E141_0 sh141 cm141_0 rs141 k ds:=fm141_0g f150_0 f64_0 L141_0_0
theorem is141:FnIs Pg 141 nt141 tr141 tl141 ac141 rs141:=codeF_is Tryz.func141 (by kernel_rfl)
theorem io141_0:InstOk Pg 141 nt141 ⟨pa141_0,Fn141_0 f141_0⟩:=inst_ok eo141_0 followsTry is141 ⟨⟨sh141,cm141_0,em141_0,gm141_0,fm141_0⟩⟩
abbrev nt140:Nat:=40
def sh140:SG:=[]
def tr140:TG:=[tT 0 [0],tT 1 [3],tT 2 [3,4],tT 3 [4,5],tT 4 [4,6],tT 5 [6,31,32],tT 6 [6,31,32,33],tT 7 [6,31,32],tT 8 [6,31,32],tT 9 [2]]
def tl140:TG:=[tT 6 [6,31,32]]
def ac140:ACode:=codeF Pg Tryz.f140 tr140 tl140
def rs140:List AResV:=resF Pg Tryz.f140
def td140_15:OT:=tdC (MCode.sub [1,1,1,1,1,0,1,0] (emb ac140))
def p140_0_0:PT St:=pS [sI 6,sI 31,sI 32] []
def u140_0_0 {β:Type}(g:St->β):Int->Int->Int->β:=p140_0_0.unc g
def p140_0_1:PT St:=pS [sI 6,sI 31,sI 32,sY 33 dB] []
def u140_0_1 {β:Type}(g:St->β):Int->Int->Int->Bool->β:=p140_0_1.unc g
def pr140_0_0:PT (List RV):=pRs [wI]
def ur140_0_0 {β:Type}(g:List RV->β):Int->β:=pr140_0_0.unc g
def E140_0g (a:Tf64_0)(b:Tf150_0):EnvK:=EnvK.of [⟨64,nt64,[⟨pa64_0,Fn64_0 a⟩]⟩,⟨150,nt150,[⟨pa150_0,Fn150_0 b⟩]⟩] noSeq
def E140_0:EnvK:=E140_0g f64_0 f150_0
theorem eo140_0:E140_0.Ok Pg:=EnvK.of_ok noSeq_ok ⟨⟨io64_0,TT⟩,⟨io150_0,TT⟩,TT⟩
def c140_0_15g:MCode:=MCode.sub [1,1,1,1,1,0,1,0,0] (emb ac140)
def c140_0_15:MCode:=c140_0_15g
def S140_0_0g (α:Type)(c b a:Int)(kn:Int->Int->Op α)(k1:Int->Int->Bool->Op α):Op α:=
 cK (decide (a < c))
 (kn (w64 (Int.tdiv (w64 (b*b)) 1073741824)) (w64 (a+1)))
 (k1 b a (decide (a < c)))
def S140_0_0 (α:Type)(a b c:Int)(kn:Int->Int->Op α)(k1:Int->Int->Bool->Op α):Op α:=S140_0_0g α a b c kn k1
def R140_0_0 (α:Type)(a:Int)(k1:Int->Int->Bool->Op α):Nat->Int->Int->Op α
 | 0,_,_=>none
 | n+1,b,c=>S140_0_0 α a b c (R140_0_0 α a k1 n) k1
def L140_0_0 (α:Type)(a:Int)(k1:Int->Int->Bool->Op α)(b c:Int):Op α:=R140_0_0 α a k1 fuel b c
abbrev TL140_0_0:Type 1:=(α:Type)->Int->(Int->Int->Bool->Op α)->Int->Int->Op α
def F140_0_0 (v:TL140_0_0)(α:Type)(K:KT α):Int->Int->Int->Op α:=fun b a c=>v α a (fun d e g=>u140_0_1 (K (.exit 0)) d a e g) b c
theorem r140_0_0g (d:Tf64_0)(e:Tf150_0)(α:Type)(K:KT α)(Kn:SK α)(a b c:Int):u140_0_0 (fun σ=>runM Pg (E140_0g d e) sh140 (c140_0_15g ) (thenK (fun σ=>tidyK td140_15 σ Kn) K) σ) a b c=S140_0_0g α b a c (fun a c=>u140_0_0 Kn a b c) (fun g h i=>u140_0_1 (K (.exit 0)) g b h i):=by kernel_rfl
theorem r140_0_0 (α:Type)(K:KT α)(Kn:SK α)(a b c:Int):u140_0_0 (fun σ=>runM Pg E140_0 sh140 c140_0_15 (thenK (fun σ=>tidyK td140_15 σ Kn) K) σ) a b c=S140_0_0 α b a c (fun a c=>u140_0_0 Kn a b c) (fun d e g=>u140_0_1 (K (.exit 0)) d b e g):=r140_0_0g f64_0 f150_0 α K Kn a b c
theorem t140_0_0 (α:Type)(K:KT α):∀ (n:Nat) (b a c:Int),R140_0_0 α a (fun d e g=>u140_0_1 (K (.exit 0)) d a e g) n b c=u140_0_0 (loopT (runM Pg E140_0 sh140 c140_0_15) td140_15 K n) b a c:=by
 intro n
 induction n with
 | zero=>intros;rfl
 | succ n ih=>intro b a c;exact (congrArg (fun kn=>S140_0_0 α a b c kn (fun d e g=>u140_0_1 (K (.exit 0)) d a e g)) (funext fun b=>funext fun c=>ih b a c)).trans (r140_0_0 α K (loopT (runM Pg E140_0 sh140 c140_0_15) td140_15 K n) b a c).symm
theorem m140_0_0:∀ (α:Type) (K:KT α),F140_0_0 L140_0_0 α K=p140_0_0.unc fun σ=>loopT (runM Pg E140_0 sh140 c140_0_15) td140_15 K fuel σ:=fun α K=>by funext a b c;exact t140_0_0 α K fuel a b c
abbrev Tf140_0:Type 1:=(α:Type)->Int->(Int->Op α)->Op α
def f140_0g (e:TL140_0_0)(g:Tf150_0)(b:Tf64_0)(α:Type)(h:Int)(k1:Int->Op α):Op α:=
 b α (w64 ((w64 (256*h))*62831854)) 10000000
 (fun d=>g α d
 (fun c=>gK (decide (0<=c)) (b α d (w64 (1*2 ^ (min (Int.toNat c) 64)))
 (fun a=>b α (w64 ((w64 (a*a))*a)) 6917529027641081856
 (fun i=>e α c
 (fun j l m=>k1 j) (w64 ((w64 ((w64 (1073741824 - a))+(w64 (Int.tdiv (w64 (a*a)) 2147483648)))) - i)) 0)))))
def f140_0 (α:Type)(a:Int)(k1:Int->Op α):Op α:=f140_0g L140_0_0 f150_0 f64_0 α a k1
def pa140_0:PT (List DV):=pA [vI]
def Fn140_0 (v:Tf140_0)(α:Type)(k:RT α):Int->Op α:=fun a=>v α a (fun b=>ur140_0_0 k b)
def cm140_0g (a:TL140_0_0):MCode:=(MCode.put (.m [⟨p140_0_0,F140_0_0 a⟩]) [1,1,1,1,1,0,1,0] (emb ac140))
def cm140_0:MCode:=cm140_0g L140_0_0
theorem gm140_0:cm140_0.Good Pg E140_0 sh140:=(put_loop (td:=td140_15) (by kernel_rfl) (emb_good ac140) ⟨m140_0_0,TT⟩)
theorem em140_0:cm140_0.erase=ac140:=((put_erase _ _).trans (emb_erase _))
theorem fm140_0g (a:Tf64_0)(b:Tf150_0)(c:TL140_0_0)(α:Type)(k:RT α):Fn140_0 (f140_0g c b a) α k=pa140_0.unc fun ds=>fnM Pg (E140_0g a b) sh140 (cm140_0g c) rs140 k ds:=by kernel_rfl
theorem fm140_0:∀ (α:Type) (k:RT α),Fn140_0 f140_0 α k=pa140_0.unc fun ds=>fnM Pg E140_0 sh140 cm140_0 rs140 k ds:=fm140_0g f64_0 f150_0 L140_0_0
theorem is140:FnIs Pg 140 nt140 tr140 tl140 ac140 rs140:=codeF_is Tryz.func140 (by kernel_rfl)
theorem io140_0:InstOk Pg 140 nt140 ⟨pa140_0,Fn140_0 f140_0⟩:=inst_ok eo140_0 followsTry is140 ⟨⟨sh140,cm140_0,em140_0,gm140_0,fm140_0⟩⟩
abbrev nt156:Nat:=24
def sh156:SG:=[(7,iS 2),(8,iS 2),(10,iS 2),(14,iT),(19,iT)]
def tr156:TG:=[tT 0 [2,3,4],tT 1 [4,5],tT 2 [4,5,6],tT 3 [4]]
def tl156:TG:=[]
def ac156:ACode:=codeF Pg Tryz.f156 tr156 tl156
def rs156:List AResV:=resF Pg Tryz.f156
def pr156_0_0:PT (List RV):=pRs [pR true [rD (dI .i64),rD (dI .i64)]]
def ur156_0_0 {β:Type}(g:List RV->β):Int->Int->β:=pr156_0_0.unc g
def E156_0g (a:Tf113_0)(b:Tf120_0)(c:Tf95_0):EnvK:=EnvK.of [⟨113,nt113,[⟨pa113_0,Fn113_0 a⟩]⟩,⟨120,nt120,[⟨pa120_0,Fn120_0 b⟩]⟩,⟨95,nt95,[⟨pa95_0,Fn95_0 c⟩]⟩] noSeq
def E156_0:EnvK:=E156_0g f113_0 f120_0 f95_0
theorem eo156_0:E156_0.Ok Pg:=EnvK.of_ok noSeq_ok ⟨⟨io113_0,TT⟩,⟨io120_0,TT⟩,⟨io95_0,TT⟩,TT⟩
abbrev Tf156_0:Type 1:=(α:Type)->Int->Int->Int->Int->(Int->Int->Op α)->Op α
def f156_0g (d:Tf113_0)(e:Tf120_0)(g:Tf95_0)(α:Type)(h i j l:Int)(k1:Int->Int->Op α):Op α:=
 d α h i j l
 (fun b c=>e α b c
 (fun m=>g α m
 (fun a=>gK (a != 0) (gK (a != 0) (k1 (w64 (Int.tdiv (w64 (b*67108864)) a)) (w64 (Int.tdiv (w64 (c*67108864)) a)))))))
def f156_0 (α:Type)(a b c d:Int)(k1:Int->Int->Op α):Op α:=f156_0g f113_0 f120_0 f95_0 α a b c d k1
def pa156_0:PT (List DV):=pA [pV true [(dI .i64),(dI .i64)],pV true [(dI .i64),(dI .i64)]]
def Fn156_0 (v:Tf156_0)(α:Type)(k:RT α):I4 (Op α):=fun a b c d=>v α a b c d (fun e g=>ur156_0_0 k e g)
def cm156_0g:MCode:=(emb ac156)
def cm156_0:MCode:=cm156_0g
theorem gm156_0:cm156_0.Good Pg E156_0 sh156:=(emb_good ac156)
theorem em156_0:cm156_0.erase=ac156:=(emb_erase _)
theorem fm156_0g (a:Tf113_0)(b:Tf120_0)(c:Tf95_0)(α:Type)(k:RT α):Fn156_0 (f156_0g a b c) α k=pa156_0.unc fun ds=>fnM Pg (E156_0g a b c) sh156 (cm156_0g ) rs156 k ds:=by kernel_rfl
theorem fm156_0:∀ (α:Type) (k:RT α),Fn156_0 f156_0 α k=pa156_0.unc fun ds=>fnM Pg E156_0 sh156 cm156_0 rs156 k ds:=fm156_0g f113_0 f120_0 f95_0
theorem is156:FnIs Pg 156 nt156 tr156 tl156 ac156 rs156:=codeF_is Tryz.func156 (by kernel_rfl)
theorem io156_0:InstOk Pg 156 nt156 ⟨pa156_0,Fn156_0 f156_0⟩:=inst_ok eo156_0 followsTry is156 ⟨⟨sh156,cm156_0,em156_0,gm156_0,fm156_0⟩⟩
abbrev nt129:Nat:=135
def sh129:SG:=[]
def tr129:TG:=[tT 0 [0,1,2],tT 1 [0,1,2,20],tT 2 [0,1,2],tT 3 [0,1,2,24],tT 4 [0,1,2],tT 5 [0,1,2,27],tT 6 [6,7],tT 7 [0,1,2,8],tT 8 [0,1,2,8],tT 9 [0,1,2,8,9],tT 10 [0,1,2,8,9,10],tT 11 [1,2,8,9,10,11],tT 12 [2,8,9,10,11,12],tT 13 [2,8,9,10,11,12,13],tT 14 [2,8,9,10,11,13,14],tT 15 [2,8,9,10,11,13,14,15],tT 16 [2,8,9,10,11,13,14,15,16],tT 17 [2,8,9,10,11,13,14,15,16,78],tT 18 [2,8,9,10,11,13,14,15,16],tT 19 [2,8,9,10,11,13,14,15,16],tT 20 [2,8,9,10,11,13,14,15,16,85],tT 21 [2,8,9,10,14,15,17],tT 22 [2,8,9,10,14,15,17,18],tT 23 [2,8,9,10,14,15,16,17,18],tT 24 [2,8,9,10,14,15,16,17,18,113],tT 25 [2,8,9,10,14,15,16,17,18],tT 26 [2,8,9,10,14,15,16,17,18],tT 27 [2,8,9,10,14,15,16,17,18,120],tT 28 [6,7]]
def tl129:TG:=[tT 17 [2,8,9,10,11,13,14,15,16],tT 24 [2,8,9,10,14,15,16,17,18]]
def ac129:ACode:=codeF Pg Tryz.f129 tr129 tl129
def rs129:List AResV:=resF Pg Tryz.f129
def td129_41:OT:=tdC (MCode.sub [1,1,1,1,1,1,1,1,1,1,1,1,1,1,0,0] (emb ac129))
def td129_62:OT:=tdC (MCode.sub [1,1,1,1,1,1,1,1,1,1,1,1,1,1,1,1,1,1,0,0] (emb ac129))
def p129_0_0:PT St:=pS [sY 2 (dI .u64),sY 8 (dI .u64),sY 9 (dI .u64),sY 10 (dI .u64),sY 11 (dI .u64),sY 13 (dI .u64),sY 14 (dI .u64),sY 15 (dI .u64),sY 16 (dI .u64)] []
def u129_0_0 {β:Type}(g:St->β):I9 β:=p129_0_0.unc g
def p129_0_1:PT St:=pS [sY 2 (dI .u64),sY 8 (dI .u64),sY 9 (dI .u64),sY 10 (dI .u64),sY 11 (dI .u64),sY 13 (dI .u64),sY 14 (dI .u64),sY 15 (dI .u64),sY 16 (dI .u64),sY 78 dB] []
def u129_0_1 {β:Type}(g:St->β):Int->Int->Int->Int->Int->Int->Int->Int->Int->Bool->β:=p129_0_1.unc g
def p129_0_2:PT St:=pS [sY 2 (dI .u64),sY 8 (dI .u64),sY 9 (dI .u64),sY 10 (dI .u64),sY 11 (dI .u64),sY 13 (dI .u64),sY 14 (dI .u64),sY 15 (dI .u64),sY 16 (dI .u64),sY 85 dB] []
def u129_0_2 {β:Type}(g:St->β):Int->Int->Int->Int->Int->Int->Int->Int->Int->Bool->β:=p129_0_2.unc g
def p129_0_3:PT St:=pS [sY 2 (dI .u64),sY 8 (dI .u64),sY 9 (dI .u64),sY 10 (dI .u64),sY 14 (dI .u64),sY 15 (dI .u64),sY 16 (dI .u64),sY 17 (dI .u64),sY 18 (dI .u64)] []
def u129_0_3 {β:Type}(g:St->β):I9 β:=p129_0_3.unc g
def p129_0_4:PT St:=pS [sY 2 (dI .u64),sY 8 (dI .u64),sY 9 (dI .u64),sY 10 (dI .u64),sY 14 (dI .u64),sY 15 (dI .u64),sY 16 (dI .u64),sY 17 (dI .u64),sY 18 (dI .u64),sY 113 dB] []
def u129_0_4 {β:Type}(g:St->β):Int->Int->Int->Int->Int->Int->Int->Int->Int->Bool->β:=p129_0_4.unc g
def p129_0_5:PT St:=pS [sY 2 (dI .u64),sY 8 (dI .u64),sY 9 (dI .u64),sY 10 (dI .u64),sY 14 (dI .u64),sY 15 (dI .u64),sY 16 (dI .u64),sY 17 (dI .u64),sY 18 (dI .u64),sY 120 dB] []
def u129_0_5 {β:Type}(g:St->β):Int->Int->Int->Int->Int->Int->Int->Int->Int->Bool->β:=p129_0_5.unc g
def pr129_0_0:PT (List RV):=pRs [pR false [rD (dI .u64)],pR false [rD (dI .u64)]]
def ur129_0_0 {β:Type}(g:List RV->β):Int->Int->β:=pr129_0_0.unc g
def E129_0g (a:Tf144_0):EnvK:=EnvK.of [⟨144,nt144,[⟨pa144_0,Fn144_0 a⟩]⟩] noSeq
def E129_0:EnvK:=E129_0g f144_0
theorem eo129_0:E129_0.Ok Pg:=EnvK.of_ok noSeq_ok ⟨⟨io144_0,TT⟩,TT⟩
def c129_0_63g:MCode:=MCode.sub [1,1,1,1,1,1,1,1,1,1,1,1,1,1,1,1,1,1,0,0,0,0] (emb ac129)
def c129_0_63:MCode:=c129_0_63g
abbrev TJ129_0_3:Type 1:=(α:Type)->Int->Int->Int->Int->(Bool->Op α)->(Bool->Op α)->Op α
def J129_0_3g (α:Type)(b c d a:Int)(k1:Bool->Op α)(k2:Bool->Op α):Op α:=
 cK (decide (4294967296<=a))
 (k1 true)
 (cK (decide ((IntKind.wrap .u64 ((IntKind.wrap .u64 (4294967296*d))+c)) < (IntKind.wrap .u64 (a*b))))
 (k1 (decide ((IntKind.wrap .u64 ((IntKind.wrap .u64 (4294967296*d))+c)) < (IntKind.wrap .u64 (a*b)))))
 (k2 (decide ((IntKind.wrap .u64 ((IntKind.wrap .u64 (4294967296*d))+c)) < (IntKind.wrap .u64 (a*b))))))
def J129_0_3 (α:Type)(a b c d:Int)(k1:Bool->Op α)(k2:Bool->Op α):Op α:=J129_0_3g α a b c d k1 k2
def F129_0_3 (v:TJ129_0_3)(α:Type)(K:KT α):I9 (Op α):=fun g h i a b j c l d=>v α a b c d (fun e=>u129_0_4 (K .normal) g h i a b j c l d e) (fun e=>u129_0_4 (K (.exit 2)) g h i a b j c l d e)
theorem m129_0_3g (a:Tf144_0)(α:Type)(K:KT α):F129_0_3 (J129_0_3g ) α K=p129_0_3.unc fun σ=>runM Pg (E129_0g a) sh129 (c129_0_63g ) K σ:=by kernel_rfl
theorem m129_0_3:∀ (α:Type) (K:KT α),F129_0_3 J129_0_3 α K=p129_0_3.unc fun σ=>runM Pg E129_0 sh129 c129_0_63 K σ:=m129_0_3g f144_0
def c129_0_62g (a:TJ129_0_3):MCode:=MCode.sub [1,1,1,1,1,1,1,1,1,1,1,1,1,1,1,1,1,1,0,0,0] (MCode.put (.m [⟨p129_0_3,F129_0_3 a⟩]) [1,1,1,1,1,1,1,1,1,1,1,1,1,1,1,1,1,1,0,0,0] (emb ac129))
def c129_0_62:MCode:=c129_0_62g J129_0_3
def S129_0_4g (d:TJ129_0_3)(α:Type)(b e g a c:Int)(kn:Int->Int->Op α)(k1:Int->Int->Bool->Op α)(k2:Int->Int->Bool->Op α):Op α:=
 d α e g a c
 (fun i=>cK (decide (4294967296<=(IntKind.wrap .u64 (a+b))))
 (k1 (IntKind.wrap .u64 (a+b)) (IntKind.wrap .u64 (c - 1)) (decide (4294967296<=(IntKind.wrap .u64 (a+b)))))
 (kn (IntKind.wrap .u64 (a+b)) (IntKind.wrap .u64 (c - 1))))
 (fun h=>k2 a c h)
def S129_0_4 (α:Type)(a b c d e:Int)(kn:Int->Int->Op α)(k1:Int->Int->Bool->Op α)(k2:Int->Int->Bool->Op α):Op α:=S129_0_4g J129_0_3 α a b c d e kn k1 k2
def R129_0_4 (α:Type)(a b c:Int)(k1:Int->Int->Bool->Op α)(k2:Int->Int->Bool->Op α):Nat->Int->Int->Op α
 | 0,_,_=>none
 | n+1,d,e=>S129_0_4 α a b c d e (R129_0_4 α a b c k1 k2 n) k1 k2
def L129_0_4 (α:Type)(a b c:Int)(k1:Int->Int->Bool->Op α)(k2:Int->Int->Bool->Op α)(d e:Int):Op α:=R129_0_4 α a b c k1 k2 fuel d e
abbrev TL129_0_4:Type 1:=(α:Type)->Int->Int->Int->(Int->Int->Bool->Op α)->(Int->Int->Bool->Op α)->Int->Int->Op α
def F129_0_4 (v:TL129_0_4)(α:Type)(K:KT α):I9 (Op α):=fun h i a b c j m l o=>v α a b c (fun d e g=>u129_0_5 (K (.exit 2)) h i a b c j d l e g) (fun d e g=>u129_0_4 (K (.exit 2)) h i a b c j d l e g) m o
theorem r129_0_4g (q:Tf144_0)(p:TJ129_0_3)(α:Type)(K:KT α)(Kn:SK α)(d e a b c g h i j:Int):u129_0_3 (fun σ=>runM Pg (E129_0g q) sh129 (c129_0_62g p) (thenK (fun σ=>tidyK td129_62 σ Kn) K) σ) d e a b c g h i j=S129_0_4g p α a b c h j (fun h j=>u129_0_3 Kn d e a b c g h i j) (fun l m o=>u129_0_5 (K (.exit 2)) d e a b c g l i m o) (fun l m o=>u129_0_4 (K (.exit 2)) d e a b c g l i m o):=by kernel_rfl
theorem r129_0_4 (α:Type)(K:KT α)(Kn:SK α)(d e a b c g h i j:Int):u129_0_3 (fun σ=>runM Pg E129_0 sh129 c129_0_62 (thenK (fun σ=>tidyK td129_62 σ Kn) K) σ) d e a b c g h i j=S129_0_4 α a b c h j (fun h j=>u129_0_3 Kn d e a b c g h i j) (fun l m o=>u129_0_5 (K (.exit 2)) d e a b c g l i m o) (fun l m o=>u129_0_4 (K (.exit 2)) d e a b c g l i m o):=r129_0_4g f144_0 J129_0_3 α K Kn d e a b c g h i j
theorem t129_0_4 (α:Type)(K:KT α):∀ (n:Nat) (d e a b c g i h j:Int),R129_0_4 α a b c (fun l m o=>u129_0_5 (K (.exit 2)) d e a b c g l h m o) (fun l m o=>u129_0_4 (K (.exit 2)) d e a b c g l h m o) n i j=u129_0_3 (loopT (runM Pg E129_0 sh129 c129_0_62) td129_62 K n) d e a b c g i h j:=by
 intro n
 induction n with
 | zero=>intros;rfl
 | succ n ih=>intro d e a b c g i h j;exact (congrArg (fun kn=>S129_0_4 α a b c i j kn (fun l m o=>u129_0_5 (K (.exit 2)) d e a b c g l h m o) (fun l m o=>u129_0_4 (K (.exit 2)) d e a b c g l h m o)) (funext fun i=>funext fun j=>ih d e a b c g i h j)).trans (r129_0_4 α K (loopT (runM Pg E129_0 sh129 c129_0_62) td129_62 K n) d e a b c g i h j).symm
theorem m129_0_4:∀ (α:Type) (K:KT α),F129_0_4 L129_0_4 α K=p129_0_3.unc fun σ=>loopT (runM Pg E129_0 sh129 c129_0_62) td129_62 K fuel σ:=fun α K=>by funext a b c d e g h i j;exact t129_0_4 α K fuel a b c d e g h i j
def c129_0_60g (a:TL129_0_4):MCode:=MCode.sub [1,1,1,1,1,1,1,1,1,1,1,1,1,1,1,1,1,1,0] (MCode.put (.m [⟨p129_0_3,F129_0_4 a⟩]) [1,1,1,1,1,1,1,1,1,1,1,1,1,1,1,1,1,1,0,0] (MCode.put (.m [⟨p129_0_3,F129_0_3 J129_0_3⟩]) [1,1,1,1,1,1,1,1,1,1,1,1,1,1,1,1,1,1,0,0,0] (emb ac129)))
def c129_0_60:MCode:=c129_0_60g L129_0_4
abbrev TJ129_0_5:Type 1:=(α:Type)->Int->Int->Int->Int->Int->(Int->Int->Bool->Op α)->(Int->Int->Bool->Op α)->Op α
def J129_0_5g (a:TL129_0_4)(α:Type)(b c d e g:Int)(k1:Int->Int->Bool->Op α)(k2:Int->Int->Bool->Op α):Op α:=
 a α b c d
 (fun h i j=>k1 h i j)
 (fun l m o=>k2 l m o) e g
def J129_0_5 (α:Type)(a b c d e:Int)(k1:Int->Int->Bool->Op α)(k2:Int->Int->Bool->Op α):Op α:=J129_0_5g L129_0_4 α a b c d e k1 k2
def F129_0_5 (v:TJ129_0_5)(α:Type)(K:KT α):I9 (Op α):=fun h i a b c j m l o=>v α a b c m o (fun d e g=>u129_0_5 (K .normal) h i a b c j d l e g) (fun d e g=>u129_0_4 (K .normal) h i a b c j d l e g)
theorem m129_0_5g (b:Tf144_0)(a:TL129_0_4)(α:Type)(K:KT α):F129_0_5 (J129_0_5g a) α K=p129_0_3.unc fun σ=>runM Pg (E129_0g b) sh129 (c129_0_60g a) K σ:=by kernel_rfl
theorem m129_0_5:∀ (α:Type) (K:KT α),F129_0_5 J129_0_5 α K=p129_0_3.unc fun σ=>runM Pg E129_0 sh129 c129_0_60 K σ:=m129_0_5g f144_0 L129_0_4
def c129_0_42g:MCode:=MCode.sub [1,1,1,1,1,1,1,1,1,1,1,1,1,1,0,0,0,0] (emb ac129)
def c129_0_42:MCode:=c129_0_42g
abbrev TJ129_0_0:Type 1:=(α:Type)->Int->Int->Int->Int->(Bool->Op α)->(Bool->Op α)->Op α
def J129_0_0g (α:Type)(b c a d:Int)(k1:Bool->Op α)(k2:Bool->Op α):Op α:=
 cK (decide (4294967296<=a))
 (k1 true)
 (cK (decide ((IntKind.wrap .u64 ((IntKind.wrap .u64 (4294967296*d))+c)) < (IntKind.wrap .u64 (a*b))))
 (k1 (decide ((IntKind.wrap .u64 ((IntKind.wrap .u64 (4294967296*d))+c)) < (IntKind.wrap .u64 (a*b)))))
 (k2 (decide ((IntKind.wrap .u64 ((IntKind.wrap .u64 (4294967296*d))+c)) < (IntKind.wrap .u64 (a*b))))))
def J129_0_0 (α:Type)(a b c d:Int)(k1:Bool->Op α)(k2:Bool->Op α):Op α:=J129_0_0g α a b c d k1 k2
def F129_0_0 (v:TJ129_0_0)(α:Type)(K:KT α):I9 (Op α):=fun g h i a j b l c d=>v α a b c d (fun e=>u129_0_1 (K .normal) g h i a j b l c d e) (fun e=>u129_0_1 (K (.exit 0)) g h i a j b l c d e)
theorem m129_0_0g (a:Tf144_0)(α:Type)(K:KT α):F129_0_0 (J129_0_0g ) α K=p129_0_0.unc fun σ=>runM Pg (E129_0g a) sh129 (c129_0_42g ) K σ:=by kernel_rfl
theorem m129_0_0:∀ (α:Type) (K:KT α),F129_0_0 J129_0_0 α K=p129_0_0.unc fun σ=>runM Pg E129_0 sh129 c129_0_42 K σ:=m129_0_0g f144_0
def c129_0_41g (a:TJ129_0_0):MCode:=MCode.sub [1,1,1,1,1,1,1,1,1,1,1,1,1,1,0,0,0] (MCode.put (.m [⟨p129_0_0,F129_0_0 a⟩]) [1,1,1,1,1,1,1,1,1,1,1,1,1,1,0,0,0] (emb ac129))
def c129_0_41:MCode:=c129_0_41g J129_0_0
def S129_0_1g (d:TJ129_0_0)(α:Type)(b e g c a:Int)(kn:Int->Int->Op α)(k1:Int->Int->Bool->Op α)(k2:Int->Int->Bool->Op α):Op α:=
 d α e g c a
 (fun i=>cK (decide (4294967296<=(IntKind.wrap .u64 (a+b))))
 (k1 (IntKind.wrap .u64 (c - 1)) (IntKind.wrap .u64 (a+b)) (decide (4294967296<=(IntKind.wrap .u64 (a+b)))))
 (kn (IntKind.wrap .u64 (c - 1)) (IntKind.wrap .u64 (a+b))))
 (fun h=>k2 c a h)
def S129_0_1 (α:Type)(a b c d e:Int)(kn:Int->Int->Op α)(k1:Int->Int->Bool->Op α)(k2:Int->Int->Bool->Op α):Op α:=S129_0_1g J129_0_0 α a b c d e kn k1 k2
def R129_0_1 (α:Type)(a b c:Int)(k1:Int->Int->Bool->Op α)(k2:Int->Int->Bool->Op α):Nat->Int->Int->Op α
 | 0,_,_=>none
 | n+1,d,e=>S129_0_1 α a b c d e (R129_0_1 α a b c k1 k2 n) k1 k2
def L129_0_1 (α:Type)(a b c:Int)(k1:Int->Int->Bool->Op α)(k2:Int->Int->Bool->Op α)(d e:Int):Op α:=R129_0_1 α a b c k1 k2 fuel d e
abbrev TL129_0_1:Type 1:=(α:Type)->Int->Int->Int->(Int->Int->Bool->Op α)->(Int->Int->Bool->Op α)->Int->Int->Op α
def F129_0_1 (v:TL129_0_1)(α:Type)(K:KT α):I9 (Op α):=fun h i a b j c l m o=>v α a b c (fun d e g=>u129_0_2 (K (.exit 0)) h i a b j c l d e g) (fun d e g=>u129_0_1 (K (.exit 0)) h i a b j c l d e g) m o
theorem r129_0_1g (q:Tf144_0)(p:TJ129_0_0)(α:Type)(K:KT α)(Kn:SK α)(d e a b g c h i j:Int):u129_0_0 (fun σ=>runM Pg (E129_0g q) sh129 (c129_0_41g p) (thenK (fun σ=>tidyK td129_41 σ Kn) K) σ) d e a b g c h i j=S129_0_1g p α a b c i j (fun i j=>u129_0_0 Kn d e a b g c h i j) (fun l m o=>u129_0_2 (K (.exit 0)) d e a b g c h l m o) (fun l m o=>u129_0_1 (K (.exit 0)) d e a b g c h l m o):=by kernel_rfl
theorem r129_0_1 (α:Type)(K:KT α)(Kn:SK α)(d e a b g c h i j:Int):u129_0_0 (fun σ=>runM Pg E129_0 sh129 c129_0_41 (thenK (fun σ=>tidyK td129_41 σ Kn) K) σ) d e a b g c h i j=S129_0_1 α a b c i j (fun i j=>u129_0_0 Kn d e a b g c h i j) (fun l m o=>u129_0_2 (K (.exit 0)) d e a b g c h l m o) (fun l m o=>u129_0_1 (K (.exit 0)) d e a b g c h l m o):=r129_0_1g f144_0 J129_0_0 α K Kn d e a b g c h i j
theorem t129_0_1 (α:Type)(K:KT α):∀ (n:Nat) (d e a b g c h i j:Int),R129_0_1 α a b c (fun l m o=>u129_0_2 (K (.exit 0)) d e a b g c h l m o) (fun l m o=>u129_0_1 (K (.exit 0)) d e a b g c h l m o) n i j=u129_0_0 (loopT (runM Pg E129_0 sh129 c129_0_41) td129_41 K n) d e a b g c h i j:=by
 intro n
 induction n with
 | zero=>intros;rfl
 | succ n ih=>intro d e a b g c h i j;exact (congrArg (fun kn=>S129_0_1 α a b c i j kn (fun l m o=>u129_0_2 (K (.exit 0)) d e a b g c h l m o) (fun l m o=>u129_0_1 (K (.exit 0)) d e a b g c h l m o)) (funext fun i=>funext fun j=>ih d e a b g c h i j)).trans (r129_0_1 α K (loopT (runM Pg E129_0 sh129 c129_0_41) td129_41 K n) d e a b g c h i j).symm
theorem m129_0_1:∀ (α:Type) (K:KT α),F129_0_1 L129_0_1 α K=p129_0_0.unc fun σ=>loopT (runM Pg E129_0 sh129 c129_0_41) td129_41 K fuel σ:=fun α K=>by funext a b c d e g h i j;exact t129_0_1 α K fuel a b c d e g h i j
def c129_0_39g (a:TL129_0_1):MCode:=MCode.sub [1,1,1,1,1,1,1,1,1,1,1,1,1,1,0] (MCode.put (.m [⟨p129_0_0,F129_0_1 a⟩]) [1,1,1,1,1,1,1,1,1,1,1,1,1,1,0,0] (MCode.put (.m [⟨p129_0_0,F129_0_0 J129_0_0⟩]) [1,1,1,1,1,1,1,1,1,1,1,1,1,1,0,0,0] (emb ac129)))
def c129_0_39:MCode:=c129_0_39g L129_0_1
abbrev TJ129_0_2:Type 1:=(α:Type)->Int->Int->Int->Int->Int->(Int->Int->Bool->Op α)->(Int->Int->Bool->Op α)->Op α
def J129_0_2g (a:TL129_0_1)(α:Type)(b c d e g:Int)(k1:Int->Int->Bool->Op α)(k2:Int->Int->Bool->Op α):Op α:=
 a α b c d
 (fun h i j=>k1 h i j)
 (fun l m o=>k2 l m o) e g
def J129_0_2 (α:Type)(a b c d e:Int)(k1:Int->Int->Bool->Op α)(k2:Int->Int->Bool->Op α):Op α:=J129_0_2g L129_0_1 α a b c d e k1 k2
def F129_0_2 (v:TJ129_0_2)(α:Type)(K:KT α):I9 (Op α):=fun h i a b j c l m o=>v α a b c m o (fun d e g=>u129_0_2 (K .normal) h i a b j c l d e g) (fun d e g=>u129_0_1 (K .normal) h i a b j c l d e g)
theorem m129_0_2g (b:Tf144_0)(a:TL129_0_1)(α:Type)(K:KT α):F129_0_2 (J129_0_2g a) α K=p129_0_0.unc fun σ=>runM Pg (E129_0g b) sh129 (c129_0_39g a) K σ:=by kernel_rfl
theorem m129_0_2:∀ (α:Type) (K:KT α),F129_0_2 J129_0_2 α K=p129_0_0.unc fun σ=>runM Pg E129_0 sh129 c129_0_39 K σ:=m129_0_2g f144_0 L129_0_1
abbrev Tf129_0:Type 1:=(α:Type)->Int->Int->Int->(Int->Int->Op α)->Op α
def f129_0g (o:TJ129_0_2)(h:TJ129_0_5)(p:Tf144_0)(α:Type)(d c b:Int)(k1:Int->Int->Op α):Op α:=
 cK (b == 0)
 (none)
 (cK (decide (b<=d))
 (none)
 (cK (d == 0)
 (gK (b != 0) (gK (b != 0) (k1 (IntKind.wrap .u64 (Int.tdiv c b)) (Int.tmod c b))))
 (p α b
 (fun a=>gK (decide (0<=(IntKind.wrap .u64 (a)))) (gK (decide (0<=(IntKind.wrap .u64 (a)))) (gK (decide (0<=(IntKind.wrap .u64 (64 - (IntKind.wrap .u64 (a)))))) (gK (decide (0<=(IntKind.wrap .u64 (a)))) (gK ((Int.fdiv (IntKind.wrap .u64 (b*2 ^ (min (Int.toNat (IntKind.wrap .u64 (a))) 64))) (2 ^ 32)) != 0) (o α (Int.fdiv (IntKind.wrap .u64 (b*2 ^ (min (Int.toNat (IntKind.wrap .u64 (a))) 64))) (2 ^ 32)) (iAnd .u64 (IntKind.wrap .u64 (b*2 ^ (min (Int.toNat (IntKind.wrap .u64 (a))) 64))) 4294967295) (Int.fdiv (IntKind.wrap .u64 (c*2 ^ (min (Int.toNat (IntKind.wrap .u64 (a))) 64))) (2 ^ 32)) (IntKind.wrap .u64 (Int.tdiv (iOr .u64 (IntKind.wrap .u64 (d*2 ^ (min (Int.toNat (IntKind.wrap .u64 (a))) 64))) (Int.fdiv c (2 ^ (min (Int.toNat (IntKind.wrap .u64 (64 - (IntKind.wrap .u64 (a))))) 64)))) (Int.fdiv (IntKind.wrap .u64 (b*2 ^ (min (Int.toNat (IntKind.wrap .u64 (a))) 64))) (2 ^ 32)))) (IntKind.wrap .u64 ((iOr .u64 (IntKind.wrap .u64 (d*2 ^ (min (Int.toNat (IntKind.wrap .u64 (a))) 64))) (Int.fdiv c (2 ^ (min (Int.toNat (IntKind.wrap .u64 (64 - (IntKind.wrap .u64 (a))))) 64)))) - (IntKind.wrap .u64 ((IntKind.wrap .u64 (Int.tdiv (iOr .u64 (IntKind.wrap .u64 (d*2 ^ (min (Int.toNat (IntKind.wrap .u64 (a))) 64))) (Int.fdiv c (2 ^ (min (Int.toNat (IntKind.wrap .u64 (64 - (IntKind.wrap .u64 (a))))) 64)))) (Int.fdiv (IntKind.wrap .u64 (b*2 ^ (min (Int.toNat (IntKind.wrap .u64 (a))) 64))) (2 ^ 32))))*(Int.fdiv (IntKind.wrap .u64 (b*2 ^ (min (Int.toNat (IntKind.wrap .u64 (a))) 64))) (2 ^ 32))))))
 (fun e q r=>gK ((Int.fdiv (IntKind.wrap .u64 (b*2 ^ (min (Int.toNat (IntKind.wrap .u64 (a))) 64))) (2 ^ 32)) != 0) (h α (Int.fdiv (IntKind.wrap .u64 (b*2 ^ (min (Int.toNat (IntKind.wrap .u64 (a))) 64))) (2 ^ 32)) (iAnd .u64 (IntKind.wrap .u64 (b*2 ^ (min (Int.toNat (IntKind.wrap .u64 (a))) 64))) 4294967295) (iAnd .u64 (IntKind.wrap .u64 (c*2 ^ (min (Int.toNat (IntKind.wrap .u64 (a))) 64))) 4294967295) (IntKind.wrap .u64 ((IntKind.wrap .u64 ((IntKind.wrap .u64 ((IntKind.wrap .u64 ((iOr .u64 (IntKind.wrap .u64 (d*2 ^ (min (Int.toNat (IntKind.wrap .u64 (a))) 64))) (Int.fdiv c (2 ^ (min (Int.toNat (IntKind.wrap .u64 (64 - (IntKind.wrap .u64 (a))))) 64))))*4294967296))+(Int.fdiv (IntKind.wrap .u64 (c*2 ^ (min (Int.toNat (IntKind.wrap .u64 (a))) 64))) (2 ^ 32)))) - (IntKind.wrap .u64 (e*(IntKind.wrap .u64 (b*2 ^ (min (Int.toNat (IntKind.wrap .u64 (a))) 64))))))) - (IntKind.wrap .u64 ((IntKind.wrap .u64 (Int.tdiv (IntKind.wrap .u64 ((IntKind.wrap .u64 ((IntKind.wrap .u64 ((iOr .u64 (IntKind.wrap .u64 (d*2 ^ (min (Int.toNat (IntKind.wrap .u64 (a))) 64))) (Int.fdiv c (2 ^ (min (Int.toNat (IntKind.wrap .u64 (64 - (IntKind.wrap .u64 (a))))) 64))))*4294967296))+(Int.fdiv (IntKind.wrap .u64 (c*2 ^ (min (Int.toNat (IntKind.wrap .u64 (a))) 64))) (2 ^ 32)))) - (IntKind.wrap .u64 (e*(IntKind.wrap .u64 (b*2 ^ (min (Int.toNat (IntKind.wrap .u64 (a))) 64))))))) (Int.fdiv (IntKind.wrap .u64 (b*2 ^ (min (Int.toNat (IntKind.wrap .u64 (a))) 64))) (2 ^ 32))))*(Int.fdiv (IntKind.wrap .u64 (b*2 ^ (min (Int.toNat (IntKind.wrap .u64 (a))) 64))) (2 ^ 32)))))) (IntKind.wrap .u64 (Int.tdiv (IntKind.wrap .u64 ((IntKind.wrap .u64 ((IntKind.wrap .u64 ((iOr .u64 (IntKind.wrap .u64 (d*2 ^ (min (Int.toNat (IntKind.wrap .u64 (a))) 64))) (Int.fdiv c (2 ^ (min (Int.toNat (IntKind.wrap .u64 (64 - (IntKind.wrap .u64 (a))))) 64))))*4294967296))+(Int.fdiv (IntKind.wrap .u64 (c*2 ^ (min (Int.toNat (IntKind.wrap .u64 (a))) 64))) (2 ^ 32)))) - (IntKind.wrap .u64 (e*(IntKind.wrap .u64 (b*2 ^ (min (Int.toNat (IntKind.wrap .u64 (a))) 64))))))) (Int.fdiv (IntKind.wrap .u64 (b*2 ^ (min (Int.toNat (IntKind.wrap .u64 (a))) 64))) (2 ^ 32))))
 (fun s i t=>gK (decide (0<=(IntKind.wrap .u64 (a)))) (k1 (IntKind.wrap .u64 ((IntKind.wrap .u64 (e*4294967296))+i)) (Int.fdiv (IntKind.wrap .u64 ((IntKind.wrap .u64 ((IntKind.wrap .u64 ((IntKind.wrap .u64 ((IntKind.wrap .u64 ((IntKind.wrap .u64 ((iOr .u64 (IntKind.wrap .u64 (d*2 ^ (min (Int.toNat (IntKind.wrap .u64 (a))) 64))) (Int.fdiv c (2 ^ (min (Int.toNat (IntKind.wrap .u64 (64 - (IntKind.wrap .u64 (a))))) 64))))*4294967296))+(Int.fdiv (IntKind.wrap .u64 (c*2 ^ (min (Int.toNat (IntKind.wrap .u64 (a))) 64))) (2 ^ 32)))) - (IntKind.wrap .u64 (e*(IntKind.wrap .u64 (b*2 ^ (min (Int.toNat (IntKind.wrap .u64 (a))) 64)))))))*4294967296))+(iAnd .u64 (IntKind.wrap .u64 (c*2 ^ (min (Int.toNat (IntKind.wrap .u64 (a))) 64))) 4294967295))) - (IntKind.wrap .u64 (i*(IntKind.wrap .u64 (b*2 ^ (min (Int.toNat (IntKind.wrap .u64 (a))) 64))))))) (2 ^ (min (Int.toNat (IntKind.wrap .u64 (a))) 64)))))
 (fun w j z=>gK (decide (0<=(IntKind.wrap .u64 (a)))) (k1 (IntKind.wrap .u64 ((IntKind.wrap .u64 (e*4294967296))+j)) (Int.fdiv (IntKind.wrap .u64 ((IntKind.wrap .u64 ((IntKind.wrap .u64 ((IntKind.wrap .u64 ((IntKind.wrap .u64 ((IntKind.wrap .u64 ((iOr .u64 (IntKind.wrap .u64 (d*2 ^ (min (Int.toNat (IntKind.wrap .u64 (a))) 64))) (Int.fdiv c (2 ^ (min (Int.toNat (IntKind.wrap .u64 (64 - (IntKind.wrap .u64 (a))))) 64))))*4294967296))+(Int.fdiv (IntKind.wrap .u64 (c*2 ^ (min (Int.toNat (IntKind.wrap .u64 (a))) 64))) (2 ^ 32)))) - (IntKind.wrap .u64 (e*(IntKind.wrap .u64 (b*2 ^ (min (Int.toNat (IntKind.wrap .u64 (a))) 64)))))))*4294967296))+(iAnd .u64 (IntKind.wrap .u64 (c*2 ^ (min (Int.toNat (IntKind.wrap .u64 (a))) 64))) 4294967295))) - (IntKind.wrap .u64 (j*(IntKind.wrap .u64 (b*2 ^ (min (Int.toNat (IntKind.wrap .u64 (a))) 64))))))) (2 ^ (min (Int.toNat (IntKind.wrap .u64 (a))) 64)))))))
 (fun g A B=>gK ((Int.fdiv (IntKind.wrap .u64 (b*2 ^ (min (Int.toNat (IntKind.wrap .u64 (a))) 64))) (2 ^ 32)) != 0) (h α (Int.fdiv (IntKind.wrap .u64 (b*2 ^ (min (Int.toNat (IntKind.wrap .u64 (a))) 64))) (2 ^ 32)) (iAnd .u64 (IntKind.wrap .u64 (b*2 ^ (min (Int.toNat (IntKind.wrap .u64 (a))) 64))) 4294967295) (iAnd .u64 (IntKind.wrap .u64 (c*2 ^ (min (Int.toNat (IntKind.wrap .u64 (a))) 64))) 4294967295) (IntKind.wrap .u64 ((IntKind.wrap .u64 ((IntKind.wrap .u64 ((IntKind.wrap .u64 ((iOr .u64 (IntKind.wrap .u64 (d*2 ^ (min (Int.toNat (IntKind.wrap .u64 (a))) 64))) (Int.fdiv c (2 ^ (min (Int.toNat (IntKind.wrap .u64 (64 - (IntKind.wrap .u64 (a))))) 64))))*4294967296))+(Int.fdiv (IntKind.wrap .u64 (c*2 ^ (min (Int.toNat (IntKind.wrap .u64 (a))) 64))) (2 ^ 32)))) - (IntKind.wrap .u64 (g*(IntKind.wrap .u64 (b*2 ^ (min (Int.toNat (IntKind.wrap .u64 (a))) 64))))))) - (IntKind.wrap .u64 ((IntKind.wrap .u64 (Int.tdiv (IntKind.wrap .u64 ((IntKind.wrap .u64 ((IntKind.wrap .u64 ((iOr .u64 (IntKind.wrap .u64 (d*2 ^ (min (Int.toNat (IntKind.wrap .u64 (a))) 64))) (Int.fdiv c (2 ^ (min (Int.toNat (IntKind.wrap .u64 (64 - (IntKind.wrap .u64 (a))))) 64))))*4294967296))+(Int.fdiv (IntKind.wrap .u64 (c*2 ^ (min (Int.toNat (IntKind.wrap .u64 (a))) 64))) (2 ^ 32)))) - (IntKind.wrap .u64 (g*(IntKind.wrap .u64 (b*2 ^ (min (Int.toNat (IntKind.wrap .u64 (a))) 64))))))) (Int.fdiv (IntKind.wrap .u64 (b*2 ^ (min (Int.toNat (IntKind.wrap .u64 (a))) 64))) (2 ^ 32))))*(Int.fdiv (IntKind.wrap .u64 (b*2 ^ (min (Int.toNat (IntKind.wrap .u64 (a))) 64))) (2 ^ 32)))))) (IntKind.wrap .u64 (Int.tdiv (IntKind.wrap .u64 ((IntKind.wrap .u64 ((IntKind.wrap .u64 ((iOr .u64 (IntKind.wrap .u64 (d*2 ^ (min (Int.toNat (IntKind.wrap .u64 (a))) 64))) (Int.fdiv c (2 ^ (min (Int.toNat (IntKind.wrap .u64 (64 - (IntKind.wrap .u64 (a))))) 64))))*4294967296))+(Int.fdiv (IntKind.wrap .u64 (c*2 ^ (min (Int.toNat (IntKind.wrap .u64 (a))) 64))) (2 ^ 32)))) - (IntKind.wrap .u64 (g*(IntKind.wrap .u64 (b*2 ^ (min (Int.toNat (IntKind.wrap .u64 (a))) 64))))))) (Int.fdiv (IntKind.wrap .u64 (b*2 ^ (min (Int.toNat (IntKind.wrap .u64 (a))) 64))) (2 ^ 32))))
 (fun C l D=>gK (decide (0<=(IntKind.wrap .u64 (a)))) (k1 (IntKind.wrap .u64 ((IntKind.wrap .u64 (g*4294967296))+l)) (Int.fdiv (IntKind.wrap .u64 ((IntKind.wrap .u64 ((IntKind.wrap .u64 ((IntKind.wrap .u64 ((IntKind.wrap .u64 ((IntKind.wrap .u64 ((iOr .u64 (IntKind.wrap .u64 (d*2 ^ (min (Int.toNat (IntKind.wrap .u64 (a))) 64))) (Int.fdiv c (2 ^ (min (Int.toNat (IntKind.wrap .u64 (64 - (IntKind.wrap .u64 (a))))) 64))))*4294967296))+(Int.fdiv (IntKind.wrap .u64 (c*2 ^ (min (Int.toNat (IntKind.wrap .u64 (a))) 64))) (2 ^ 32)))) - (IntKind.wrap .u64 (g*(IntKind.wrap .u64 (b*2 ^ (min (Int.toNat (IntKind.wrap .u64 (a))) 64)))))))*4294967296))+(iAnd .u64 (IntKind.wrap .u64 (c*2 ^ (min (Int.toNat (IntKind.wrap .u64 (a))) 64))) 4294967295))) - (IntKind.wrap .u64 (l*(IntKind.wrap .u64 (b*2 ^ (min (Int.toNat (IntKind.wrap .u64 (a))) 64))))))) (2 ^ (min (Int.toNat (IntKind.wrap .u64 (a))) 64)))))
 (fun F m G=>gK (decide (0<=(IntKind.wrap .u64 (a)))) (k1 (IntKind.wrap .u64 ((IntKind.wrap .u64 (g*4294967296))+m)) (Int.fdiv (IntKind.wrap .u64 ((IntKind.wrap .u64 ((IntKind.wrap .u64 ((IntKind.wrap .u64 ((IntKind.wrap .u64 ((IntKind.wrap .u64 ((iOr .u64 (IntKind.wrap .u64 (d*2 ^ (min (Int.toNat (IntKind.wrap .u64 (a))) 64))) (Int.fdiv c (2 ^ (min (Int.toNat (IntKind.wrap .u64 (64 - (IntKind.wrap .u64 (a))))) 64))))*4294967296))+(Int.fdiv (IntKind.wrap .u64 (c*2 ^ (min (Int.toNat (IntKind.wrap .u64 (a))) 64))) (2 ^ 32)))) - (IntKind.wrap .u64 (g*(IntKind.wrap .u64 (b*2 ^ (min (Int.toNat (IntKind.wrap .u64 (a))) 64)))))))*4294967296))+(iAnd .u64 (IntKind.wrap .u64 (c*2 ^ (min (Int.toNat (IntKind.wrap .u64 (a))) 64))) 4294967295))) - (IntKind.wrap .u64 (m*(IntKind.wrap .u64 (b*2 ^ (min (Int.toNat (IntKind.wrap .u64 (a))) 64))))))) (2 ^ (min (Int.toNat (IntKind.wrap .u64 (a))) 64))))))))))))))))
def f129_0 (α:Type)(a b c:Int)(k1:Int->Int->Op α):Op α:=f129_0g J129_0_2 J129_0_5 f144_0 α a b c k1
def pa129_0:PT (List DV):=pA [pV false [(dI .u64)],pV false [(dI .u64)],pV false [(dI .u64)]]
def Fn129_0 (v:Tf129_0)(α:Type)(k:RT α):Int->Int->Int->Op α:=fun a b c=>v α a b c (fun d e=>ur129_0_0 k d e)
def cm129_0g (a:TJ129_0_2)(b:TJ129_0_5):MCode:=(MCode.put (.m [⟨p129_0_0,F129_0_2 a⟩]) [1,1,1,1,1,1,1,1,1,1,1,1,1,1] (MCode.put (.m [⟨p129_0_0,F129_0_1 L129_0_1⟩]) [1,1,1,1,1,1,1,1,1,1,1,1,1,1,0,0] (MCode.put (.m [⟨p129_0_0,F129_0_0 J129_0_0⟩]) [1,1,1,1,1,1,1,1,1,1,1,1,1,1,0,0,0] (MCode.put (.m [⟨p129_0_3,F129_0_5 b⟩]) [1,1,1,1,1,1,1,1,1,1,1,1,1,1,1,1,1,1] (MCode.put (.m [⟨p129_0_3,F129_0_4 L129_0_4⟩]) [1,1,1,1,1,1,1,1,1,1,1,1,1,1,1,1,1,1,0,0] (MCode.put (.m [⟨p129_0_3,F129_0_3 J129_0_3⟩]) [1,1,1,1,1,1,1,1,1,1,1,1,1,1,1,1,1,1,0,0,0] (emb ac129)))))))
def cm129_0:MCode:=cm129_0g J129_0_2 J129_0_5
theorem gm129_0:cm129_0.Good Pg E129_0 sh129:=(put_seq (by kernel_rfl) (put_loop (td:=td129_41) (by kernel_rfl) (put_seq (by kernel_rfl) (put_seq (by kernel_rfl) (put_loop (td:=td129_62) (by kernel_rfl) (put_seq (by kernel_rfl) (emb_good ac129) ⟨m129_0_3,TT⟩) ⟨m129_0_4,TT⟩) ⟨m129_0_5,TT⟩) ⟨m129_0_0,TT⟩) ⟨m129_0_1,TT⟩) ⟨m129_0_2,TT⟩)
theorem em129_0:cm129_0.erase=ac129:=((put_erase _ _).trans ((put_erase _ _).trans ((put_erase _ _).trans ((put_erase _ _).trans ((put_erase _ _).trans ((put_erase _ _).trans (emb_erase _)))))))
theorem fm129_0g (a:Tf144_0)(b:TJ129_0_2)(c:TJ129_0_5)(α:Type)(k:RT α):Fn129_0 (f129_0g b c a) α k=pa129_0.unc fun ds=>fnM Pg (E129_0g a) sh129 (cm129_0g b c) rs129 k ds:=by kernel_rfl
theorem fm129_0:∀ (α:Type) (k:RT α),Fn129_0 f129_0 α k=pa129_0.unc fun ds=>fnM Pg E129_0 sh129 cm129_0 rs129 k ds:=fm129_0g f144_0 J129_0_2 J129_0_5
theorem is129:FnIs Pg 129 nt129 tr129 tl129 ac129 rs129:=codeF_is Tryz.func129 (by kernel_rfl)
theorem io129_0:InstOk Pg 129 nt129 ⟨pa129_0,Fn129_0 f129_0⟩:=inst_ok eo129_0 followsTry is129 ⟨⟨sh129,cm129_0,em129_0,gm129_0,fm129_0⟩⟩
abbrev nt93:Nat:=6
def sh93:SG:=[(3,iS 2)]
def tr93:TG:=[tT 0 [1],tT 1 [2]]
def tl93:TG:=[]
def ac93:ACode:=codeF Pg Tryz.f93 tr93 tl93
def rs93:List AResV:=resF Pg Tryz.f93
def pr93_0_0:PT (List RV):=pRs [wI]
def ur93_0_0 {β:Type}(g:List RV->β):Int->β:=pr93_0_0.unc g
def E93_0g (a:Tf120_0)(b:Tf95_0):EnvK:=EnvK.of [⟨120,nt120,[⟨pa120_0,Fn120_0 a⟩]⟩,⟨95,nt95,[⟨pa95_0,Fn95_0 b⟩]⟩] noSeq
def E93_0:EnvK:=E93_0g f120_0 f95_0
theorem eo93_0:E93_0.Ok Pg:=EnvK.of_ok noSeq_ok ⟨⟨io120_0,TT⟩,⟨io95_0,TT⟩,TT⟩
abbrev Tf93_0:Type 1:=(α:Type)->Int->Int->(Int->Op α)->Op α
def f93_0g (a:Tf120_0)(b:Tf95_0)(α:Type)(c d:Int)(k1:Int->Op α):Op α:=
 a α c d
 (fun e=>b α e
 (fun g=>k1 g))
def f93_0 (α:Type)(a b:Int)(k1:Int->Op α):Op α:=f93_0g f120_0 f95_0 α a b k1
def pa93_0:PT (List DV):=pA [pV true [(dI .i64),(dI .i64)]]
def Fn93_0 (v:Tf93_0)(α:Type)(k:RT α):Int->Int->Op α:=fun a b=>v α a b (fun c=>ur93_0_0 k c)
def cm93_0g:MCode:=(emb ac93)
def cm93_0:MCode:=cm93_0g
theorem gm93_0:cm93_0.Good Pg E93_0 sh93:=(emb_good ac93)
theorem em93_0:cm93_0.erase=ac93:=(emb_erase _)
theorem fm93_0g (a:Tf120_0)(b:Tf95_0)(α:Type)(k:RT α):Fn93_0 (f93_0g a b) α k=pa93_0.unc fun ds=>fnM Pg (E93_0g a b) sh93 (cm93_0g ) rs93 k ds:=by kernel_rfl
theorem fm93_0:∀ (α:Type) (k:RT α),Fn93_0 f93_0 α k=pa93_0.unc fun ds=>fnM Pg E93_0 sh93 cm93_0 rs93 k ds:=fm93_0g f120_0 f95_0
theorem is93:FnIs Pg 93 nt93 tr93 tl93 ac93 rs93:=codeF_is Tryz.func93 (by kernel_rfl)
theorem io93_0:InstOk Pg 93 nt93 ⟨pa93_0,Fn93_0 f93_0⟩:=inst_ok eo93_0 followsTry is93 ⟨⟨sh93,cm93_0,em93_0,gm93_0,fm93_0⟩⟩
abbrev nt98:Nat:=14
def sh98:SG:=[]
def tr98:TG:=[tT 0 [0],tT 1 [0,3],tT 2 [3,10],tT 3 [3],tT 4 [2]]
def tl98:TG:=[]
def ac98:ACode:=codeF Pg Tryz.f98 tr98 tl98
def rs98:List AResV:=resF Pg Tryz.f98
def pr98_0_0:PT (List RV):=pRs [wI]
def ur98_0_0 {β:Type}(g:List RV->β):Int->β:=pr98_0_0.unc g
def E98_0g (a:Tf95_0):EnvK:=EnvK.of [⟨95,nt95,[⟨pa95_0,Fn95_0 a⟩]⟩] noSeq
def E98_0:EnvK:=E98_0g f95_0
theorem eo98_0:E98_0.Ok Pg:=EnvK.of_ok noSeq_ok ⟨⟨io95_0,TT⟩,TT⟩
abbrev Tf98_0:Type 1:=(α:Type)->Int->(Int->Op α)->Op α
def f98_0g (c:Tf95_0)(α:Type)(b:Int)(k1:Int->Op α):Op α:=
 c α b
 (fun a=>cK (decide ((w64 (a*a)) < b))
 (k1 (w64 (a+1)))
 (k1 a))
def f98_0 (α:Type)(a:Int)(k1:Int->Op α):Op α:=f98_0g f95_0 α a k1
def pa98_0:PT (List DV):=pA [vI]
def Fn98_0 (v:Tf98_0)(α:Type)(k:RT α):Int->Op α:=fun a=>v α a (fun b=>ur98_0_0 k b)
def cm98_0g:MCode:=(emb ac98)
def cm98_0:MCode:=cm98_0g
theorem gm98_0:cm98_0.Good Pg E98_0 sh98:=(emb_good ac98)
theorem em98_0:cm98_0.erase=ac98:=(emb_erase _)
theorem fm98_0g (a:Tf95_0)(α:Type)(k:RT α):Fn98_0 (f98_0g a) α k=pa98_0.unc fun ds=>fnM Pg (E98_0g a) sh98 (cm98_0g ) rs98 k ds:=by kernel_rfl
theorem fm98_0:∀ (α:Type) (k:RT α),Fn98_0 f98_0 α k=pa98_0.unc fun ds=>fnM Pg E98_0 sh98 cm98_0 rs98 k ds:=fm98_0g f95_0
theorem is98:FnIs Pg 98 nt98 tr98 tl98 ac98 rs98:=codeF_is Tryz.func98 (by kernel_rfl)
theorem io98_0:InstOk Pg 98 nt98 ⟨pa98_0,Fn98_0 f98_0⟩:=inst_ok eo98_0 followsTry is98 ⟨⟨sh98,cm98_0,em98_0,gm98_0,fm98_0⟩⟩
abbrev nt125:Nat:=19
def sh125:SG:=[(5,iT),(8,iS 3),(10,iS 2),(11,iT),(17,iT)]
def tr125:TG:=[tT 0 [1,2,3],tT 1 [1,2,3,7],tT 2 [3,4],tT 3 [3,4]]
def tl125:TG:=[]
def ac125:ACode:=codeF Pg Tryz.f125 tr125 tl125
def rs125:List AResV:=resF Pg Tryz.f125
def pr125_0_0:PT (List RV):=pRs [pR true [rD (dI .i64),rD (dI .i64),rD (dI .i64)],wI]
def ur125_0_0 {β:Type}(g:List RV->β):I4 β:=pr125_0_0.unc g
def E125_0g (a:Tf94_0)(b:Tf126_0):EnvK:=EnvK.of [⟨94,nt94,[⟨pa94_0,Fn94_0 a⟩]⟩,⟨126,nt126,[⟨pa126_0,Fn126_0 b⟩]⟩] noSeq
def E125_0:EnvK:=E125_0g f94_0 f126_0
theorem eo125_0:E125_0.Ok Pg:=EnvK.of_ok noSeq_ok ⟨⟨io94_0,TT⟩,⟨io126_0,TT⟩,TT⟩
abbrev Tf125_0:Type 1:=(α:Type)->Int->Int->Int->(Int->Int->Int->Op α)->Op α
def f125_0g (d:Tf126_0)(e:Tf94_0)(α:Type)(a b c:Int)(k1:Int->Int->Int->Op α):Op α:=
 e α c 1000000000
 (fun g=>cK (!g)
 (k1 a b 2)
 (d α a b (Int.tmod (w64 ((Int.tmod c 4)+4)) 4)
 (fun h i=>k1 h i 0)))
def f125_0 (α:Type)(a b c:Int)(k1:Int->Int->Int->Op α):Op α:=f125_0g f126_0 f94_0 α a b c k1
def pa125_0:PT (List DV):=pA [pV true [(dI .i64),(dI .i64),(dI .i64)],pV false [(dP [(dI .i64)] 0)]]
def Fn125_0 (v:Tf125_0)(α:Type)(k:RT α):I4 (Op α):=fun a b c d=>v α a b d (fun e g h=>ur125_0_0 k e g c h)
def cm125_0g:MCode:=(emb ac125)
def cm125_0:MCode:=cm125_0g
theorem gm125_0:cm125_0.Good Pg E125_0 sh125:=(emb_good ac125)
theorem em125_0:cm125_0.erase=ac125:=(emb_erase _)
theorem fm125_0g (a:Tf94_0)(b:Tf126_0)(α:Type)(k:RT α):Fn125_0 (f125_0g b a) α k=pa125_0.unc fun ds=>fnM Pg (E125_0g a b) sh125 (cm125_0g ) rs125 k ds:=by kernel_rfl
theorem fm125_0:∀ (α:Type) (k:RT α),Fn125_0 f125_0 α k=pa125_0.unc fun ds=>fnM Pg E125_0 sh125 cm125_0 rs125 k ds:=fm125_0g f94_0 f126_0
theorem is125:FnIs Pg 125 nt125 tr125 tl125 ac125 rs125:=codeF_is Tryz.func125 (by kernel_rfl)
theorem io125_0:InstOk Pg 125 nt125 ⟨pa125_0,Fn125_0 f125_0⟩:=inst_ok eo125_0 followsTry is125 ⟨⟨sh125,cm125_0,em125_0,gm125_0,fm125_0⟩⟩
abbrev nt130:Nat:=12
def sh130:SG:=[]
def tr130:TG:=[tT 0 [0],tT 1 [2]]
def tl130:TG:=[]
def ac130:ACode:=codeF Pg Tryz.f130 tr130 tl130
def rs130:List AResV:=resF Pg Tryz.f130
def pr130_0_0:PT (List RV):=pRs [pR false [rD dB]]
def ur130_0_0 {β:Type}(g:List RV->β):Bool->β:=pr130_0_0.unc g
def E130_0g (a:Tf145_0)(b:Tf146_0):EnvK:=EnvK.of [⟨145,nt145,[⟨pa145_0,Fn145_0 a⟩]⟩,⟨146,nt146,[⟨pa146_0,Fn146_0 b⟩]⟩] noSeq
def E130_0:EnvK:=E130_0g f145_0 f146_0
theorem eo130_0:E130_0.Ok Pg:=EnvK.of_ok noSeq_ok ⟨⟨io145_0,TT⟩,⟨io146_0,TT⟩,TT⟩
abbrev Tf130_0:Type 1:=(α:Type)->Nat->(Bool->Op α)->Op α
def f130_0g (b:Tf145_0)(c:Tf146_0)(α:Type)(a:Nat)(k1:Bool->Op α):Op α:=
 b α a
 (k1 false)
 (fun d=>cK ((FloatKind.format .f64).order d a == some Ordering.eq)
 (c α a 0
 (fun e=>k1 (!e)))
 (k1 false))
def f130_0 (α:Type)(a:Nat)(k1:Bool->Op α):Op α:=f130_0g f145_0 f146_0 α a k1
def pa130_0:PT (List DV):=pA [pV false [(dF .f64)]]
def Fn130_0 (v:Tf130_0)(α:Type)(k:RT α):Nat->Op α:=fun a=>v α a (fun b=>ur130_0_0 k b)
def cm130_0g:MCode:=(emb ac130)
def cm130_0:MCode:=cm130_0g
theorem gm130_0:cm130_0.Good Pg E130_0 sh130:=(emb_good ac130)
theorem em130_0:cm130_0.erase=ac130:=(emb_erase _)
theorem fm130_0g (a:Tf145_0)(b:Tf146_0)(α:Type)(k:RT α):Fn130_0 (f130_0g a b) α k=pa130_0.unc fun ds=>fnM Pg (E130_0g a b) sh130 (cm130_0g ) rs130 k ds:=by kernel_rfl
theorem fm130_0:∀ (α:Type) (k:RT α),Fn130_0 f130_0 α k=pa130_0.unc fun ds=>fnM Pg E130_0 sh130 cm130_0 rs130 k ds:=fm130_0g f145_0 f146_0
theorem is130:FnIs Pg 130 nt130 tr130 tl130 ac130 rs130:=codeF_is Tryz.func130 (by kernel_rfl)
theorem io130_0:InstOk Pg 130 nt130 ⟨pa130_0,Fn130_0 f130_0⟩:=inst_ok eo130_0 followsTry is130 ⟨⟨sh130,cm130_0,em130_0,gm130_0,fm130_0⟩⟩
abbrev nt127:Nat:=29
def sh127:SG:=[(6,iT),(12,iT),(18,iT),(24,iS 2),(27,iT)]
def tr127:TG:=[tT 0 [1,2],tT 1 [1,2,21],tT 2 [2,3],tT 3 [2,3]]
def tl127:TG:=[]
def ac127:ACode:=codeF Pg Tryz.f127 tr127 tl127
def rs127:List AResV:=resF Pg Tryz.f127
def p127_0_0:PT St:=pS [sP 1,sP 2] [eBox 1 (xs 3),eBox 2 [(cD (dX .f64)),xI]]
def u127_0_0 {β:Type}(g:St->β):Int->Int->Int->Nat->Nat->Int->β:=p127_0_0.unc g
def p127_0_1:PT St:=pS [sP 1,sP 2,sY 21 dB] [eBox 1 (xs 3),eBox 2 [(cD (dX .f64)),xI]]
def u127_0_1 {β:Type}(g:St->β):Bool->Int->Int->Int->Nat->Nat->Int->β:=p127_0_1.unc g
def pr127_0_0:PT (List RV):=pRs [pR true [rD (dX .f64),rD (dI .i64)],wI]
def ur127_0_0 {β:Type}(g:List RV->β):Nat->Nat->Int->Int->β:=pr127_0_0.unc g
def E127_0g (a:Tf94_0)(b:Tf100_0)(c:Tf143_0):EnvK:=EnvK.of [⟨94,nt94,[⟨pa94_0,Fn94_0 a⟩]⟩,⟨100,nt100,[⟨pa100_0,Fn100_0 b⟩]⟩,⟨143,nt143,[⟨pa143_0,Fn143_0 c⟩]⟩] noSeq
def E127_0:EnvK:=E127_0g f94_0 f100_0 f143_0
theorem eo127_0:E127_0.Ok Pg:=EnvK.of_ok noSeq_ok ⟨⟨io94_0,TT⟩,⟨io100_0,TT⟩,⟨io143_0,TT⟩,TT⟩
def c127_0_4g:MCode:=MCode.sub [1,0,0] (emb ac127)
def c127_0_4:MCode:=c127_0_4g
abbrev TJ127_0_0:Type 1:=(α:Type)->Int->Int->Int->(Bool->Op α)->Op α
def J127_0_0g (b:Tf100_0)(a:Tf94_0)(α:Type)(c d e:Int)(k1:Bool->Op α):Op α:=
 a α c 67108864
 (fun g=>cK (!g)
 (k1 true)
 (a α d 67108864
 (fun h=>cK (!h)
 (k1 true)
 (b α e 0 67108864
 (fun i=>k1 (!i))))))
def J127_0_0 (α:Type)(a b c:Int)(k1:Bool->Op α):Op α:=J127_0_0g f100_0 f94_0 α a b c k1
def F127_0_0 (v:TJ127_0_0)(α:Type)(K:KT α):Int->Int->Int->Nat->Nat->Int->Op α:=fun a b c d e g=>v α a b c (fun h=>u127_0_1 (K .normal) h a b c d e g)
theorem m127_0_0g (a:Tf94_0)(b:Tf100_0)(c:Tf143_0)(α:Type)(K:KT α):F127_0_0 (J127_0_0g b a) α K=p127_0_0.unc fun σ=>runM Pg (E127_0g a b c) sh127 (c127_0_4g ) K σ:=by kernel_rfl
theorem m127_0_0:∀ (α:Type) (K:KT α),F127_0_0 J127_0_0 α K=p127_0_0.unc fun σ=>runM Pg E127_0 sh127 c127_0_4 K σ:=m127_0_0g f94_0 f100_0 f143_0
abbrev Tf127_0:Type 1:=(α:Type)->Int->Int->Int->(Nat->Nat->Int->Int->Op α)->Op α
def f127_0g (d:TJ127_0_0)(e:Tf143_0)(α:Type)(a b c:Int)(k1:Nat->Nat->Int->Int->Op α):Op α:=
 d α a b c
 (fun g=>cK g
 (k1 0 0 0 8)
 (e α a b
 (fun h i=>k1 h i c 0)))
def f127_0 (α:Type)(a b c:Int)(k1:Nat->Nat->Int->Int->Op α):Op α:=f127_0g J127_0_0 f143_0 α a b c k1
def pa127_0:PT (List DV):=pA [pV true [(dI .i64),(dI .i64),(dI .i64)]]
def Fn127_0 (v:Tf127_0)(α:Type)(k:RT α):Int->Int->Int->Op α:=fun a b c=>v α a b c (fun d e g h=>ur127_0_0 k d e g h)
def cm127_0g (a:TJ127_0_0):MCode:=(MCode.put (.m [⟨p127_0_0,F127_0_0 a⟩]) [1,0] (emb ac127))
def cm127_0:MCode:=cm127_0g J127_0_0
theorem gm127_0:cm127_0.Good Pg E127_0 sh127:=(put_seq (by kernel_rfl) (emb_good ac127) ⟨m127_0_0,TT⟩)
theorem em127_0:cm127_0.erase=ac127:=((put_erase _ _).trans (emb_erase _))
theorem fm127_0g (c:Tf94_0)(d:Tf100_0)(a:Tf143_0)(b:TJ127_0_0)(α:Type)(k:RT α):Fn127_0 (f127_0g b a) α k=pa127_0.unc fun ds=>fnM Pg (E127_0g c d a) sh127 (cm127_0g b) rs127 k ds:=by kernel_rfl
theorem fm127_0:∀ (α:Type) (k:RT α),Fn127_0 f127_0 α k=pa127_0.unc fun ds=>fnM Pg E127_0 sh127 cm127_0 rs127 k ds:=fm127_0g f94_0 f100_0 f143_0 J127_0_0
theorem is127:FnIs Pg 127 nt127 tr127 tl127 ac127 rs127:=codeF_is Tryz.func127 (by kernel_rfl)
theorem io127_0:InstOk Pg 127 nt127 ⟨pa127_0,Fn127_0 f127_0⟩:=inst_ok eo127_0 followsTry is127 ⟨⟨sh127,cm127_0,em127_0,gm127_0,fm127_0⟩⟩
abbrev nt71:Nat:=24
def sh71:SG:=[(8,iT),(14,iT),(20,iT),(22,iT)]
def tr71:TG:=[tT 0 [1,2],tT 1 [2,5],tT 2 [4],tT 3 [18],tT 4 [4],tT 5 [4]]
def tl71:TG:=[]
def ac71:ACode:=codeF Pg Tryz.f71 tr71 tl71
def rs71:List AResV:=resF Pg Tryz.f71
def p71_0_0:PT St:=pS [sY 1 (dFn 72 []),sP 2] [eBox 2 [xI,xI]]
def u71_0_0 {β:Type}(g:St->β):Int->Int->β:=p71_0_0.unc g
def p71_0_1:PT St:=pS [sP 2,sY 5 dB] [eBox 2 [xI,xI]]
def u71_0_1 {β:Type}(g:St->β):Bool->Int->Int->β:=p71_0_1.unc g
def pr71_0_0:PT (List RV):=pRs [wI]
def ur71_0_0 {β:Type}(g:List RV->β):Int->β:=pr71_0_0.unc g
def E71_0g (a:Tf72_0):EnvK:=EnvK.of [⟨72,nt72,[⟨pa72_0,Fn72_0 a⟩]⟩] noSeq
def E71_0:EnvK:=E71_0g f72_0
theorem eo71_0:E71_0.Ok Pg:=EnvK.of_ok noSeq_ok ⟨⟨io72_0,TT⟩,TT⟩
def c71_0_5g:MCode:=MCode.sub [1,0,0,0] (emb ac71)
def c71_0_5:MCode:=c71_0_5g
abbrev TJ71_0_0:Type 1:=(α:Type)->Int->Int->(Bool->Op α)->Op α
def J71_0_0g (a:Tf72_0)(α:Type)(b c:Int)(k1:Bool->Op α):Op α:=
 a α b
 (fun d=>cK (!d)
 (k1 true)
 (a α c
 (fun e=>k1 (!e))))
def J71_0_0 (α:Type)(a b:Int)(k1:Bool->Op α):Op α:=J71_0_0g f72_0 α a b k1
def F71_0_0 (v:TJ71_0_0)(α:Type)(K:KT α):Int->Int->Op α:=fun a b=>v α a b (fun c=>u71_0_1 (K .normal) c a b)
theorem m71_0_0g (a:Tf72_0)(α:Type)(K:KT α):F71_0_0 (J71_0_0g a) α K=p71_0_0.unc fun σ=>runM Pg (E71_0g a) sh71 (c71_0_5g ) K σ:=by kernel_rfl
theorem m71_0_0:∀ (α:Type) (K:KT α),F71_0_0 J71_0_0 α K=p71_0_0.unc fun σ=>runM Pg E71_0 sh71 c71_0_5 K σ:=m71_0_0g f72_0
abbrev Tf71_0:Type 1:=(α:Type)->Int->Int->(Int->Op α)->Op α
def f71_0g (c:TJ71_0_0)(α:Type)(a b:Int)(k1:Int->Op α):Op α:=
 c α a b
 (fun d=>cK d
 (k1 2)
 (cK (decide (b < a))
 (k1 10)
 (k1 0)))
def f71_0 (α:Type)(a b:Int)(k1:Int->Op α):Op α:=f71_0g J71_0_0 α a b k1
def pa71_0:PT (List DV):=pA [pV true [(dI .i64),(dI .i64)],pV false [(dFn 72 [])]]
def Fn71_0 (v:Tf71_0)(α:Type)(k:RT α):Int->Int->Op α:=fun a b=>v α a b (fun c=>ur71_0_0 k c)
def cm71_0g (a:TJ71_0_0):MCode:=(MCode.put (.m [⟨p71_0_0,F71_0_0 a⟩]) [1,0,0] (emb ac71))
def cm71_0:MCode:=cm71_0g J71_0_0
theorem gm71_0:cm71_0.Good Pg E71_0 sh71:=(put_seq (by kernel_rfl) (emb_good ac71) ⟨m71_0_0,TT⟩)
theorem em71_0:cm71_0.erase=ac71:=((put_erase _ _).trans (emb_erase _))
theorem fm71_0g (b:Tf72_0)(a:TJ71_0_0)(α:Type)(k:RT α):Fn71_0 (f71_0g a) α k=pa71_0.unc fun ds=>fnM Pg (E71_0g b) sh71 (cm71_0g a) rs71 k ds:=by kernel_rfl
theorem fm71_0:∀ (α:Type) (k:RT α),Fn71_0 f71_0 α k=pa71_0.unc fun ds=>fnM Pg E71_0 sh71 cm71_0 rs71 k ds:=fm71_0g f72_0 J71_0_0
theorem is71:FnIs Pg 71 nt71 tr71 tl71 ac71 rs71:=codeF_is Tryz.func71 (by kernel_rfl)
theorem io71_0:InstOk Pg 71 nt71 ⟨pa71_0,Fn71_0 f71_0⟩:=inst_ok eo71_0 followsTry is71 ⟨⟨sh71,cm71_0,em71_0,gm71_0,fm71_0⟩⟩
def p71_1_0:PT St:=pS [sY 1 (dFn 74 []),sP 2] [eBox 2 [xI,xI]]
def u71_1_0 {β:Type}(g:St->β):Int->Int->β:=p71_1_0.unc g
def p71_1_1:PT St:=pS [sP 2,sY 5 dB] [eBox 2 [xI,xI]]
def u71_1_1 {β:Type}(g:St->β):Bool->Int->Int->β:=p71_1_1.unc g
def pr71_1_0:PT (List RV):=pRs [wI]
def ur71_1_0 {β:Type}(g:List RV->β):Int->β:=pr71_1_0.unc g
def E71_1g (a:Tf74_0):EnvK:=EnvK.of [⟨74,nt74,[⟨pa74_0,Fn74_0 a⟩]⟩] noSeq
def E71_1:EnvK:=E71_1g f74_0
theorem eo71_1:E71_1.Ok Pg:=EnvK.of_ok noSeq_ok ⟨⟨io74_0,TT⟩,TT⟩
def c71_1_5g:MCode:=MCode.sub [1,0,0,0] (emb ac71)
def c71_1_5:MCode:=c71_1_5g
abbrev TJ71_1_0:Type 1:=(α:Type)->Int->Int->(Bool->Op α)->Op α
def J71_1_0g (a:Tf74_0)(α:Type)(b c:Int)(k1:Bool->Op α):Op α:=
 a α b
 (fun d=>cK (!d)
 (k1 true)
 (a α c
 (fun e=>k1 (!e))))
def J71_1_0 (α:Type)(a b:Int)(k1:Bool->Op α):Op α:=J71_1_0g f74_0 α a b k1
def F71_1_0 (v:TJ71_1_0)(α:Type)(K:KT α):Int->Int->Op α:=fun a b=>v α a b (fun c=>u71_1_1 (K .normal) c a b)
theorem m71_1_0g (a:Tf74_0)(α:Type)(K:KT α):F71_1_0 (J71_1_0g a) α K=p71_1_0.unc fun σ=>runM Pg (E71_1g a) sh71 (c71_1_5g ) K σ:=by kernel_rfl
theorem m71_1_0:∀ (α:Type) (K:KT α),F71_1_0 J71_1_0 α K=p71_1_0.unc fun σ=>runM Pg E71_1 sh71 c71_1_5 K σ:=m71_1_0g f74_0
abbrev Tf71_1:Type 1:=(α:Type)->Int->Int->(Int->Op α)->Op α
def f71_1g (c:TJ71_1_0)(α:Type)(a b:Int)(k1:Int->Op α):Op α:=
 c α a b
 (fun d=>cK d
 (k1 2)
 (cK (decide (b < a))
 (k1 10)
 (k1 0)))
def f71_1 (α:Type)(a b:Int)(k1:Int->Op α):Op α:=f71_1g J71_1_0 α a b k1
def pa71_1:PT (List DV):=pA [pV true [(dI .i64),(dI .i64)],pV false [(dFn 74 [])]]
def Fn71_1 (v:Tf71_1)(α:Type)(k:RT α):Int->Int->Op α:=fun a b=>v α a b (fun c=>ur71_1_0 k c)
def cm71_1g (a:TJ71_1_0):MCode:=(MCode.put (.m [⟨p71_1_0,F71_1_0 a⟩]) [1,0,0] (emb ac71))
def cm71_1:MCode:=cm71_1g J71_1_0
theorem gm71_1:cm71_1.Good Pg E71_1 sh71:=(put_seq (by kernel_rfl) (emb_good ac71) ⟨m71_1_0,TT⟩)
theorem em71_1:cm71_1.erase=ac71:=((put_erase _ _).trans (emb_erase _))
theorem fm71_1g (b:Tf74_0)(a:TJ71_1_0)(α:Type)(k:RT α):Fn71_1 (f71_1g a) α k=pa71_1.unc fun ds=>fnM Pg (E71_1g b) sh71 (cm71_1g a) rs71 k ds:=by kernel_rfl
theorem fm71_1:∀ (α:Type) (k:RT α),Fn71_1 f71_1 α k=pa71_1.unc fun ds=>fnM Pg E71_1 sh71 cm71_1 rs71 k ds:=fm71_1g f74_0 J71_1_0
theorem io71_1:InstOk Pg 71 nt71 ⟨pa71_1,Fn71_1 f71_1⟩:=inst_ok eo71_1 followsTry is71 ⟨⟨sh71,cm71_1,em71_1,gm71_1,fm71_1⟩⟩
abbrev nt21:Nat:=16
def sh21:SG:=[(6,iT),(8,iT),(11,iT),(13,iT)]
def tr21:TG:=[tT 0 [2,3,4],tT 1 [4]]
def tl21:TG:=[]
def ac21:ACode:=codeF Pg Tryz.f21 tr21 tl21
def rs21:List AResV:=resF Pg Tryz.f21
def pr21_0_0:PT (List RV):=pRs [pR true [rD (dI .i64),rD (dI .i64)]]
def ur21_0_0 {β:Type}(g:List RV->β):Int->Int->β:=pr21_0_0.unc g
def E21_0g (a:Tf25_0):EnvK:=EnvK.of [⟨25,nt25,[⟨pa25_0,Fn25_0 a⟩]⟩] noSeq
def E21_0:EnvK:=E21_0g f25_0
theorem eo21_0:E21_0.Ok Pg:=EnvK.of_ok noSeq_ok ⟨⟨io25_0,TT⟩,TT⟩
abbrev Tf21_0:Type 1:=(α:Type)->Int->Int->Int->Int->(Int->Int->Op α)->Op α
def f21_0g (a:Tf25_0)(α:Type)(b c d e:Int)(k1:Int->Int->Op α):Op α:=
 a α (w64 (b*e)) (w64 (c*d))
 (fun g h=>k1 g h)
def f21_0 (α:Type)(a b c d:Int)(k1:Int->Int->Op α):Op α:=f21_0g f25_0 α a b c d k1
def pa21_0:PT (List DV):=pA [pV true [(dI .i64),(dI .i64)],pV true [(dI .i64),(dI .i64)]]
def Fn21_0 (v:Tf21_0)(α:Type)(k:RT α):I4 (Op α):=fun a b c d=>v α a b c d (fun e g=>ur21_0_0 k e g)
def cm21_0g:MCode:=(emb ac21)
def cm21_0:MCode:=cm21_0g
theorem gm21_0:cm21_0.Good Pg E21_0 sh21:=(emb_good ac21)
theorem em21_0:cm21_0.erase=ac21:=(emb_erase _)
theorem fm21_0g (a:Tf25_0)(α:Type)(k:RT α):Fn21_0 (f21_0g a) α k=pa21_0.unc fun ds=>fnM Pg (E21_0g a) sh21 (cm21_0g ) rs21 k ds:=by kernel_rfl
theorem fm21_0:∀ (α:Type) (k:RT α),Fn21_0 f21_0 α k=pa21_0.unc fun ds=>fnM Pg E21_0 sh21 cm21_0 rs21 k ds:=fm21_0g f25_0
theorem is21:FnIs Pg 21 nt21 tr21 tl21 ac21 rs21:=codeF_is Tryz.func21 (by kernel_rfl)
theorem io21_0:InstOk Pg 21 nt21 ⟨pa21_0,Fn21_0 f21_0⟩:=inst_ok eo21_0 followsTry is21 ⟨⟨sh21,cm21_0,em21_0,gm21_0,fm21_0⟩⟩
abbrev nt20:Nat:=16
def sh20:SG:=[(6,iT),(8,iT),(11,iT),(13,iT)]
def tr20:TG:=[tT 0 [2,3,4],tT 1 [4]]
def tl20:TG:=[]
def ac20:ACode:=codeF Pg Tryz.f20 tr20 tl20
def rs20:List AResV:=resF Pg Tryz.f20
def pr20_0_0:PT (List RV):=pRs [pR true [rD (dI .i64),rD (dI .i64)]]
def ur20_0_0 {β:Type}(g:List RV->β):Int->Int->β:=pr20_0_0.unc g
def E20_0g (a:Tf25_0):EnvK:=EnvK.of [⟨25,nt25,[⟨pa25_0,Fn25_0 a⟩]⟩] noSeq
def E20_0:EnvK:=E20_0g f25_0
theorem eo20_0:E20_0.Ok Pg:=EnvK.of_ok noSeq_ok ⟨⟨io25_0,TT⟩,TT⟩
abbrev Tf20_0:Type 1:=(α:Type)->Int->Int->Int->Int->(Int->Int->Op α)->Op α
def f20_0g (a:Tf25_0)(α:Type)(b c d e:Int)(k1:Int->Int->Op α):Op α:=
 a α (w64 (b*d)) (w64 (c*e))
 (fun g h=>k1 g h)
def f20_0 (α:Type)(a b c d:Int)(k1:Int->Int->Op α):Op α:=f20_0g f25_0 α a b c d k1
def pa20_0:PT (List DV):=pA [pV true [(dI .i64),(dI .i64)],pV true [(dI .i64),(dI .i64)]]
def Fn20_0 (v:Tf20_0)(α:Type)(k:RT α):I4 (Op α):=fun a b c d=>v α a b c d (fun e g=>ur20_0_0 k e g)
def cm20_0g:MCode:=(emb ac20)
def cm20_0:MCode:=cm20_0g
theorem gm20_0:cm20_0.Good Pg E20_0 sh20:=(emb_good ac20)
theorem em20_0:cm20_0.erase=ac20:=(emb_erase _)
theorem fm20_0g (a:Tf25_0)(α:Type)(k:RT α):Fn20_0 (f20_0g a) α k=pa20_0.unc fun ds=>fnM Pg (E20_0g a) sh20 (cm20_0g ) rs20 k ds:=by kernel_rfl
theorem fm20_0:∀ (α:Type) (k:RT α),Fn20_0 f20_0 α k=pa20_0.unc fun ds=>fnM Pg E20_0 sh20 cm20_0 rs20 k ds:=fm20_0g f25_0
theorem is20:FnIs Pg 20 nt20 tr20 tl20 ac20 rs20:=codeF_is Tryz.func20 (by kernel_rfl)
theorem io20_0:InstOk Pg 20 nt20 ⟨pa20_0,Fn20_0 f20_0⟩:=inst_ok eo20_0 followsTry is20 ⟨⟨sh20,cm20_0,em20_0,gm20_0,fm20_0⟩⟩
abbrev nt43:Nat:=12
def sh43:SG:=[(4,iS 2),(8,iS 2)]
def tr43:TG:=[tT 0 [1],tT 1 [1,3],tT 2 [2],tT 3 [7],tT 4 [2],tT 5 [2]]
def tl43:TG:=[]
def ac43:ACode:=codeF Pg Tryz.f43 tr43 tl43
def rs43:List AResV:=resF Pg Tryz.f43
def pr43_0_0:PT (List RV):=pRs [wI]
def ur43_0_0 {β:Type}(g:List RV->β):Int->β:=pr43_0_0.unc g
def E43_0g (a:Tf24_0)(b:Tf18_0)(c:Tf22_0):EnvK:=EnvK.of [⟨24,nt24,[⟨pa24_0,Fn24_0 a⟩]⟩,⟨18,nt18,[⟨pa18_0,Fn18_0 b⟩]⟩,⟨22,nt22,[⟨pa22_0,Fn22_0 c⟩]⟩] noSeq
def E43_0:EnvK:=E43_0g f24_0 f18_0 f22_0
theorem eo43_0:E43_0.Ok Pg:=EnvK.of_ok noSeq_ok ⟨⟨io24_0,TT⟩,⟨io18_0,TT⟩,⟨io22_0,TT⟩,TT⟩
abbrev Tf43_0:Type 1:=(α:Type)->Int->Int->(Int->Op α)->Op α
def f43_0g (c:Tf18_0)(d:Tf22_0)(e:Tf24_0)(α:Type)(a b:Int)(k1:Int->Op α):Op α:=
 e α a b
 (fun g=>cK (!g)
 (k1 13)
 (c α
 (d α a b 100
 (fun h=>cK (!h)
 (k1 2)
 (k1 0)))))
def f43_0 (α:Type)(a b:Int)(k1:Int->Op α):Op α:=f43_0g f18_0 f22_0 f24_0 α a b k1
def pa43_0:PT (List DV):=pA [pV true [(dI .i64),(dI .i64)]]
def Fn43_0 (v:Tf43_0)(α:Type)(k:RT α):Int->Int->Op α:=fun a b=>v α a b (fun c=>ur43_0_0 k c)
def cm43_0g:MCode:=(emb ac43)
def cm43_0:MCode:=cm43_0g
theorem gm43_0:cm43_0.Good Pg E43_0 sh43:=(emb_good ac43)
theorem em43_0:cm43_0.erase=ac43:=(emb_erase _)
theorem fm43_0g (a:Tf24_0)(b:Tf18_0)(c:Tf22_0)(α:Type)(k:RT α):Fn43_0 (f43_0g b c a) α k=pa43_0.unc fun ds=>fnM Pg (E43_0g a b c) sh43 (cm43_0g ) rs43 k ds:=by kernel_rfl
theorem fm43_0:∀ (α:Type) (k:RT α),Fn43_0 f43_0 α k=pa43_0.unc fun ds=>fnM Pg E43_0 sh43 cm43_0 rs43 k ds:=fm43_0g f24_0 f18_0 f22_0
theorem is43:FnIs Pg 43 nt43 tr43 tl43 ac43 rs43:=codeF_is Tryz.func43 (by kernel_rfl)
theorem io43_0:InstOk Pg 43 nt43 ⟨pa43_0,Fn43_0 f43_0⟩:=inst_ok eo43_0 followsTry is43 ⟨⟨sh43,cm43_0,em43_0,gm43_0,fm43_0⟩⟩
abbrev nt6:Nat:=20
def sh6:SG:=[]
def tr6:TG:=[tT 0 [0,1,4],tT 1 [0,1,4,5],tT 2 [0,1,4,5,10],tT 3 [0,1,4,5],tT 4 [4]]
def tl6:TG:=[]
def ac6:ACode:=codeF Pg Tryz.f6 tr6 tl6
def rs6:List AResV:=resF Pg Tryz.f6
def p6_0_0:PT St:=pS [sI 0,sI 1,sP 4,sI 5] [eBox 4 [xI,xI]]
def u6_0_0 {β:Type}(g:St->β):I5 β:=p6_0_0.unc g
def p6_0_1:PT St:=pS [sI 0,sI 1,sP 4,sI 5,sY 10 dB] [eBox 4 [xI,xI]]
def u6_0_1 {β:Type}(g:St->β):Int->Int->Int->Bool->Int->Int->β:=p6_0_1.unc g
def pr6_0_0:PT (List RV):=pRs [pR true [rD (dI .i64),rD (dI .i64)]]
def ur6_0_0 {β:Type}(g:List RV->β):Int->Int->β:=pr6_0_0.unc g
def E6_0g (a:Tf15_0):EnvK:=EnvK.of [⟨15,nt15,[⟨pa15_0,Fn15_0 a⟩]⟩] noSeq
def E6_0:EnvK:=E6_0g f15_0
theorem eo6_0:E6_0.Ok Pg:=EnvK.of_ok noSeq_ok ⟨⟨io15_0,TT⟩,TT⟩
def c6_0_5g:MCode:=MCode.sub [1,1,0] (emb ac6)
def c6_0_5:MCode:=c6_0_5g
abbrev TJ6_0_0:Type 1:=(α:Type)->Int->Int->(Int->Op α)->(Bool->Op α)->Op α
def J6_0_0g (α:Type)(a b:Int)(k1:Int->Op α)(k2:Bool->Op α):Op α:=
 cK (decide (a < 0))
 (k1 (w64 (0 - b)))
 (k2 (decide (a < 0)))
def J6_0_0 (α:Type)(a b:Int)(k1:Int->Op α)(k2:Bool->Op α):Op α:=J6_0_0g α a b k1 k2
def F6_0_0 (v:TJ6_0_0)(α:Type)(K:KT α):I5 (Op α):=fun c a d e g=>v α a d (fun b=>u6_0_0 (K .normal) c a b e g) (fun b=>u6_0_1 (K .normal) c a d b e g)
theorem m6_0_0g (a:Tf15_0)(α:Type)(K:KT α):F6_0_0 (J6_0_0g ) α K=p6_0_0.unc fun σ=>runM Pg (E6_0g a) sh6 (c6_0_5g ) K σ:=by kernel_rfl
theorem m6_0_0:∀ (α:Type) (K:KT α),F6_0_0 J6_0_0 α K=p6_0_0.unc fun σ=>runM Pg E6_0 sh6 c6_0_5 K σ:=m6_0_0g f15_0
abbrev Tf6_0:Type 1:=(α:Type)->Int->Int->(Int->Int->Op α)->Op α
def f6_0g (e:TJ6_0_0)(g:Tf15_0)(α:Type)(d b:Int)(k1:Int->Int->Op α):Op α:=
 g α d b
 (fun a=>e α b a
 (fun c=>gK (c != 0) (gK (c != 0) (k1 (w64 (Int.tdiv d c)) (w64 (Int.tdiv b c)))))
 (fun h=>gK (a != 0) (gK (a != 0) (k1 (w64 (Int.tdiv d a)) (w64 (Int.tdiv b a))))))
def f6_0 (α:Type)(a b:Int)(k1:Int->Int->Op α):Op α:=f6_0g J6_0_0 f15_0 α a b k1
def pa6_0:PT (List DV):=pA [vI,vI]
def Fn6_0 (v:Tf6_0)(α:Type)(k:RT α):Int->Int->Op α:=fun a b=>v α a b (fun c d=>ur6_0_0 k c d)
def cm6_0g (a:TJ6_0_0):MCode:=(MCode.put (.m [⟨p6_0_0,F6_0_0 a⟩]) [1,1] (emb ac6))
def cm6_0:MCode:=cm6_0g J6_0_0
theorem gm6_0:cm6_0.Good Pg E6_0 sh6:=(put_seq (by kernel_rfl) (emb_good ac6) ⟨m6_0_0,TT⟩)
theorem em6_0:cm6_0.erase=ac6:=((put_erase _ _).trans (emb_erase _))
theorem fm6_0g (a:Tf15_0)(b:TJ6_0_0)(α:Type)(k:RT α):Fn6_0 (f6_0g b a) α k=pa6_0.unc fun ds=>fnM Pg (E6_0g a) sh6 (cm6_0g b) rs6 k ds:=by kernel_rfl
theorem fm6_0:∀ (α:Type) (k:RT α),Fn6_0 f6_0 α k=pa6_0.unc fun ds=>fnM Pg E6_0 sh6 cm6_0 rs6 k ds:=fm6_0g f15_0 J6_0_0
theorem is6:FnIs Pg 6 nt6 tr6 tl6 ac6 rs6:=codeF_is Tryz.func6 (by kernel_rfl)
theorem io6_0:InstOk Pg 6 nt6 ⟨pa6_0,Fn6_0 f6_0⟩:=inst_ok eo6_0 followsTry is6 ⟨⟨sh6,cm6_0,em6_0,gm6_0,fm6_0⟩⟩
abbrev nt110:Nat:=32
def sh110:SG:=[(6,iS 2),(14,iT),(17,iT),(23,iT),(26,iT),(31,iS 2)]
def tr110:TG:=[tT 0 [1,2],tT 1 [1,2,4],tT 2 [1,2,4,9],tT 3 [2,3],tT 4 [1,2,5],tT 5 [1,2,5,15],tT 6 [1,2,5],tT 7 [1,2,5,24],tT 8 [2,5],tT 9 [2,3]]
def tl110:TG:=[]
def ac110:ACode:=codeF Pg Tryz.f110 tr110 tl110
def rs110:List AResV:=resF Pg Tryz.f110
def p110_0_0:PT St:=pS [sP 1,sP 2,sP 5] [eBox 1 [xI,xI],eBox 2 [xI,xI],eBox 5 [xI,xI]]
def u110_0_0 {β:Type}(g:St->β):I6 β:=p110_0_0.unc g
def p110_0_1:PT St:=pS [sP 1,sP 2,sP 5,sY 15 dB] [eBox 1 [xI,xI],eBox 2 [xI,xI],eBox 5 [xI,xI]]
def u110_0_1 {β:Type}(g:St->β):Bool->I6 β:=p110_0_1.unc g
def pr110_0_0:PT (List RV):=pRs [pR true [rD (dI .i64),rD (dI .i64)],wI]
def ur110_0_0 {β:Type}(g:List RV->β):Int->Int->Int->β:=pr110_0_0.unc g
def E110_0g (a:Tf138_0)(b:Tf140_0)(c:Tf63_0)(d:Tf141_0)(e:Tf64_0):EnvK:=EnvK.of [⟨138,nt138,[⟨pa138_0,Fn138_0 a⟩]⟩,⟨140,nt140,[⟨pa140_0,Fn140_0 b⟩]⟩,⟨63,nt63,[⟨pa63_0,Fn63_0 c⟩]⟩,⟨141,nt141,[⟨pa141_0,Fn141_0 d⟩]⟩,⟨64,nt64,[⟨pa64_0,Fn64_0 e⟩]⟩] noSeq
def E110_0:EnvK:=E110_0g f138_0 f140_0 f63_0 f141_0 f64_0
theorem eo110_0:E110_0.Ok Pg:=EnvK.of_ok noSeq_ok ⟨⟨io138_0,TT⟩,⟨io140_0,TT⟩,⟨io63_0,TT⟩,⟨io141_0,TT⟩,⟨io64_0,TT⟩,TT⟩
def c110_0_13g:MCode:=MCode.sub [1,1,1,0] (emb ac110)
def c110_0_13:MCode:=c110_0_13g
abbrev TJ110_0_0:Type 1:=(α:Type)->Int->(Int->Op α)->(Bool->Op α)->Op α
def J110_0_0g (c:Tf140_0)(d:Tf63_0)(α:Type)(a:Int)(k1:Int->Op α)(k2:Bool->Op α):Op α:=
 cK (decide (a<=16777216))
 (c α a
 (fun e=>d α e 1024
 (fun b=>k1 (if b > 0 then b else 0))))
 (k2 (decide (a<=16777216)))
def J110_0_0 (α:Type)(a:Int)(k1:Int->Op α)(k2:Bool->Op α):Op α:=J110_0_0g f140_0 f63_0 α a k1 k2
def F110_0_0 (v:TJ110_0_0)(α:Type)(K:KT α):I6 (Op α):=fun c a d e h g=>v α a (fun b=>u110_0_0 (K .normal) c a d e b g) (fun b=>u110_0_1 (K .normal) b c a d e h g)
theorem m110_0_0g (c:Tf138_0)(a:Tf140_0)(b:Tf63_0)(d:Tf141_0)(e:Tf64_0)(α:Type)(K:KT α):F110_0_0 (J110_0_0g a b) α K=p110_0_0.unc fun σ=>runM Pg (E110_0g c a b d e) sh110 (c110_0_13g ) K σ:=by kernel_rfl
theorem m110_0_0:∀ (α:Type) (K:KT α),F110_0_0 J110_0_0 α K=p110_0_0.unc fun σ=>runM Pg E110_0 sh110 c110_0_13 K σ:=m110_0_0g f138_0 f140_0 f63_0 f141_0 f64_0
abbrev Tf110_0:Type 1:=(α:Type)->Int->Int->(Int->Int->Int->Op α)->Op α
def f110_0g (j:TJ110_0_0)(l:Tf138_0)(b:Tf141_0)(c:Tf64_0)(α:Type)(a d:Int)(k1:Int->Int->Int->Op α):Op α:=
 l α a d 0
 (fun e=>cK (e != 0)
 (k1 0 0 e)
 (j α d
 (fun g=>cK (decide (a<=16777216))
 (b α a
 (fun m=>c α m 1024
 (fun h=>k1 g (if h < 1048576 then h else 1048576) 0)))
 (k1 g 1 0))
 (fun p=>cK (decide (a<=16777216))
 (b α a
 (fun o=>c α o 1024
 (fun i=>k1 0 (if i < 1048576 then i else 1048576) 0)))
 (k1 0 1 0))))
def f110_0 (α:Type)(a b:Int)(k1:Int->Int->Int->Op α):Op α:=f110_0g J110_0_0 f138_0 f141_0 f64_0 α a b k1
def pa110_0:PT (List DV):=pA [pV true [(dI .i64),(dI .i64)]]
def Fn110_0 (v:Tf110_0)(α:Type)(k:RT α):Int->Int->Op α:=fun a b=>v α a b (fun c d e=>ur110_0_0 k c d e)
def cm110_0g (a:TJ110_0_0):MCode:=(MCode.put (.m [⟨p110_0_0,F110_0_0 a⟩]) [1,1,1] (emb ac110))
def cm110_0:MCode:=cm110_0g J110_0_0
theorem gm110_0:cm110_0.Good Pg E110_0 sh110:=(put_seq (by kernel_rfl) (emb_good ac110) ⟨m110_0_0,TT⟩)
theorem em110_0:cm110_0.erase=ac110:=((put_erase _ _).trans (emb_erase _))
theorem fm110_0g (a:Tf138_0)(e:Tf140_0)(g:Tf63_0)(b:Tf141_0)(c:Tf64_0)(d:TJ110_0_0)(α:Type)(k:RT α):Fn110_0 (f110_0g d a b c) α k=pa110_0.unc fun ds=>fnM Pg (E110_0g a e g b c) sh110 (cm110_0g d) rs110 k ds:=by kernel_rfl
theorem fm110_0:∀ (α:Type) (k:RT α),Fn110_0 f110_0 α k=pa110_0.unc fun ds=>fnM Pg E110_0 sh110 cm110_0 rs110 k ds:=fm110_0g f138_0 f140_0 f63_0 f141_0 f64_0 J110_0_0
theorem is110:FnIs Pg 110 nt110 tr110 tl110 ac110 rs110:=codeF_is Tryz.func110 (by kernel_rfl)
theorem io110_0:InstOk Pg 110 nt110 ⟨pa110_0,Fn110_0 f110_0⟩:=inst_ok eo110_0 followsTry is110 ⟨⟨sh110,cm110_0,em110_0,gm110_0,fm110_0⟩⟩
abbrev nt154:Nat:=42
def sh154:SG:=[(27,iS 2),(28,iS 2),(34,iS 2),(36,iS 2),(40,iS 2),(41,iS 2)]
def tr154:TG:=[tT 0 [0,2],tT 1 [0,2,3],tT 2 [0,2,4,5],tT 3 [0,2,4,5,6,7],tT 4 [0,2,4,5,6,7,22],tT 5 [0,2,4,5,6,7,8],tT 6 [0,2,4,5,6,7,8,9],tT 7 [0,2,4,5,6,7,8,9,32],tT 8 [0,2,4,5,6,7],tT 9 [0,2,4,5,6,7],tT 10 [2,4,5,39],tT 11 [2],tT 12 [2]]
def tl154:TG:=[tT 4 [0,2,4,5,6,7]]
def ac154:ACode:=codeF Pg Tryz.f154 tr154 tl154
def rs154:List AResV:=resF Pg Tryz.f154
def td154_11:OT:=tdC (MCode.sub [1,1,1,1,0,0] (emb ac154))
def p154_0_0:PT St:=pS [sI 0,sP 2,sP 4,sP 5,sI 6,sI 7] [eBox 2 [xI,xI],eBox 4 [xI,xI],eBox 5 [xI,xI]]
def u154_0_0 {β:Type}(g:St->β):I9 β:=p154_0_0.unc g
def p154_0_1:PT St:=pS [sI 0,sP 2,sP 4,sP 5,sI 6,sI 7,sY 22 dB] [eBox 2 [xI,xI],eBox 4 [xI,xI],eBox 5 [xI,xI]]
def u154_0_1 {β:Type}(g:St->β):Int->Int->Int->Bool->I6 β:=p154_0_1.unc g
def pr154_0_0:PT (List RV):=pRs [pR true [rD (dI .i64),rD (dI .i64)]]
def ur154_0_0 {β:Type}(g:List RV->β):Int->Int->β:=pr154_0_0.unc g
def E154_0g (a:Tf95_0)(b:Tf156_0):EnvK:=EnvK.of [⟨95,nt95,[⟨pa95_0,Fn95_0 a⟩]⟩,⟨156,nt156,[⟨pa156_0,Fn156_0 b⟩]⟩] noSeq
def E154_0:EnvK:=E154_0g f95_0 f156_0
theorem eo154_0:E154_0.Ok Pg:=EnvK.of_ok noSeq_ok ⟨⟨io95_0,TT⟩,⟨io156_0,TT⟩,TT⟩
def c154_0_11g:MCode:=MCode.sub [1,1,1,1,0,0,0] (emb ac154)
def c154_0_11:MCode:=c154_0_11g
def S154_0_0g (l:Tf156_0)(α:Type)(c b a d e g h:Int)(kn:I6 (Op α))(k1:Int->Int->Bool->I4 (Op α)):Op α:=
 cK (c != b)
 (cK (c != a)
 (l α d e g h
 (fun i j=>cK (decide ((w64 (Int.tdiv (w64 (b+a)) 2))<=c))
 (kn (w64 (Int.tdiv (w64 (b+a)) 2)) a i j g h)
 (kn b (w64 (Int.tdiv (w64 (b+a)) 2)) d e i j)))
 (k1 b a (c != a) d e g h))
 (k1 b a false d e g h)
def S154_0_0 (α:Type)(a b c d e g h:Int)(kn:I6 (Op α))(k1:Int->Int->Bool->I4 (Op α)):Op α:=S154_0_0g f156_0 α a b c d e g h kn k1
def R154_0_0 (α:Type)(a:Int)(k1:Int->Int->Bool->I4 (Op α)):Nat->I6 (Op α)
 | 0,_,_,_,_,_,_=>none
 | n+1,b,c,d,e,g,h=>S154_0_0 α a b c d e g h (R154_0_0 α a k1 n) k1
def L154_0_0 (α:Type)(a:Int)(k1:Int->Int->Bool->I4 (Op α))(b c d e g h:Int):Op α:=R154_0_0 α a k1 fuel b c d e g h
abbrev TL154_0_0:Type 1:=(α:Type)->Int->(Int->Int->Bool->I4 (Op α))->I6 (Op α)
def F154_0_0 (v:TL154_0_0)(α:Type)(K:KT α):I9 (Op α):=fun a b c d e g h i j=>v α a (fun l m o p q r s=>u154_0_1 (K (.exit 0)) a l m o d e p q r s) b c g h i j
theorem r154_0_0g (m:Tf95_0)(l:Tf156_0)(α:Type)(K:KT α)(Kn:SK α)(a b c i j d e g h:Int):u154_0_0 (fun σ=>runM Pg (E154_0g m l) sh154 (c154_0_11g ) (thenK (fun σ=>tidyK td154_11 σ Kn) K) σ) a b c i j d e g h=S154_0_0g l α a b c d e g h (fun b c d e g h=>u154_0_0 Kn a b c i j d e g h) (fun o p q r s t w=>u154_0_1 (K (.exit 0)) a o p q i j r s t w):=by kernel_rfl
theorem r154_0_0 (α:Type)(K:KT α)(Kn:SK α)(a b c i j d e g h:Int):u154_0_0 (fun σ=>runM Pg E154_0 sh154 c154_0_11 (thenK (fun σ=>tidyK td154_11 σ Kn) K) σ) a b c i j d e g h=S154_0_0 α a b c d e g h (fun b c d e g h=>u154_0_0 Kn a b c i j d e g h) (fun l m o p q r s=>u154_0_1 (K (.exit 0)) a l m o i j p q r s):=r154_0_0g f95_0 f156_0 α K Kn a b c i j d e g h
theorem t154_0_0 (α:Type)(K:KT α):∀ (n:Nat) (a b c i j d e g h:Int),R154_0_0 α a (fun l m o p q r s=>u154_0_1 (K (.exit 0)) a l m o i j p q r s) n b c d e g h=u154_0_0 (loopT (runM Pg E154_0 sh154 c154_0_11) td154_11 K n) a b c i j d e g h:=by
 intro n
 induction n with
 | zero=>intros;rfl
 | succ n ih=>intro a b c i j d e g h;exact (congrArg (fun kn=>S154_0_0 α a b c d e g h kn (fun l m o p q r s=>u154_0_1 (K (.exit 0)) a l m o i j p q r s)) (funext fun b=>funext fun c=>funext fun d=>funext fun e=>funext fun g=>funext fun h=>ih a b c i j d e g h)).trans (r154_0_0 α K (loopT (runM Pg E154_0 sh154 c154_0_11) td154_11 K n) a b c i j d e g h).symm
theorem m154_0_0:∀ (α:Type) (K:KT α),F154_0_0 L154_0_0 α K=p154_0_0.unc fun σ=>loopT (runM Pg E154_0 sh154 c154_0_11) td154_11 K fuel σ:=fun α K=>by funext a b c d e g h i j;exact t154_0_0 α K fuel a b c d e g h i j
abbrev Tf154_0:Type 1:=(α:Type)->Int->(Int->Int->Op α)->Op α
def f154_0g (c:TL154_0_0)(d:Tf95_0)(α:Type)(a:Int)(k1:Int->Int->Op α):Op α:=
 d α 2251799813685248
 (fun b=>c α a
 (fun e l m g h i j=>cK (a == e)
 (k1 g h)
 (k1 i j)) 0 524288 67108864 0 b b)
def f154_0 (α:Type)(a:Int)(k1:Int->Int->Op α):Op α:=f154_0g L154_0_0 f95_0 α a k1
def pa154_0:PT (List DV):=pA [vI]
def Fn154_0 (v:Tf154_0)(α:Type)(k:RT α):Int->Op α:=fun a=>v α a (fun b c=>ur154_0_0 k b c)
def cm154_0g (a:TL154_0_0):MCode:=(MCode.put (.m [⟨p154_0_0,F154_0_0 a⟩]) [1,1,1,1,0,0] (emb ac154))
def cm154_0:MCode:=cm154_0g L154_0_0
theorem gm154_0:cm154_0.Good Pg E154_0 sh154:=(put_loop (td:=td154_11) (by kernel_rfl) (emb_good ac154) ⟨m154_0_0,TT⟩)
theorem em154_0:cm154_0.erase=ac154:=((put_erase _ _).trans (emb_erase _))
theorem fm154_0g (a:Tf95_0)(c:Tf156_0)(b:TL154_0_0)(α:Type)(k:RT α):Fn154_0 (f154_0g b a) α k=pa154_0.unc fun ds=>fnM Pg (E154_0g a c) sh154 (cm154_0g b) rs154 k ds:=by kernel_rfl
theorem fm154_0:∀ (α:Type) (k:RT α),Fn154_0 f154_0 α k=pa154_0.unc fun ds=>fnM Pg E154_0 sh154 cm154_0 rs154 k ds:=fm154_0g f95_0 f156_0 L154_0_0
theorem is154:FnIs Pg 154 nt154 tr154 tl154 ac154 rs154:=codeF_is Tryz.func154 (by kernel_rfl)
theorem io154_0:InstOk Pg 154 nt154 ⟨pa154_0,Fn154_0 f154_0⟩:=inst_ok eo154_0 followsTry is154 ⟨⟨sh154,cm154_0,em154_0,gm154_0,fm154_0⟩⟩
abbrev nt121:Nat:=39
def sh121:SG:=[]
def tr121:TG:=[tT 0 [0,1,2],tT 1 [2,7,8],tT 2 [2,7,8,22],tT 3 [6],tT 4 [9,10],tT 5 [9,10,32],tT 6 [6],tT 7 [9,34],tT 8 [9],tT 9 [6]]
def tl121:TG:=[]
def ac121:ACode:=codeF Pg Tryz.f121 tr121 tl121
def rs121:List AResV:=resF Pg Tryz.f121
def pr121_0_0:PT (List RV):=pRs [wI]
def ur121_0_0 {β:Type}(g:List RV->β):Int->β:=pr121_0_0.unc g
def E121_0g (a:Tf128_0)(b:Tf129_0):EnvK:=EnvK.of [⟨128,nt128,[⟨pa128_0,Fn128_0 a⟩]⟩,⟨129,nt129,[⟨pa129_0,Fn129_0 b⟩]⟩] noSeq
def E121_0:EnvK:=E121_0g f128_0 f129_0
theorem eo121_0:E121_0.Ok Pg:=EnvK.of_ok noSeq_ok ⟨⟨io128_0,TT⟩,⟨io129_0,TT⟩,TT⟩
abbrev Tf121_0:Type 1:=(α:Type)->Int->Int->Int->(Int->Op α)->Op α
def f121_0g (d:Tf128_0)(e:Tf129_0)(α:Type)(g h b:Int)(k1:Int->Op α):Op α:=
 d α (IntKind.wrap .u64 (g)) (IntKind.wrap .u64 (h))
 (fun c i=>cK (decide ((IntKind.wrap .u64 (b))<=c))
 (k1 2147483647)
 (e α c i (IntKind.wrap .u64 (b))
 (fun a j=>cK (decide (2147483647<=a))
 (k1 2147483647)
 (cK (j != 0)
 (k1 (w64 ((IntKind.wrap .u64 (a+1)))))
 (k1 (w64 (a)))))))
def f121_0 (α:Type)(a b c:Int)(k1:Int->Op α):Op α:=f121_0g f128_0 f129_0 α a b c k1
def pa121_0:PT (List DV):=pA [vI,vI,vI]
def Fn121_0 (v:Tf121_0)(α:Type)(k:RT α):Int->Int->Int->Op α:=fun a b c=>v α a b c (fun d=>ur121_0_0 k d)
def cm121_0g:MCode:=(emb ac121)
def cm121_0:MCode:=cm121_0g
theorem gm121_0:cm121_0.Good Pg E121_0 sh121:=(emb_good ac121)
theorem em121_0:cm121_0.erase=ac121:=(emb_erase _)
theorem fm121_0g (a:Tf128_0)(b:Tf129_0)(α:Type)(k:RT α):Fn121_0 (f121_0g a b) α k=pa121_0.unc fun ds=>fnM Pg (E121_0g a b) sh121 (cm121_0g ) rs121 k ds:=by kernel_rfl
theorem fm121_0:∀ (α:Type) (k:RT α),Fn121_0 f121_0 α k=pa121_0.unc fun ds=>fnM Pg E121_0 sh121 cm121_0 rs121 k ds:=fm121_0g f128_0 f129_0
theorem is121:FnIs Pg 121 nt121 tr121 tl121 ac121 rs121:=codeF_is Tryz.func121 (by kernel_rfl)
theorem io121_0:InstOk Pg 121 nt121 ⟨pa121_0,Fn121_0 f121_0⟩:=inst_ok eo121_0 followsTry is121 ⟨⟨sh121,cm121_0,em121_0,gm121_0,fm121_0⟩⟩
abbrev nt97:Nat:=63
def sh97:SG:=[]
def tr97:TG:=[tT 0 [0,1,2],tT 1 [0,2,8,9],tT 2 [0,2,8,9,24],tT 3 [6,7],tT 4 [0,2,10,11],tT 5 [0,2,10,11,34],tT 6 [6,7],tT 7 [0,2,6,7,11],tT 8 [0,6,7,54],tT 9 [0,6,7],tT 10 [6,7,58],tT 11 [6,7],tT 12 [6,7]]
def tl97:TG:=[]
def ac97:ACode:=codeF Pg Tryz.f97 tr97 tl97
def rs97:List AResV:=resF Pg Tryz.f97
def p97_0_0:PT St:=pS [sI 0,sI 2,sI 6,sY 7 dB,sY 11 (dI .u64)] []
def u97_0_0 {β:Type}(g:St->β):Int->Int->Int->Bool->Int->β:=p97_0_0.unc g
def p97_0_1:PT St:=pS [sI 0,sI 6,sY 7 dB,sY 54 dB] []
def u97_0_1 {β:Type}(g:St->β):Int->Int->Bool->Bool->β:=p97_0_1.unc g
def pr97_0_0:PT (List RV):=pRs [wI,pR false [rD dB]]
def ur97_0_0 {β:Type}(g:List RV->β):Int->Bool->β:=pr97_0_0.unc g
def E97_0g (a:Tf96_0)(b:Tf128_0)(c:Tf129_0):EnvK:=EnvK.of [⟨96,nt96,[⟨pa96_0,Fn96_0 a⟩]⟩,⟨128,nt128,[⟨pa128_0,Fn128_0 b⟩]⟩,⟨129,nt129,[⟨pa129_0,Fn129_0 c⟩]⟩] noSeq
def E97_0:EnvK:=E97_0g f96_0 f128_0 f129_0
theorem eo97_0:E97_0.Ok Pg:=EnvK.of_ok noSeq_ok ⟨⟨io96_0,TT⟩,⟨io128_0,TT⟩,⟨io129_0,TT⟩,TT⟩
def c97_0_22g:MCode:=MCode.sub [1,1,1,1,1,1,0,0] (emb ac97)
def c97_0_22:MCode:=c97_0_22g
abbrev TJ97_0_0:Type 1:=(α:Type)->Int->Int->Int->(Bool->Op α)->Op α
def J97_0_0g (α:Type)(c a b:Int)(k1:Bool->Op α):Op α:=
 cK (decide ((IntKind.wrap .u64 (a)) < (IntKind.wrap .u64 (2*b))))
 (k1 true)
 (cK (decide (0<=c))
 (k1 ((IntKind.wrap .u64 (2*b)) == (IntKind.wrap .u64 (a))))
 (k1 false))
def J97_0_0 (α:Type)(a b c:Int)(k1:Bool->Op α):Op α:=J97_0_0g α a b c k1
def F97_0_0 (v:TJ97_0_0)(α:Type)(K:KT α):Int->Int->Int->Bool->Int->Op α:=fun a b c d e=>v α a b e (fun g=>u97_0_1 (K .normal) a c d g)
theorem m97_0_0g (a:Tf96_0)(b:Tf128_0)(c:Tf129_0)(α:Type)(K:KT α):F97_0_0 (J97_0_0g ) α K=p97_0_0.unc fun σ=>runM Pg (E97_0g a b c) sh97 (c97_0_22g ) K σ:=by kernel_rfl
theorem m97_0_0:∀ (α:Type) (K:KT α),F97_0_0 J97_0_0 α K=p97_0_0.unc fun σ=>runM Pg E97_0 sh97 c97_0_22 K σ:=m97_0_0g f96_0 f128_0 f129_0
abbrev Tf97_0:Type 1:=(α:Type)->Int->Int->Int->(Int->Bool->Op α)->Op α
def f97_0g (g:TJ97_0_0)(h:Tf128_0)(i:Tf129_0)(j:Tf96_0)(α:Type)(c l d:Int)(k1:Int->Bool->Op α):Op α:=
 j α c
 (fun m=>h α (IntKind.wrap .u64 (m)) (IntKind.wrap .u64 (l))
 (fun e o=>cK (decide ((IntKind.wrap .u64 (d))<=e))
 (k1 2147483647 false)
 (i α e o (IntKind.wrap .u64 (d))
 (fun a b=>cK (decide (2147483647 < a))
 (k1 2147483647 false)
 (g α c d b
 (fun p=>cK p
 (cK (decide (c < 0))
 (k1 (w64 (0 - (w64 ((w64 (a))+1)))) (b != 0))
 (k1 (w64 ((w64 (a))+1)) (b != 0)))
 (cK (decide (c < 0))
 (k1 (w64 (0 - (w64 (a)))) (b != 0))
 (k1 (w64 (a)) (b != 0)))))))))
def f97_0 (α:Type)(a b c:Int)(k1:Int->Bool->Op α):Op α:=f97_0g J97_0_0 f128_0 f129_0 f96_0 α a b c k1
def pa97_0:PT (List DV):=pA [vI,vI,vI]
def Fn97_0 (v:Tf97_0)(α:Type)(k:RT α):Int->Int->Int->Op α:=fun a b c=>v α a b c (fun d e=>ur97_0_0 k d e)
def cm97_0g (a:TJ97_0_0):MCode:=(MCode.put (.m [⟨p97_0_0,F97_0_0 a⟩]) [1,1,1,1,1,1,0] (emb ac97))
def cm97_0:MCode:=cm97_0g J97_0_0
theorem gm97_0:cm97_0.Good Pg E97_0 sh97:=(put_seq (by kernel_rfl) (emb_good ac97) ⟨m97_0_0,TT⟩)
theorem em97_0:cm97_0.erase=ac97:=((put_erase _ _).trans (emb_erase _))
theorem fm97_0g (a:Tf96_0)(b:Tf128_0)(c:Tf129_0)(d:TJ97_0_0)(α:Type)(k:RT α):Fn97_0 (f97_0g d b c a) α k=pa97_0.unc fun ds=>fnM Pg (E97_0g a b c) sh97 (cm97_0g d) rs97 k ds:=by kernel_rfl
theorem fm97_0:∀ (α:Type) (k:RT α),Fn97_0 f97_0 α k=pa97_0.unc fun ds=>fnM Pg E97_0 sh97 cm97_0 rs97 k ds:=fm97_0g f96_0 f128_0 f129_0 J97_0_0
theorem is97:FnIs Pg 97 nt97 tr97 tl97 ac97 rs97:=codeF_is Tryz.func97 (by kernel_rfl)
theorem io97_0:InstOk Pg 97 nt97 ⟨pa97_0,Fn97_0 f97_0⟩:=inst_ok eo97_0 followsTry is97 ⟨⟨sh97,cm97_0,em97_0,gm97_0,fm97_0⟩⟩
abbrev nt101:Nat:=6
def sh101:SG:=[(3,iS 2)]
def tr101:TG:=[tT 0 [1],tT 1 [2]]
def tl101:TG:=[]
def ac101:ACode:=codeF Pg Tryz.f101 tr101 tl101
def rs101:List AResV:=resF Pg Tryz.f101
def pr101_0_0:PT (List RV):=pRs [wI]
def ur101_0_0 {β:Type}(g:List RV->β):Int->β:=pr101_0_0.unc g
def E101_0g (a:Tf120_0)(b:Tf98_0):EnvK:=EnvK.of [⟨120,nt120,[⟨pa120_0,Fn120_0 a⟩]⟩,⟨98,nt98,[⟨pa98_0,Fn98_0 b⟩]⟩] noSeq
def E101_0:EnvK:=E101_0g f120_0 f98_0
theorem eo101_0:E101_0.Ok Pg:=EnvK.of_ok noSeq_ok ⟨⟨io120_0,TT⟩,⟨io98_0,TT⟩,TT⟩
abbrev Tf101_0:Type 1:=(α:Type)->Int->Int->(Int->Op α)->Op α
def f101_0g (a:Tf120_0)(b:Tf98_0)(α:Type)(c d:Int)(k1:Int->Op α):Op α:=
 a α c d
 (fun e=>b α e
 (fun g=>k1 g))
def f101_0 (α:Type)(a b:Int)(k1:Int->Op α):Op α:=f101_0g f120_0 f98_0 α a b k1
def pa101_0:PT (List DV):=pA [pV true [(dI .i64),(dI .i64)]]
def Fn101_0 (v:Tf101_0)(α:Type)(k:RT α):Int->Int->Op α:=fun a b=>v α a b (fun c=>ur101_0_0 k c)
def cm101_0g:MCode:=(emb ac101)
def cm101_0:MCode:=cm101_0g
theorem gm101_0:cm101_0.Good Pg E101_0 sh101:=(emb_good ac101)
theorem em101_0:cm101_0.erase=ac101:=(emb_erase _)
theorem fm101_0g (a:Tf120_0)(b:Tf98_0)(α:Type)(k:RT α):Fn101_0 (f101_0g a b) α k=pa101_0.unc fun ds=>fnM Pg (E101_0g a b) sh101 (cm101_0g ) rs101 k ds:=by kernel_rfl
theorem fm101_0:∀ (α:Type) (k:RT α),Fn101_0 f101_0 α k=pa101_0.unc fun ds=>fnM Pg E101_0 sh101 cm101_0 rs101 k ds:=fm101_0g f120_0 f98_0
theorem is101:FnIs Pg 101 nt101 tr101 tl101 ac101 rs101:=codeF_is Tryz.func101 (by kernel_rfl)
theorem io101_0:InstOk Pg 101 nt101 ⟨pa101_0,Fn101_0 f101_0⟩:=inst_ok eo101_0 followsTry is101 ⟨⟨sh101,cm101_0,em101_0,gm101_0,fm101_0⟩⟩
end
end Go.AM.K
