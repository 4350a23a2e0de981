/- Printed by KGen. -/
import Derived.Test.YtmcplmhohldpjaaGreatProg
import Derived.Test.YtmcplmhohldpjaaGreatKS1
import Derived.Test.YtmcplmhohldpjaaGreatRh
namespace Go.AM.K
open Go.Proofs
set_option maxRecDepth 100000
set_option linter.unusedVariables false
noncomputable section
theorem TT:True:=True.intro
abbrev sY (n:Nat)(x:_):=sl n (aV false [cD x])
abbrev ln9 (n:Nat):Go.Op:=.call { callee:=.builtin .len,args:=#[(.tmp n)],argTypes:=#[9] }
abbrev Pg:=Tryz.prog
abbrev I8 (t:Type):Type:=Int->Int->Int->Int->Int->Int->Int->Int->t
abbrev I15 (t:Type):Type:=Int->Int->Int->Int->Int->Int->Int->Int->Int->Int->Int->Int->Int->Int->Int->t
theorem followsTry:Pg.follows .mixedOrders=true:=by kernel_rfl
abbrev nt13:Nat:=15
def sh13:SG:=[(8,iS 2),(12,iS 2),(14,iS 2)]
def tr13:TG:=[tT 0 [1,2,4],tT 1 [1,2,4,6],tT 2 [4],tT 3 [2,4,10],tT 4 [4],tT 5 [4]]
def tl13:TG:=[]
def ac13:ACode:=codeF Pg Tryz.f13 tr13 tl13
def pr13_0_0:PT (List RV):=pRs [pR true [rD (dI .i64),rD (dI .i64)]]
def ur13_0_0 {β:Type}(g:List RV->β):Int->Int->β:=pr13_0_0.unc g
def E13_0:EnvK:=EnvK.of [] noSeq
theorem eo13_0:E13_0.Ok Pg:=EnvK.of_ok noSeq_ok TT
abbrev Tf13_0:Type 1:=(α:Type)->Int->Int->Int->Int->Int->Int->Int->(Int->Int->Op α)->Op α
def f13_0g (α:Type)(b c d e g h a:Int)(k1:Int->Int->Op α):Op α:=
 cK (a == 0)
 (k1 b c)
 (cK (a == 1)
 (k1 d e)
 (k1 g h))
def f13_0:Tf13_0:=sld f13_0g
def pa13_0:PT (List DV):=pA [pV true [(dI .i64),(dI .i64),(dI .i64),(dI .i64),(dI .i64),(dI .i64)],vI]
def Fn13_0 (v:Tf13_0)(α:Type)(k:RT α):I7 (Op α):=fun a b c d e g h=>v α a b c d e g h (fun i j=>ur13_0_0 k i j)
def cm13_0:MCode:=(emb ac13)
theorem io13_0:InstOk Pg 13 nt13 ⟨pa13_0,Fn13_0 f13_0⟩:=inst_s eo13_0 followsTry (codeF_is Tryz.func13 (by kernel_rfl)) sh13 cm13_0 (emb_erase _) (emb_good ac13) fun _ _=>by kernel_rfl
abbrev nt19:Nat:=14
def sh19:SG:=[]
def tr19:TG:=[tT 0 [0,1],tT 1 [0,1],tT 2 [0,1,9],tT 3 [0],tT 4 [4]]
def ac19:ACode:=codeF Pg Tryz.f19 tr19 tl13
def pr19_0_0:PT (List RV):=pRs [wI]
def ur19_0_0 {β:Type}(g:List RV->β):Int->β:=pr19_0_0.unc g
def E19_0:EnvK:=EnvK.of [] noSeq
theorem eo19_0:E19_0.Ok Pg:=EnvK.of_ok noSeq_ok TT
abbrev Tf19_0:Type 1:=(α:Type)->Int->Int->(Int->Op α)->Op α
def f19_0g (α:Type)(b a:Int)(k1:Int->Op α):Op α:=
 gK (a != 0) (cK (decide ((Int.tmod b a) < 0))
 (k1 (w64 ((Int.tmod b a)+a)))
 (k1 (Int.tmod b a)))
def f19_0:Tf19_0:=sld f19_0g
def pa19_0:PT (List DV):=pA [vI,vI]
def Fn19_0 (v:Tf19_0)(α:Type)(k:RT α):Int->Int->Op α:=fun a b=>v α a b (fun c=>ur19_0_0 k c)
def cm19_0:MCode:=(emb ac19)
theorem io19_0:InstOk Pg 19 nt19 ⟨pa19_0,Fn19_0 f19_0⟩:=inst_s eo19_0 followsTry (codeF_is Tryz.func19 (by kernel_rfl)) sh19 cm19_0 (emb_erase _) (emb_good ac19) fun _ _=>by kernel_rfl
abbrev nt161:Nat:=9
def sh161:SG:=[(4,iT),(6,iT)]
def tr161:TG:=[tT 0 [1],tT 1 [2]]
def ac161:ACode:=codeF Pg Tryz.f161 tr161 tl13
def pr161_0_0:PT (List RV):=pRs [pR false [rD dB]]
def ur161_0_0 {β:Type}(g:List RV->β):Bool->β:=pr161_0_0.unc g
def E161_0:EnvK:=EnvK.of [] noSeq
theorem eo161_0:E161_0.Ok Pg:=EnvK.of_ok noSeq_ok TT
abbrev Tf161_0:Type 1:=(α:Type)->Int->Int->(Bool->Op α)->Op α
def f161_0g (α:Type)(a b:Int)(k1:Bool->Op α):Op α:=
 k1 (decide (2<=(w64 (b - a))))
def f161_0:Tf161_0:=sld f161_0g
def pa161_0:PT (List DV):=pA [pV true [(dI .i64),(dI .i64)]]
def Fn161_0 (v:Tf161_0)(α:Type)(k:RT α):Int->Int->Op α:=fun a b=>v α a b (fun c=>ur161_0_0 k c)
def cm161_0:MCode:=(emb ac161)
theorem io161_0:InstOk Pg 161 nt161 ⟨pa161_0,Fn161_0 f161_0⟩:=inst_s eo161_0 followsTry (codeF_is Tryz.func161 (by kernel_rfl)) sh161 cm161_0 (emb_erase _) (emb_good ac161) fun _ _=>by kernel_rfl
abbrev nt120:Nat:=12
def tr120:TG:=[tT 0 [0,1,4],tT 1 [4]]
def ac120:ACode:=codeF Pg Tryz.f120 tr120 tl13
def pr120_0_0:PT (List RV):=pRs [pR true [rD (dI .i64),rD (dI .i64),rD (dI .i64),rD (dI .i64)]]
def ur120_0_0 {β:Type}(g:List RV->β):I4 β:=pr120_0_0.unc g
def E120_0:EnvK:=EnvK.of [] noSeq
theorem eo120_0:E120_0.Ok Pg:=EnvK.of_ok noSeq_ok TT
abbrev Tf120_0:Type 1:=(α:Type)->(Op α)->Op α
def f120_0g (α:Type)(k1:Op α):Op α:=
 k1
def f120_0:Tf120_0:=sld f120_0g
def Fn120_0 (v:Tf120_0)(α:Type)(k:RT α):Int->Int->Op α:=fun a b=>v α (ur120_0_0 k a a b b)
def cm120_0:MCode:=(emb ac120)
theorem io120_0:InstOk Pg 120 nt120 ⟨pa19_0,Fn120_0 f120_0⟩:=inst_s eo120_0 followsTry (codeF_is Tryz.func120 (by kernel_rfl)) sh19 cm120_0 (emb_erase _) (emb_good ac120) fun _ _=>by kernel_rfl
abbrev nt119:Nat:=9
def tr119:TG:=[tT 0 [1],tT 1 [2]]
def ac119:ACode:=codeF Pg Tryz.f119 tr119 tl13
def E119_0:EnvK:=EnvK.of [] noSeq
theorem eo119_0:E119_0.Ok Pg:=EnvK.of_ok noSeq_ok TT
def f119_0g (α:Type)(a b:Int)(k1:Int->Op α):Op α:=
 k1 (Int.fdiv (w64 (a+b)) (2 ^ 1))
def f119_0:Tf19_0:=sld f119_0g
def Fn119_0 (v:Tf19_0)(α:Type)(k:RT α):Int->Int->Op α:=fun a b=>v α a b (fun c=>ur19_0_0 k c)
def cm119_0:MCode:=(emb ac119)
theorem io119_0:InstOk Pg 119 nt119 ⟨pa161_0,Fn119_0 f119_0⟩:=inst_s eo119_0 followsTry (codeF_is Tryz.func119 (by kernel_rfl)) sh161 cm119_0 (emb_erase _) (emb_good ac119) fun _ _=>by kernel_rfl
abbrev nt42:Nat:=20
def sh42:SG:=[(6,iT),(9,iT),(13,iT),(16,iT)]
def tr42:TG:=[tT 0 [2,3,4],tT 1 [4]]
def ac42:ACode:=codeF Pg Tryz.f42 tr42 tl13
def E42_0:EnvK:=EnvK.of [] noSeq
theorem eo42_0:E42_0.Ok Pg:=EnvK.of_ok noSeq_ok TT
abbrev Tf42_0:Type 1:=(α:Type)->Int->Int->Int->Int->(Int->Int->Op α)->Op α
def f42_0g (α:Type)(a b c d:Int)(k1:Int->Int->Op α):Op α:=
 k1 (if (w64 ((w64 (1048576 - b)) - d)) > 0 then (w64 ((w64 (1048576 - b)) - d)) else 0) (if (w64 ((w64 (1048576 - a)) - c)) > 0 then (w64 ((w64 (1048576 - a)) - c)) else 0)
def f42_0:Tf42_0:=sld f42_0g
def pa42_0:PT (List DV):=pA [pV true [(dI .i64),(dI .i64)],pV true [(dI .i64),(dI .i64)]]
def Fn42_0 (v:Tf42_0)(α:Type)(k:RT α):I4 (Op α):=fun a b c d=>v α a b c d (fun e g=>ur13_0_0 k e g)
def cm42_0:MCode:=(emb ac42)
theorem io42_0:InstOk Pg 42 nt42 ⟨pa42_0,Fn42_0 f42_0⟩:=inst_s eo42_0 followsTry (codeF_is Tryz.func42 (by kernel_rfl)) sh42 cm42_0 (emb_erase _) (emb_good ac42) fun _ _=>by kernel_rfl
abbrev nt38:Nat:=10
def sh38:SG:=[(4,iT),(7,iT)]
def tr38:TG:=[tT 0 [1,2],tT 1 [2]]
def ac38:ACode:=codeF Pg Tryz.f38 tr38 tl13
def E38_0:EnvK:=EnvK.of [] noSeq
theorem eo38_0:E38_0.Ok Pg:=EnvK.of_ok noSeq_ok TT
abbrev Tf38_0:Type 1:=(α:Type)->Int->Int->(Int->Int->Op α)->Op α
def f38_0g (α:Type)(a b:Int)(k1:Int->Int->Op α):Op α:=
 k1 (if 1048576 < a then 1048576 else a) (if 1048576 < b then 1048576 else b)
def f38_0:Tf38_0:=sld f38_0g
def Fn38_0 (v:Tf38_0)(α:Type)(k:RT α):Int->Int->Op α:=fun a b=>v α a b (fun c d=>ur13_0_0 k c d)
def cm38_0:MCode:=(emb ac38)
theorem io38_0:InstOk Pg 38 nt38 ⟨pa161_0,Fn38_0 f38_0⟩:=inst_s eo38_0 followsTry (codeF_is Tryz.func38 (by kernel_rfl)) sh38 cm38_0 (emb_erase _) (emb_good ac38) fun _ _=>by kernel_rfl
abbrev nt215:Nat:=11
def tr215:TG:=[tT 0 [0],tT 1 [0,3],tT 2 [0,3,7],tT 3 [0,3],tT 4 [2]]
def tl215:TG:=[tT 2 [0,3]]
def ac215:ACode:=codeF Pg Tryz.f215 tr215 tl215
def td215_7:OT:=tdC (MCode.sub [1,1,0,0] (emb ac215))
def p215_0_0:PT St:=pS [sI 0,sI 3] []
def u215_0_0 {β:Type}(g:St->β):Int->Int->β:=p215_0_0.unc g
def p215_0_1:PT St:=pS [sI 0,sI 3,sY 7 dB] []
def u215_0_1 {β:Type}(g:St->β):Int->Int->Bool->β:=p215_0_1.unc g
def E215_0:EnvK:=EnvK.of [] noSeq
theorem eo215_0:E215_0.Ok Pg:=EnvK.of_ok noSeq_ok TT
def c215_0_7:MCode:=MCode.sub [1,1,0,0,0] (emb ac215)
def S215_0_0 (α:Type)(b a:Int)(kn:Int->Op α)(k1:Int->Bool->Op α):Op α:=
 gK (decide (0<=a)) (cK (decide ((w64 (1048576*2 ^ (min (Int.toNat a) 64))) < b))
 (kn (w64 (a+1)))
 (k1 a (decide ((w64 (1048576*2 ^ (min (Int.toNat a) 64))) < b))))
def R215_0_0 (α:Type)(a:Int)(k1:Int->Bool->Op α):Nat->Int->Op α
 | 0,_=>none
 | n+1,b=>S215_0_0 α a b (R215_0_0 α a k1 n) k1
def L215_0_0g (α:Type)(a:Int)(k1:Int->Bool->Op α)(b:Int):Op α:=R215_0_0 α a k1 fuel b
abbrev TL215_0_0:Type 1:=(α:Type)->Int->(Int->Bool->Op α)->Int->Op α
def L215_0_0:TL215_0_0:=sld L215_0_0g
def F215_0_0 (v:TL215_0_0)(α:Type)(K:KT α):Int->Int->Op α:=fun a b=>v α a (fun c d=>u215_0_1 (K (.exit 0)) a c d) b
theorem r215_0_0 (α:Type)(K:KT α)(Kn:SK α)(a b:Int):u215_0_0 (fun σ=>runM Pg E215_0 sh19 c215_0_7 (thenK (fun σ=>tidyK td215_7 σ Kn) K) σ) a b=S215_0_0 α a b (fun b=>u215_0_0 Kn a b) (fun c d=>u215_0_1 (K (.exit 0)) a c d):=by kernel_rfl
theorem t215_0_0 (α:Type)(K:KT α):∀ (n:Nat) (a b:Int),R215_0_0 α a (fun c d=>u215_0_1 (K (.exit 0)) a c d) n b=u215_0_0 (loopT (runM Pg E215_0 sh19 c215_0_7) td215_7 K n) a b:=by
 intro n
 induction n with
 | zero=>intros;rfl
 | succ n ih=>intro a b;exact (congrArg (fun kn=>S215_0_0 α a b kn (fun c d=>u215_0_1 (K (.exit 0)) a c d)) (funext fun b=>ih a b)).trans (r215_0_0 α K (loopT (runM Pg E215_0 sh19 c215_0_7) td215_7 K n) a b).symm
theorem m215_0_0:∀ (α:Type) (K:KT α),F215_0_0 L215_0_0 α K=p215_0_0.unc fun σ=>loopT (runM Pg E215_0 sh19 c215_0_7) td215_7 K fuel σ:=sld0 (fun α K=>funext fun a=>funext fun b=>t215_0_0 α K fuel a b)
abbrev Tf215_0:Type 1:=(α:Type)->Int->(Int->Op α)->Op α
def f215_0g (α:Type)(a:Int)(k1:Int->Op α):Op α:=
 L215_0_0 α a
 (fun b c=>k1 b) 0
def f215_0:Tf215_0:=sld f215_0g
def pa215_0:PT (List DV):=pA [vI]
def Fn215_0 (v:Tf215_0)(α:Type)(k:RT α):Int->Op α:=fun a=>v α a (fun b=>ur19_0_0 k b)
def cm215_0:MCode:=(MCode.put (.m [⟨p215_0_0,F215_0_0 L215_0_0⟩]) [1,1,0,0] (emb ac215))
theorem io215_0:InstOk Pg 215 nt215 ⟨pa215_0,Fn215_0 f215_0⟩:=inst_s eo215_0 followsTry (codeF_is Tryz.func215 (by kernel_rfl)) sh19 cm215_0 ((put_erase _ _).trans (emb_erase _)) (put_loop (td:=td215_7) (by kernel_rfl) (emb_good ac215) ⟨m215_0_0,TT⟩) fun _ _=>by kernel_rfl
abbrev nt37:Nat:=10
def tr37:TG:=[tT 0 [1,2],tT 1 [2]]
def ac37:ACode:=codeF Pg Tryz.f37 tr37 tl13
def E37_0:EnvK:=EnvK.of [] noSeq
theorem eo37_0:E37_0.Ok Pg:=EnvK.of_ok noSeq_ok TT
def f37_0g (α:Type)(a b:Int)(k1:Int->Int->Op α):Op α:=
 k1 (if a > 0 then a else 0) (if b > 0 then b else 0)
def f37_0:Tf38_0:=sld f37_0g
def Fn37_0 (v:Tf38_0)(α:Type)(k:RT α):Int->Int->Op α:=fun a b=>v α a b (fun c d=>ur13_0_0 k c d)
def cm37_0:MCode:=(emb ac37)
theorem io37_0:InstOk Pg 37 nt37 ⟨pa161_0,Fn37_0 f37_0⟩:=inst_s eo37_0 followsTry (codeF_is Tryz.func37 (by kernel_rfl)) sh38 cm37_0 (emb_erase _) (emb_good ac37) fun _ _=>by kernel_rfl
abbrev nt124:Nat:=2
def tr124:TG:=[tT 0 [0],tT 1 [0]]
def ac124:ACode:=codeF Pg Tryz.f124 tr124 tl13
def pr124_0_0:PT (List RV):=pRs [pR true [rD (dX .f64),rD (dI .i64)]]
def ur124_0_0 {β:Type}(g:List RV->β):Nat->Nat->Int->β:=pr124_0_0.unc g
def E124_0:EnvK:=EnvK.of [] noSeq
theorem eo124_0:E124_0.Ok Pg:=EnvK.of_ok noSeq_ok TT
def f124_0g (α:Type)(k1:Op α):Op α:=
 k1
def f124_0:Tf120_0:=sld f124_0g
def pa124_0:PT (List DV):=pA []
def Fn124_0 (v:Tf120_0)(α:Type)(k:RT α):Op α:=v α (ur124_0_0 k 0 0 0)
def cm124_0:MCode:=(emb ac124)
theorem io124_0:InstOk Pg 124 nt124 ⟨pa124_0,Fn124_0 f124_0⟩:=inst_s eo124_0 followsTry (codeF_is Tryz.func124 (by kernel_rfl)) sh19 cm124_0 (emb_erase _) (emb_good ac124) fun _ _=>by kernel_rfl
abbrev nt123:Nat:=2
def tr123:TG:=[tT 0 [0],tT 1 [0]]
def ac123:ACode:=codeF Pg Tryz.f123 tr123 tl13
def E123_0:EnvK:=EnvK.of [] noSeq
theorem eo123_0:E123_0.Ok Pg:=EnvK.of_ok noSeq_ok TT
def f123_0g (α:Type)(k1:Op α):Op α:=
 k1
def f123_0:Tf120_0:=sld f123_0g
def Fn123_0 (v:Tf120_0)(α:Type)(k:RT α):Op α:=v α (ur124_0_0 k 4697254411347427328 0 0)
def cm123_0:MCode:=(emb ac123)
theorem io123_0:InstOk Pg 123 nt123 ⟨pa124_0,Fn123_0 f123_0⟩:=inst_s eo123_0 followsTry (codeF_is Tryz.func123 (by kernel_rfl)) sh19 cm123_0 (emb_erase _) (emb_good ac123) fun _ _=>by kernel_rfl
abbrev nt174:Nat:=9
def tr174:TG:=[tT 0 [1,2],tT 1 [2]]
def ac174:ACode:=codeF Pg Tryz.f174 tr174 tl13
def E174_0:EnvK:=EnvK.of [] noSeq
theorem eo174_0:E174_0.Ok Pg:=EnvK.of_ok noSeq_ok TT
def f174_0g (α:Type)(a:Int)(k1:Int->Op α):Op α:=
 k1 (w64 (0 - a))
def f174_0:Tf215_0:=sld f174_0g
def Fn174_0 (v:Tf215_0)(α:Type)(k:RT α):Int->Int->Op α:=fun a b=>v α b (fun c=>ur13_0_0 k a c)
def cm174_0:MCode:=(emb ac174)
theorem io174_0:InstOk Pg 174 nt174 ⟨pa161_0,Fn174_0 f174_0⟩:=inst_s eo174_0 followsTry (codeF_is Tryz.func174 (by kernel_rfl)) sh161 cm174_0 (emb_erase _) (emb_good ac174) fun _ _=>by kernel_rfl
abbrev nt133:Nat:=13
def sh133:SG:=[(6,iT),(10,iT)]
def tr133:TG:=[tT 0 [0,1,3],tT 1 [3]]
def ac133:ACode:=codeF Pg Tryz.f133 tr133 tl13
def E133_0:EnvK:=EnvK.of [] noSeq
theorem eo133_0:E133_0.Ok Pg:=EnvK.of_ok noSeq_ok TT
def f133_0g (α:Type)(a b:Int)(k1:Int->Int->Op α):Op α:=
 k1 (w64 (a - b)) (w64 (a+b))
def f133_0:Tf38_0:=sld f133_0g
def pa133_0:PT (List DV):=pA [vI,pV false [(dP [(dI .i64),(dI .i64),(dI .i64)] 0)]]
def Fn133_0 (v:Tf38_0)(α:Type)(k:RT α):I4 (Op α):=fun a e g b=>v α a b (fun c d=>ur13_0_0 k c d)
def cm133_0:MCode:=(emb ac133)
theorem io133_0:InstOk Pg 133 nt133 ⟨pa133_0,Fn133_0 f133_0⟩:=inst_s eo133_0 followsTry (codeF_is Tryz.func133 (by kernel_rfl)) sh133 cm133_0 (emb_erase _) (emb_good ac133) fun _ _=>by kernel_rfl
abbrev nt216:Nat:=25
def tr216:TG:=[tT 0 [0,2],tT 1 [0,2,4],tT 2 [0],tT 3 [0,2],tT 4 [0,2,8],tT 5 [0,2],tT 6 [0,2],tT 7 [0,2,14],tT 8 [0,2],tT 9 [0,2],tT 10 [2]]
def ac216:ACode:=codeF Pg Tryz.f216 tr216 tl13
def p216_0_0:PT St:=pS [sY 0 (dI .u64),sI 2] []
def u216_0_0 {β:Type}(g:St->β):Int->Int->β:=p216_0_0.unc g
def p216_0_1:PT St:=pS [sY 0 (dI .u64),sI 2,sY 4 dB] []
def u216_0_1 {β:Type}(g:St->β):Int->Int->Bool->β:=p216_0_1.unc g
def p216_0_2:PT St:=pS [sY 0 (dI .u64),sI 2,sY 8 dB] []
def u216_0_2 {β:Type}(g:St->β):Int->Int->Bool->β:=p216_0_2.unc g
def p216_0_3:PT St:=pS [sY 0 (dI .u64),sI 2,sY 14 dB] []
def u216_0_3 {β:Type}(g:St->β):Int->Int->Bool->β:=p216_0_3.unc g
def E216_0:EnvK:=EnvK.of [] noSeq
theorem eo216_0:E216_0.Ok Pg:=EnvK.of_ok noSeq_ok TT
def c216_0_17:MCode:=MCode.sub [1,1,1,0] (emb ac216)
abbrev TJ216_0_2:Type 1:=(α:Type)->Int->Int->(Int->Int->Op α)->(Bool->Op α)->Op α
def J216_0_2g (α:Type)(a b:Int)(k1:Int->Int->Op α)(k2:Bool->Op α):Op α:=
 cK (decide (256<=a))
 (k1 (Int.fdiv a (2 ^ 8)) (w64 (b+8)))
 (k2 (decide (256<=a)))
def J216_0_2:TJ216_0_2:=sld J216_0_2g
def F216_0_2 (v:TJ216_0_2)(α:Type)(K:KT α):Int->Int->Op α:=fun b c=>v α b c (fun a d=>u216_0_0 (K .normal) a d) (fun a=>u216_0_3 (K .normal) b c a)
theorem m216_0_2:∀ (α:Type) (K:KT α),F216_0_2 J216_0_2 α K=p216_0_0.unc fun σ=>runM Pg E216_0 sh19 c216_0_17 K σ:=sld0 (fun α K=>by kernel_rfl)
def J216_0_3g (α:Type)(a b:Int)(k1:Int->Int->Op α)(k2:Bool->Op α):Op α:=
 cK (decide (256<=a))
 (k1 (Int.fdiv a (2 ^ 8)) (w64 (b+8)))
 (k2 (decide (256<=a)))
def J216_0_3:TJ216_0_2:=sld J216_0_3g
def F216_0_3 (v:TJ216_0_2)(α:Type)(K:KT α):Int->Int->Bool->Op α:=fun b c e=>v α b c (fun a d=>u216_0_0 (K .normal) a d) (fun a=>u216_0_3 (K .normal) b c a)
theorem m216_0_3:∀ (α:Type) (K:KT α),F216_0_3 J216_0_3 α K=p216_0_2.unc fun σ=>runM Pg E216_0 sh19 c216_0_17 K σ:=sld0 (fun α K=>by kernel_rfl)
def c216_0_10:MCode:=MCode.sub [1,1,0] (emb ac216)
def J216_0_1g (α:Type)(a b:Int)(k1:Int->Int->Op α)(k2:Bool->Op α):Op α:=
 cK (decide (65536<=a))
 (k1 (Int.fdiv a (2 ^ 16)) (w64 (b+16)))
 (k2 (decide (65536<=a)))
def J216_0_1:TJ216_0_2:=sld J216_0_1g
def F216_0_1 (v:TJ216_0_2)(α:Type)(K:KT α):Int->Int->Op α:=fun b c=>v α b c (fun a d=>u216_0_0 (K .normal) a d) (fun a=>u216_0_2 (K .normal) b c a)
theorem m216_0_1:∀ (α:Type) (K:KT α),F216_0_1 J216_0_1 α K=p216_0_0.unc fun σ=>runM Pg E216_0 sh19 c216_0_10 K σ:=sld0 (fun α K=>by kernel_rfl)
def J216_0_4g (α:Type)(a b:Int)(k1:Int->Int->Op α)(k2:Bool->Op α):Op α:=
 cK (decide (65536<=a))
 (k1 (Int.fdiv a (2 ^ 16)) (w64 (b+16)))
 (k2 (decide (65536<=a)))
def J216_0_4:TJ216_0_2:=sld J216_0_4g
def F216_0_4 (v:TJ216_0_2)(α:Type)(K:KT α):Int->Int->Bool->Op α:=fun b c e=>v α b c (fun a d=>u216_0_0 (K .normal) a d) (fun a=>u216_0_2 (K .normal) b c a)
theorem m216_0_4:∀ (α:Type) (K:KT α),F216_0_4 J216_0_4 α K=p216_0_1.unc fun σ=>runM Pg E216_0 sh19 c216_0_10 K σ:=sld0 (fun α K=>by kernel_rfl)
def c216_0_3:MCode:=MCode.sub [1,0] (emb ac216)
abbrev TJ216_0_0:Type 1:=(α:Type)->Int->(Int->Op α)->(Bool->Op α)->Op α
def J216_0_0g (α:Type)(a:Int)(k1:Int->Op α)(k2:Bool->Op α):Op α:=
 cK (decide (4294967296<=a))
 (k1 (Int.fdiv a (2 ^ 32)))
 (k2 (decide (4294967296<=a)))
def J216_0_0:TJ216_0_0:=sld J216_0_0g
def F216_0_0 (v:TJ216_0_0)(α:Type)(K:KT α):Int->Int->Op α:=fun b c=>v α b (fun a=>u216_0_0 (K .normal) a 32) (fun a=>u216_0_1 (K .normal) b c a)
theorem m216_0_0:∀ (α:Type) (K:KT α),F216_0_0 J216_0_0 α K=p216_0_0.unc fun σ=>runM Pg E216_0 sh19 c216_0_3 K σ:=sld0 (fun α K=>by kernel_rfl)
def f216_0g (α:Type)(a:Int)(k1:Int->Op α):Op α:=
 J216_0_0 α a
 (fun b=>J216_0_1 α b 32
 (fun c d=>J216_0_2 α c d
 (fun h i=>sixK (⟨#[0,1,2,2,3,3,3,3,4,4,4,4,4,4,4,4,5,5,5,5,5,5,5,5,5,5,5,5,5,5,5,5,6,6,6,6,6,6,6,6,6,6,6,6,6,6,6,6,6,6,6,6,6,6,6,6,6,6,6,6,6,6,6,6,7,7,7,7,7,7,7,7,7,7,7,7,7,7,7,7,7,7,7,7,7,7,7,7,7,7,7,7,7,7,7,7,7,7,7,7,7,7,7,7,7,7,7,7,7,7,7,7,7,7,7,7,7,7,7,7,7,7,7,7,7,7,7,7,8,8,8,8,8,8,8,8,8,8,8,8,8,8,8,8,8,8,8,8,8,8,8,8,8,8,8,8,8,8,8,8,8,8,8,8,8,8,8,8,8,8,8,8,8,8,8,8,8,8,8,8,8,8,8,8,8,8,8,8,8,8,8,8,8,8,8,8,8,8,8,8,8,8,8,8,8,8,8,8,8,8,8,8,8,8,8,8,8,8,8,8,8,8,8,8,8,8,8,8,8,8,8,8,8,8,8,8,8,8,8,8,8,8,8,8,8,8,8,8,8,8,8,8,8,8,8,8]⟩:BA) (IntKind.wrap .u8 (h))
 (fun j=>k1 (w64 (i+(w64 (((UInt8.toNat j:Nat):Int)))))))
 (fun D=>sixK (⟨#[0,1,2,2,3,3,3,3,4,4,4,4,4,4,4,4,5,5,5,5,5,5,5,5,5,5,5,5,5,5,5,5,6,6,6,6,6,6,6,6,6,6,6,6,6,6,6,6,6,6,6,6,6,6,6,6,6,6,6,6,6,6,6,6,7,7,7,7,7,7,7,7,7,7,7,7,7,7,7,7,7,7,7,7,7,7,7,7,7,7,7,7,7,7,7,7,7,7,7,7,7,7,7,7,7,7,7,7,7,7,7,7,7,7,7,7,7,7,7,7,7,7,7,7,7,7,7,7,8,8,8,8,8,8,8,8,8,8,8,8,8,8,8,8,8,8,8,8,8,8,8,8,8,8,8,8,8,8,8,8,8,8,8,8,8,8,8,8,8,8,8,8,8,8,8,8,8,8,8,8,8,8,8,8,8,8,8,8,8,8,8,8,8,8,8,8,8,8,8,8,8,8,8,8,8,8,8,8,8,8,8,8,8,8,8,8,8,8,8,8,8,8,8,8,8,8,8,8,8,8,8,8,8,8,8,8,8,8,8,8,8,8,8,8,8,8,8,8,8,8,8,8,8,8,8,8]⟩:BA) (IntKind.wrap .u8 (c))
 (fun l=>k1 (w64 (d+(w64 (((UInt8.toNat l:Nat):Int))))))))
 (fun F=>J216_0_3 α b 32
 (fun m o=>sixK (⟨#[0,1,2,2,3,3,3,3,4,4,4,4,4,4,4,4,5,5,5,5,5,5,5,5,5,5,5,5,5,5,5,5,6,6,6,6,6,6,6,6,6,6,6,6,6,6,6,6,6,6,6,6,6,6,6,6,6,6,6,6,6,6,6,6,7,7,7,7,7,7,7,7,7,7,7,7,7,7,7,7,7,7,7,7,7,7,7,7,7,7,7,7,7,7,7,7,7,7,7,7,7,7,7,7,7,7,7,7,7,7,7,7,7,7,7,7,7,7,7,7,7,7,7,7,7,7,7,7,8,8,8,8,8,8,8,8,8,8,8,8,8,8,8,8,8,8,8,8,8,8,8,8,8,8,8,8,8,8,8,8,8,8,8,8,8,8,8,8,8,8,8,8,8,8,8,8,8,8,8,8,8,8,8,8,8,8,8,8,8,8,8,8,8,8,8,8,8,8,8,8,8,8,8,8,8,8,8,8,8,8,8,8,8,8,8,8,8,8,8,8,8,8,8,8,8,8,8,8,8,8,8,8,8,8,8,8,8,8,8,8,8,8,8,8,8,8,8,8,8,8,8,8,8,8,8,8]⟩:BA) (IntKind.wrap .u8 (m))
 (fun p=>k1 (w64 (o+(w64 (((UInt8.toNat p:Nat):Int)))))))
 (fun G=>sixK (⟨#[0,1,2,2,3,3,3,3,4,4,4,4,4,4,4,4,5,5,5,5,5,5,5,5,5,5,5,5,5,5,5,5,6,6,6,6,6,6,6,6,6,6,6,6,6,6,6,6,6,6,6,6,6,6,6,6,6,6,6,6,6,6,6,6,7,7,7,7,7,7,7,7,7,7,7,7,7,7,7,7,7,7,7,7,7,7,7,7,7,7,7,7,7,7,7,7,7,7,7,7,7,7,7,7,7,7,7,7,7,7,7,7,7,7,7,7,7,7,7,7,7,7,7,7,7,7,7,7,8,8,8,8,8,8,8,8,8,8,8,8,8,8,8,8,8,8,8,8,8,8,8,8,8,8,8,8,8,8,8,8,8,8,8,8,8,8,8,8,8,8,8,8,8,8,8,8,8,8,8,8,8,8,8,8,8,8,8,8,8,8,8,8,8,8,8,8,8,8,8,8,8,8,8,8,8,8,8,8,8,8,8,8,8,8,8,8,8,8,8,8,8,8,8,8,8,8,8,8,8,8,8,8,8,8,8,8,8,8,8,8,8,8,8,8,8,8,8,8,8,8,8,8,8,8,8,8]⟩:BA) (IntKind.wrap .u8 (b))
 (fun q=>k1 (w64 (32+(w64 (((UInt8.toNat q:Nat):Int)))))))))
 (fun H=>J216_0_4 α a 0
 (fun e g=>J216_0_2 α e g
 (fun r s=>sixK (⟨#[0,1,2,2,3,3,3,3,4,4,4,4,4,4,4,4,5,5,5,5,5,5,5,5,5,5,5,5,5,5,5,5,6,6,6,6,6,6,6,6,6,6,6,6,6,6,6,6,6,6,6,6,6,6,6,6,6,6,6,6,6,6,6,6,7,7,7,7,7,7,7,7,7,7,7,7,7,7,7,7,7,7,7,7,7,7,7,7,7,7,7,7,7,7,7,7,7,7,7,7,7,7,7,7,7,7,7,7,7,7,7,7,7,7,7,7,7,7,7,7,7,7,7,7,7,7,7,7,8,8,8,8,8,8,8,8,8,8,8,8,8,8,8,8,8,8,8,8,8,8,8,8,8,8,8,8,8,8,8,8,8,8,8,8,8,8,8,8,8,8,8,8,8,8,8,8,8,8,8,8,8,8,8,8,8,8,8,8,8,8,8,8,8,8,8,8,8,8,8,8,8,8,8,8,8,8,8,8,8,8,8,8,8,8,8,8,8,8,8,8,8,8,8,8,8,8,8,8,8,8,8,8,8,8,8,8,8,8,8,8,8,8,8,8,8,8,8,8,8,8,8,8,8,8,8,8]⟩:BA) (IntKind.wrap .u8 (r))
 (fun t=>k1 (w64 (s+(w64 (((UInt8.toNat t:Nat):Int)))))))
 (fun I=>sixK (⟨#[0,1,2,2,3,3,3,3,4,4,4,4,4,4,4,4,5,5,5,5,5,5,5,5,5,5,5,5,5,5,5,5,6,6,6,6,6,6,6,6,6,6,6,6,6,6,6,6,6,6,6,6,6,6,6,6,6,6,6,6,6,6,6,6,7,7,7,7,7,7,7,7,7,7,7,7,7,7,7,7,7,7,7,7,7,7,7,7,7,7,7,7,7,7,7,7,7,7,7,7,7,7,7,7,7,7,7,7,7,7,7,7,7,7,7,7,7,7,7,7,7,7,7,7,7,7,7,7,8,8,8,8,8,8,8,8,8,8,8,8,8,8,8,8,8,8,8,8,8,8,8,8,8,8,8,8,8,8,8,8,8,8,8,8,8,8,8,8,8,8,8,8,8,8,8,8,8,8,8,8,8,8,8,8,8,8,8,8,8,8,8,8,8,8,8,8,8,8,8,8,8,8,8,8,8,8,8,8,8,8,8,8,8,8,8,8,8,8,8,8,8,8,8,8,8,8,8,8,8,8,8,8,8,8,8,8,8,8,8,8,8,8,8,8,8,8,8,8,8,8,8,8,8,8,8,8]⟩:BA) (IntKind.wrap .u8 (e))
 (fun w=>k1 (w64 (g+(w64 (((UInt8.toNat w:Nat):Int))))))))
 (fun J=>J216_0_3 α a 0
 (fun z A=>sixK (⟨#[0,1,2,2,3,3,3,3,4,4,4,4,4,4,4,4,5,5,5,5,5,5,5,5,5,5,5,5,5,5,5,5,6,6,6,6,6,6,6,6,6,6,6,6,6,6,6,6,6,6,6,6,6,6,6,6,6,6,6,6,6,6,6,6,7,7,7,7,7,7,7,7,7,7,7,7,7,7,7,7,7,7,7,7,7,7,7,7,7,7,7,7,7,7,7,7,7,7,7,7,7,7,7,7,7,7,7,7,7,7,7,7,7,7,7,7,7,7,7,7,7,7,7,7,7,7,7,7,8,8,8,8,8,8,8,8,8,8,8,8,8,8,8,8,8,8,8,8,8,8,8,8,8,8,8,8,8,8,8,8,8,8,8,8,8,8,8,8,8,8,8,8,8,8,8,8,8,8,8,8,8,8,8,8,8,8,8,8,8,8,8,8,8,8,8,8,8,8,8,8,8,8,8,8,8,8,8,8,8,8,8,8,8,8,8,8,8,8,8,8,8,8,8,8,8,8,8,8,8,8,8,8,8,8,8,8,8,8,8,8,8,8,8,8,8,8,8,8,8,8,8,8,8,8,8,8]⟩:BA) (IntKind.wrap .u8 (z))
 (fun B=>k1 (w64 (A+(w64 (((UInt8.toNat B:Nat):Int)))))))
 (fun L=>sixK (⟨#[0,1,2,2,3,3,3,3,4,4,4,4,4,4,4,4,5,5,5,5,5,5,5,5,5,5,5,5,5,5,5,5,6,6,6,6,6,6,6,6,6,6,6,6,6,6,6,6,6,6,6,6,6,6,6,6,6,6,6,6,6,6,6,6,7,7,7,7,7,7,7,7,7,7,7,7,7,7,7,7,7,7,7,7,7,7,7,7,7,7,7,7,7,7,7,7,7,7,7,7,7,7,7,7,7,7,7,7,7,7,7,7,7,7,7,7,7,7,7,7,7,7,7,7,7,7,7,7,8,8,8,8,8,8,8,8,8,8,8,8,8,8,8,8,8,8,8,8,8,8,8,8,8,8,8,8,8,8,8,8,8,8,8,8,8,8,8,8,8,8,8,8,8,8,8,8,8,8,8,8,8,8,8,8,8,8,8,8,8,8,8,8,8,8,8,8,8,8,8,8,8,8,8,8,8,8,8,8,8,8,8,8,8,8,8,8,8,8,8,8,8,8,8,8,8,8,8,8,8,8,8,8,8,8,8,8,8,8,8,8,8,8,8,8,8,8,8,8,8,8,8,8,8,8,8,8]⟩:BA) (IntKind.wrap .u8 (a))
 (fun C=>k1 (w64 (0+(w64 (((UInt8.toNat C:Nat):Int)))))))))
def f216_0:Tf215_0:=sld f216_0g
def pa216_0:PT (List DV):=pA [pV false [(dI .u64)]]
def Fn216_0 (v:Tf215_0)(α:Type)(k:RT α):Int->Op α:=fun a=>v α a (fun b=>ur19_0_0 k b)
def cm216_0:MCode:=(MCode.put (.m [⟨p216_0_0,F216_0_0 J216_0_0⟩]) [1] (MCode.put (.m [⟨p216_0_0,F216_0_1 J216_0_1⟩,⟨p216_0_1,F216_0_4 J216_0_4⟩]) [1,1] (MCode.put (.m [⟨p216_0_0,F216_0_2 J216_0_2⟩,⟨p216_0_2,F216_0_3 J216_0_3⟩]) [1,1,1] (emb ac216))))
theorem io216_0:InstOk Pg 216 nt216 ⟨pa216_0,Fn216_0 f216_0⟩:=inst_s eo216_0 followsTry (codeF_is Tryz.func216 (by kernel_rfl)) sh19 cm216_0 ((put_erase _ _).trans ((put_erase _ _).trans ((put_erase _ _).trans (emb_erase _)))) (put_seq (by kernel_rfl) (put_seq (by kernel_rfl) (put_seq (by kernel_rfl) (emb_good ac216) ⟨m216_0_2,m216_0_3,TT⟩) ⟨m216_0_1,m216_0_4,TT⟩) ⟨m216_0_0,TT⟩) fun _ _=>by kernel_rfl
abbrev nt184:Nat:=51
def tr184:TG:=[tT 0 [0,1],tT 1 [0,1,6],tT 2 [0,1,6,7],tT 3 [0,1,6,7,8],tT 4 [0,1,6,7,8,9],tT 5 [0,1,6,7,8,9,10],tT 6 [0,1,6,7,9,11],tT 7 [0,1,6,7,9,11,12],tT 8 [0,1,6,7,9,12,13],tT 9 [0,1,7,9,12,13],tT 10 [0,1,4],tT 11 [4,5]]
def ac184:ACode:=codeF Pg Tryz.f184 tr184 tl13
def pr184_0_0:PT (List RV):=pRs [pR false [rD (dI .u64)],pR false [rD (dI .u64)]]
def ur184_0_0 {β:Type}(g:List RV->β):Int->Int->β:=pr184_0_0.unc g
def E184_0:EnvK:=EnvK.of [] noSeq
theorem eo184_0:E184_0.Ok Pg:=EnvK.of_ok noSeq_ok TT
def f184_0g (α:Type)(a b:Int)(k1:Int->Int->Op α):Op α:=
 k1 (IntKind.wrap .u64 ((IntKind.wrap .u64 ((IntKind.wrap .u64 ((Int.fdiv a (2 ^ 32))*(Int.fdiv b (2 ^ 32))))+(Int.fdiv (IntKind.wrap .u64 ((IntKind.wrap .u64 ((Int.fdiv a (2 ^ 32))*(iAnd .u64 b 4294967295)))+(Int.fdiv (IntKind.wrap .u64 ((iAnd .u64 a 4294967295)*(iAnd .u64 b 4294967295))) (2 ^ 32)))) (2 ^ 32))))+(Int.fdiv (IntKind.wrap .u64 ((iAnd .u64 (IntKind.wrap .u64 ((IntKind.wrap .u64 ((Int.fdiv a (2 ^ 32))*(iAnd .u64 b 4294967295)))+(Int.fdiv (IntKind.wrap .u64 ((iAnd .u64 a 4294967295)*(iAnd .u64 b 4294967295))) (2 ^ 32)))) 4294967295)+(IntKind.wrap .u64 ((iAnd .u64 a 4294967295)*(Int.fdiv b (2 ^ 32)))))) (2 ^ 32)))) (IntKind.wrap .u64 (a*b))
def f184_0:Tf38_0:=sld f184_0g
def pa184_0:PT (List DV):=pA [pV false [(dI .u64)],pV false [(dI .u64)]]
def Fn184_0 (v:Tf38_0)(α:Type)(k:RT α):Int->Int->Op α:=fun a b=>v α a b (fun c d=>ur184_0_0 k c d)
def cm184_0:MCode:=(emb ac184)
theorem io184_0:InstOk Pg 184 nt184 ⟨pa184_0,Fn184_0 f184_0⟩:=inst_s eo184_0 followsTry (codeF_is Tryz.func184 (by kernel_rfl)) sh19 cm184_0 (emb_erase _) (emb_good ac184) fun _ _=>by kernel_rfl
abbrev nt142:Nat:=7
def tr142:TG:=[tT 0 [0],tT 1 [2]]
def ac142:ACode:=codeF Pg Tryz.f142 tr142 tl13
def E142_0:EnvK:=EnvK.of [] noSeq
theorem eo142_0:E142_0.Ok Pg:=EnvK.of_ok noSeq_ok TT
def f142_0g (α:Type)(a:Int)(k1:Int->Op α):Op α:=
 k1 (if (w64 (0 - a)) > a then (w64 (0 - a)) else a)
def f142_0:Tf215_0:=sld f142_0g
def Fn142_0 (v:Tf215_0)(α:Type)(k:RT α):Int->Op α:=fun a=>v α a (fun b=>ur19_0_0 k b)
def cm142_0:MCode:=(emb ac142)
theorem io142_0:InstOk Pg 142 nt142 ⟨pa215_0,Fn142_0 f142_0⟩:=inst_s eo142_0 followsTry (codeF_is Tryz.func142 (by kernel_rfl)) sh19 cm142_0 (emb_erase _) (emb_good ac142) fun _ _=>by kernel_rfl
abbrev nt178:Nat:=16
def sh178:SG:=[(6,iT),(8,iT),(11,iT),(13,iT)]
def tr178:TG:=[tT 0 [2,3,4],tT 1 [4]]
def ac178:ACode:=codeF Pg Tryz.f178 tr178 tl13
def E178_0:EnvK:=EnvK.of [] noSeq
theorem eo178_0:E178_0.Ok Pg:=EnvK.of_ok noSeq_ok TT
def f178_0g (α:Type)(a b c d:Int)(k1:Int->Int->Op α):Op α:=
 k1 (w64 (a - c)) (w64 (b - d))
def f178_0:Tf42_0:=sld f178_0g
def Fn178_0 (v:Tf42_0)(α:Type)(k:RT α):I4 (Op α):=fun a b c d=>v α a b c d (fun e g=>ur13_0_0 k e g)
def cm178_0:MCode:=(emb ac178)
theorem io178_0:InstOk Pg 178 nt178 ⟨pa42_0,Fn178_0 f178_0⟩:=inst_s eo178_0 followsTry (codeF_is Tryz.func178 (by kernel_rfl)) sh178 cm178_0 (emb_erase _) (emb_good ac178) fun _ _=>by kernel_rfl
abbrev nt183:Nat:=5
def tr183:TG:=[tT 0 [0],tT 1 [2]]
def ac183:ACode:=codeF Pg Tryz.f183 tr183 tl13
def pr183_0_0:PT (List RV):=pRs [pR false [rD (dF .f64)]]
def ur183_0_0 {β:Type}(g:List RV->β):Nat->β:=pr183_0_0.unc g
def E183_0:EnvK:=EnvK.of [] noSeq
theorem eo183_0:E183_0.Ok Pg:=EnvK.of_ok noSeq_ok TT
abbrev Tf183_0:Type 1:=(α:Type)->Nat->(Nat->Op α)->Op α
def f183_0g (α:Type)(a:Nat)(k1:Nat->Op α):Op α:=
 flK ((FloatKind.format .f64).sqrt a)
 (fun b=>k1 b)
def f183_0:Tf183_0:=sld f183_0g
def pa183_0:PT (List DV):=pA [pV false [(dF .f64)]]
def Fn183_0 (v:Tf183_0)(α:Type)(k:RT α):Nat->Op α:=fun a=>v α a (fun b=>ur183_0_0 k b)
def cm183_0:MCode:=(emb ac183)
theorem io183_0:InstOk Pg 183 nt183 ⟨pa183_0,Fn183_0 f183_0⟩:=inst_s eo183_0 followsTry (codeF_is Tryz.func183 (by kernel_rfl)) sh19 cm183_0 (emb_erase _) (emb_good ac183) fun _ _=>by kernel_rfl
abbrev nt175:Nat:=14
def sh175:SG:=[(4,iT),(6,iT),(9,iT),(11,iT)]
def tr175:TG:=[tT 0 [1],tT 1 [2]]
def ac175:ACode:=codeF Pg Tryz.f175 tr175 tl13
def E175_0:EnvK:=EnvK.of [] noSeq
theorem eo175_0:E175_0.Ok Pg:=EnvK.of_ok noSeq_ok TT
def f175_0g (α:Type)(a b:Int)(k1:Int->Op α):Op α:=
 k1 (w64 ((w64 (a*a))+(w64 (b*b))))
def f175_0:Tf19_0:=sld f175_0g
def Fn175_0 (v:Tf19_0)(α:Type)(k:RT α):Int->Int->Op α:=fun a b=>v α a b (fun c=>ur19_0_0 k c)
def cm175_0:MCode:=(emb ac175)
theorem io175_0:InstOk Pg 175 nt175 ⟨pa161_0,Fn175_0 f175_0⟩:=inst_s eo175_0 followsTry (codeF_is Tryz.func175 (by kernel_rfl)) sh175 cm175_0 (emb_erase _) (emb_good ac175) fun _ _=>by kernel_rfl
abbrev nt170:Nat:=28
def sh170:SG:=[(6,iT),(8,iT),(11,iT),(13,iT),(17,iT),(19,iT),(22,iT),(24,iT)]
def tr170:TG:=[tT 0 [2,3,4],tT 1 [4]]
def ac170:ACode:=codeF Pg Tryz.f170 tr170 tl13
def E170_0:EnvK:=EnvK.of [] noSeq
theorem eo170_0:E170_0.Ok Pg:=EnvK.of_ok noSeq_ok TT
def f170_0g (α:Type)(a b c d:Int)(k1:Int->Int->Op α):Op α:=
 k1 (w64 ((w64 (a*c)) - (w64 (b*d)))) (w64 ((w64 (a*d))+(w64 (b*c))))
def f170_0:Tf42_0:=sld f170_0g
def Fn170_0 (v:Tf42_0)(α:Type)(k:RT α):I4 (Op α):=fun a b c d=>v α a b c d (fun e g=>ur13_0_0 k e g)
def cm170_0:MCode:=(emb ac170)
theorem io170_0:InstOk Pg 170 nt170 ⟨pa42_0,Fn170_0 f170_0⟩:=inst_s eo170_0 followsTry (codeF_is Tryz.func170 (by kernel_rfl)) sh170 cm170_0 (emb_erase _) (emb_good ac170) fun _ _=>by kernel_rfl
abbrev nt168:Nat:=16
def tr168:TG:=[tT 0 [2,3,4],tT 1 [4]]
def ac168:ACode:=codeF Pg Tryz.f168 tr168 tl13
def E168_0:EnvK:=EnvK.of [] noSeq
theorem eo168_0:E168_0.Ok Pg:=EnvK.of_ok noSeq_ok TT
def f168_0g (α:Type)(a b c d:Int)(k1:Int->Int->Op α):Op α:=
 k1 (w64 (a+c)) (w64 (b+d))
def f168_0:Tf42_0:=sld f168_0g
def Fn168_0 (v:Tf42_0)(α:Type)(k:RT α):I4 (Op α):=fun a b c d=>v α a b c d (fun e g=>ur13_0_0 k e g)
def cm168_0:MCode:=(emb ac168)
theorem io168_0:InstOk Pg 168 nt168 ⟨pa42_0,Fn168_0 f168_0⟩:=inst_s eo168_0 followsTry (codeF_is Tryz.func168 (by kernel_rfl)) sh178 cm168_0 (emb_erase _) (emb_good ac168) fun _ _=>by kernel_rfl
abbrev nt181:Nat:=16
def sh181:SG:=[(9,iT),(12,iT),(15,iS 2)]
def tr181:TG:=[tT 0 [1,2,4],tT 1 [2,4,5,6],tT 2 [2,4,5,6,7],tT 3 [2,4,5,6],tT 4 [2,4,5,6],tT 5 [4]]
def tl181:TG:=[tT 2 [2,4,5,6]]
def ac181:ACode:=codeF Pg Tryz.f181 tr181 tl181
def td181_7:OT:=tdC (MCode.sub [1,0,1,0] (emb ac181))
def p181_0_0:PT St:=pS [sP 2,sP 4,sI 5,sI 6] [eBox 2 [xI,xI],eBox 4 [xI,xI]]
def u181_0_0 {β:Type}(g:St->β):I6 β:=p181_0_0.unc g
def p181_0_1:PT St:=pS [sP 2,sP 4,sI 5,sI 6,sY 7 dB] [eBox 2 [xI,xI],eBox 4 [xI,xI]]
def u181_0_1 {β:Type}(g:St->β):Int->Int->Bool->I4 β:=p181_0_1.unc g
def E181_0:EnvK:=EnvK.of [] noSeq
theorem eo181_0:E181_0.Ok Pg:=EnvK.of_ok noSeq_ok TT
def c181_0_7:MCode:=MCode.sub [1,0,1,0,0] (emb ac181)
def S181_0_0 (α:Type)(b a c d:Int)(kn:Int->Int->Int->Op α)(k1:Int->Bool->Int->Int->Op α):Op α:=
 cK (decide (a < b))
 (kn (w64 (a+1)) (w64 (0 - d)) c)
 (k1 a (decide (a < b)) c d)
def R181_0_0 (α:Type)(a:Int)(k1:Int->Bool->Int->Int->Op α):Nat->Int->Int->Int->Op α
 | 0,_,_,_=>none
 | n+1,b,c,d=>S181_0_0 α a b c d (R181_0_0 α a k1 n) k1
def L181_0_0g (α:Type)(a:Int)(k1:Int->Bool->Int->Int->Op α)(b c d:Int):Op α:=R181_0_0 α a k1 fuel b c d
abbrev TL181_0_0:Type 1:=(α:Type)->Int->(Int->Bool->Int->Int->Op α)->Int->Int->Int->Op α
def L181_0_0:TL181_0_0:=sld L181_0_0g
def F181_0_0 (v:TL181_0_0)(α:Type)(K:KT α):I6 (Op α):=fun a b c d e g=>v α a (fun h i j l=>u181_0_1 (K (.exit 0)) a h i j l e g) b c d
theorem r181_0_0 (α:Type)(K:KT α)(Kn:SK α)(a b c d e g:Int):u181_0_0 (fun σ=>runM Pg E181_0 sh181 c181_0_7 (thenK (fun σ=>tidyK td181_7 σ Kn) K) σ) a b c d e g=S181_0_0 α a b c d (fun b c d=>u181_0_0 Kn a b c d e g) (fun h i j l=>u181_0_1 (K (.exit 0)) a h i j l e g):=by kernel_rfl
theorem t181_0_0 (α:Type)(K:KT α):∀ (n:Nat) (a b c d e g:Int),R181_0_0 α a (fun h i j l=>u181_0_1 (K (.exit 0)) a h i j l e g) n b c d=u181_0_0 (loopT (runM Pg E181_0 sh181 c181_0_7) td181_7 K n) a b c d e g:=by
 intro n
 induction n with
 | zero=>intros;rfl
 | succ n ih=>intro a b c d e g;exact (congrArg (fun kn=>S181_0_0 α a b c d kn (fun h i j l=>u181_0_1 (K (.exit 0)) a h i j l e g)) (funext fun b=>funext fun c=>funext fun d=>ih a b c d e g)).trans (r181_0_0 α K (loopT (runM Pg E181_0 sh181 c181_0_7) td181_7 K n) a b c d e g).symm
theorem m181_0_0:∀ (α:Type) (K:KT α),F181_0_0 L181_0_0 α K=p181_0_0.unc fun σ=>loopT (runM Pg E181_0 sh181 c181_0_7) td181_7 K fuel σ:=sld0 (fun α K=>funext fun a=>funext fun b=>funext fun c=>funext fun d=>funext fun e=>funext fun g=>t181_0_0 α K fuel a b c d e g)
abbrev Tf181_0:Type 1:=(α:Type)->Int->Int->Int->(Int->Int->Op α)->Op α
def f181_0g (α:Type)(a b c:Int)(k1:Int->Int->Op α):Op α:=
 L181_0_0 α c
 (fun g h d e=>k1 d e) 0 a b
def f181_0:Tf181_0:=sld f181_0g
def pa181_0:PT (List DV):=pA [pV true [(dI .i64),(dI .i64)],vI]
def Fn181_0 (v:Tf181_0)(α:Type)(k:RT α):Int->Int->Int->Op α:=fun a b c=>v α a b c (fun d e=>ur13_0_0 k d e)
def cm181_0:MCode:=(MCode.put (.m [⟨p181_0_0,F181_0_0 L181_0_0⟩]) [1,0,1,0] (emb ac181))
theorem io181_0:InstOk Pg 181 nt181 ⟨pa181_0,Fn181_0 f181_0⟩:=inst_s eo181_0 followsTry (codeF_is Tryz.func181 (by kernel_rfl)) sh181 cm181_0 ((put_erase _ _).trans (emb_erase _)) (put_loop (td:=td181_7) (by kernel_rfl) (emb_good ac181) ⟨m181_0_0,TT⟩) fun _ _=>by kernel_rfl
abbrev nt188:Nat:=10
def tr188:TG:=[tT 0 [0,2],tT 1 [2]]
def ac188:ACode:=codeF Pg Tryz.f188 tr188 tl13
def E188_0:EnvK:=EnvK.of [] noSeq
theorem eo188_0:E188_0.Ok Pg:=EnvK.of_ok noSeq_ok TT
abbrev Tf188_0:Type 1:=(α:Type)->Nat->Nat->(Int->Int->Op α)->Op α
def f188_0g (α:Type)(a b:Nat)(k1:Int->Int->Op α):Op α:=
 ivK (f2i .f64 a .i64)
 (fun c=>ivK (f2i .f64 b .i64)
 (fun d=>k1 c d))
def f188_0:Tf188_0:=sld f188_0g
def pa188_0:PT (List DV):=pA [pV false [(dX .f64)]]
def Fn188_0 (v:Tf188_0)(α:Type)(k:RT α):Nat->Nat->Op α:=fun a b=>v α a b (fun c d=>ur13_0_0 k c d)
def cm188_0:MCode:=(emb ac188)
theorem io188_0:InstOk Pg 188 nt188 ⟨pa188_0,Fn188_0 f188_0⟩:=inst_s eo188_0 followsTry (codeF_is Tryz.func188 (by kernel_rfl)) sh19 cm188_0 (emb_erase _) (emb_good ac188) fun _ _=>by kernel_rfl
abbrev nt187:Nat:=7
def tr187:TG:=[tT 0 [0],tT 1 [2]]
def ac187:ACode:=codeF Pg Tryz.f187 tr187 tl13
def E187_0:EnvK:=EnvK.of [] noSeq
theorem eo187_0:E187_0.Ok Pg:=EnvK.of_ok noSeq_ok TT
def f187_0g (α:Type)(a:Nat)(k1:Nat->Op α):Op α:=
 k1 (Int.toNat (iAndNot .u64 ((a:Nat):Int) 9223372036854775808))
def f187_0:Tf183_0:=sld f187_0g
def Fn187_0 (v:Tf183_0)(α:Type)(k:RT α):Nat->Op α:=fun a=>v α a (fun b=>ur183_0_0 k b)
def cm187_0:MCode:=(emb ac187)
theorem io187_0:InstOk Pg 187 nt187 ⟨pa183_0,Fn187_0 f187_0⟩:=inst_s eo187_0 followsTry (codeF_is Tryz.func187 (by kernel_rfl)) sh19 cm187_0 (emb_erase _) (emb_good ac187) fun _ _=>by kernel_rfl
abbrev nt204:Nat:=7
def tr204:TG:=[tT 0 [0],tT 1 [2],tT 2 [2]]
def ac204:ACode:=codeF Pg Tryz.f204 tr204 tl13
def pr204_0_0:PT (List RV):=pRs [pR false [rD (dNan .f64)]]
def ur204_0_0 {β:Type}(g:List RV->β):β:=pr204_0_0.unc g
def E204_0:EnvK:=EnvK.of [] noSeq
theorem eo204_0:E204_0.Ok Pg:=EnvK.of_ok noSeq_ok TT
abbrev Tf204_0:Type 1:=(α:Type)->Nat->(Op α)->(Nat->Op α)->Op α
def f204_0g (α:Type)(a:Nat)(k1:Op α)(k2:Nat->Op α):Op α:=
 cK (isNaNb .f64 a)
 (k1)
 (k2 (truncF a))
def f204_0:Tf204_0:=sld f204_0g
def Fn204_0 (v:Tf204_0)(α:Type)(k:RT α):Nat->Op α:=fun a=>v α a (ur204_0_0 k ) (fun b=>ur183_0_0 k b)
def cm204_0:MCode:=(emb ac204)
theorem io204_0:InstOk Pg 204 nt204 ⟨pa183_0,Fn204_0 f204_0⟩:=inst_s eo204_0 followsTry (codeF_is Tryz.func204 (by kernel_rfl)) sh19 cm204_0 (emb_erase _) (emb_good ac204) fun _ _=>by kernel_rfl
abbrev nt172:Nat:=4
def tr172:TG:=[tT 0 [0],tT 1 [3],tT 2 [2],tT 3 [2]]
def ac172:ACode:=codeF Pg Tryz.f172 tr172 tl13
def E172_0:EnvK:=EnvK.of [] noSeq
theorem eo172_0:E172_0.Ok Pg:=EnvK.of_ok noSeq_ok TT
abbrev Tf172_0:Type 1:=(α:Type)->Bool->(Int->Op α)->Op α
def f172_0g (α:Type)(a:Bool)(k1:Int->Op α):Op α:=
 cK a
 (k1 1)
 (k1 0)
def f172_0:Tf172_0:=sld f172_0g
def pa172_0:PT (List DV):=pA [pV false [dB]]
def Fn172_0 (v:Tf172_0)(α:Type)(k:RT α):Bool->Op α:=fun a=>v α a (fun b=>ur19_0_0 k b)
def cm172_0:MCode:=(emb ac172)
theorem io172_0:InstOk Pg 172 nt172 ⟨pa172_0,Fn172_0 f172_0⟩:=inst_s eo172_0 followsTry (codeF_is Tryz.func172 (by kernel_rfl)) sh19 cm172_0 (emb_erase _) (emb_good ac172) fun _ _=>by kernel_rfl
abbrev nt83:Nat:=12
def sh83:SG:=[(11,[.cpx .f64,.int .i64])]
def tr83:TG:=[tT 0 [0,2,4,6],tT 1 [0,4,6],tT 2 [0,6]]
def ac83:ACode:=codeF Pg Tryz.f83 tr83 tl13
def pr83_0_0:PT (List RV):=pRs [pR true [rD (dX .f64),rD (dI .i64)],pR true [rD (dI .i64),rD (dI .i64),rD (dI .i64),rD (dI .i64),rD (dI .i64),rD (dI .i64),rD (dI .i64),rD dL,rD (dI .i64),rD (dI .i64)]]
def ur83_0_0 {β:Type}(g:List RV->β):Nat->Nat->Int->Int->Int->Int->Int->Int->Int->Int->Rows->Int->Int->β:=pr83_0_0.unc g
def E83_0:EnvK:=EnvK.of [] noSeq
theorem eo83_0:E83_0.Ok Pg:=EnvK.of_ok noSeq_ok TT
def f83_0g (α:Type)(k1:Op α):Op α:=
 k1
def f83_0:Tf120_0:=sld f83_0g
def pa83_0:PT (List DV):=pA [pV false [(dMr [(dI .i64),(dI .i64),(dI .i64),(dI .i64),(dI .i64),(dI .i64),(dI .i64),dL,(dI .i64),(dI .i64)] 0)],pV true [(dX .f64),(dI .i64)],vI]
def Fn83_0 (v:Tf120_0)(α:Type)(k:RT α):Int->Int->Int->Int->Int->Int->Int->Rows->Int->Int->Nat->Nat->Int->Int->Op α:=fun q a b c d e g h i j l m o p=>v α (ur83_0_0 k l m o p a b c d e g h i j)
def cm83_0:MCode:=(emb ac83)
theorem io83_0:InstOk Pg 83 nt83 ⟨pa83_0,Fn83_0 f83_0⟩:=inst_s eo83_0 followsTry (codeF_is Tryz.func83 (by kernel_rfl)) sh83 cm83_0 (emb_erase _) (emb_good ac83) fun _ _=>by kernel_rfl
abbrev nt201:Nat:=10
def tr201:TG:=[tT 0 [1],tT 1 [2]]
def ac201:ACode:=codeF Pg Tryz.f201 tr201 tl13
def pr201_0_0:PT (List RV):=pRs [pR false [rD (dX .f64)]]
def ur201_0_0 {β:Type}(g:List RV->β):Nat->Nat->β:=pr201_0_0.unc g
def E201_0:EnvK:=EnvK.of [] noSeq
theorem eo201_0:E201_0.Ok Pg:=EnvK.of_ok noSeq_ok TT
abbrev Tf201_0:Type 1:=(α:Type)->Int->Int->(Nat->Nat->Op α)->Op α
def f201_0g (α:Type)(a b:Int)(k1:Nat->Nat->Op α):Op α:=
 k1 (FloatKind.nearest .f64 a) (FloatKind.nearest .f64 b)
def f201_0:Tf201_0:=sld f201_0g
def Fn201_0 (v:Tf201_0)(α:Type)(k:RT α):Int->Int->Op α:=fun a b=>v α a b (fun c d=>ur201_0_0 k c d)
def cm201_0:MCode:=(emb ac201)
theorem io201_0:InstOk Pg 201 nt201 ⟨pa161_0,Fn201_0 f201_0⟩:=inst_s eo201_0 followsTry (codeF_is Tryz.func201 (by kernel_rfl)) sh38 cm201_0 (emb_erase _) (emb_good ac201) fun _ _=>by kernel_rfl
abbrev nt88:Nat:=16
def tr88:TG:=[tT 0 [0,1],tT 1 [0,1,5],tT 2 [5,12],tT 3 [5],tT 4 [4]]
def ac88:ACode:=codeF Pg Tryz.f88 tr88 tl13
def E88_0:EnvK:=EnvK.of [] noSeq
theorem eo88_0:E88_0.Ok Pg:=EnvK.of_ok noSeq_ok TT
def f88_0g (α:Type)(b a:Int)(k1:Int->Op α):Op α:=
 gK (a != 0) (gK (a != 0) (cK (decide ((Int.tmod b a) < 0))
 (k1 (w64 ((w64 (Int.tdiv b a)) - 1)))
 (k1 (w64 (Int.tdiv b a)))))
def f88_0:Tf19_0:=sld f88_0g
def Fn88_0 (v:Tf19_0)(α:Type)(k:RT α):Int->Int->Op α:=fun a b=>v α a b (fun c=>ur19_0_0 k c)
def cm88_0:MCode:=(emb ac88)
theorem io88_0:InstOk Pg 88 nt88 ⟨pa19_0,Fn88_0 f88_0⟩:=inst_s eo88_0 followsTry (codeF_is Tryz.func88 (by kernel_rfl)) sh19 cm88_0 (emb_erase _) (emb_good ac88) fun _ _=>by kernel_rfl
abbrev nt146:Nat:=15
def tr146:TG:=[tT 0 [0,1,2],tT 1 [6]]
def ac146:ACode:=codeF Pg Tryz.f146 tr146 tl13
def E146_0:EnvK:=EnvK.of [] noSeq
theorem eo146_0:E146_0.Ok Pg:=EnvK.of_ok noSeq_ok TT
abbrev Tf146_0:Type 1:=(α:Type)->Int->Int->Int->(Bool->Op α)->Op α
def f146_0g (α:Type)(a b c:Int)(k1:Bool->Op α):Op α:=
 cK (decide (b<=a))
 (k1 (decide (a<=c)))
 (k1 false)
def f146_0:Tf146_0:=sld f146_0g
def pa146_0:PT (List DV):=pA [vI,vI,vI]
def Fn146_0 (v:Tf146_0)(α:Type)(k:RT α):Int->Int->Int->Op α:=fun a b c=>v α a b c (fun d=>ur161_0_0 k d)
def cm146_0:MCode:=(emb ac146)
theorem io146_0:InstOk Pg 146 nt146 ⟨pa146_0,Fn146_0 f146_0⟩:=inst_s eo146_0 followsTry (codeF_is Tryz.func146 (by kernel_rfl)) sh19 cm146_0 (emb_erase _) (emb_good ac146) fun _ _=>by kernel_rfl
abbrev nt40:Nat:=11
def tr40:TG:=[tT 0 [0,1],tT 1 [4]]
def ac40:ACode:=codeF Pg Tryz.f40 tr40 tl13
def E40_0:EnvK:=EnvK.of [] noSeq
theorem eo40_0:E40_0.Ok Pg:=EnvK.of_ok noSeq_ok TT
def f40_0g (α:Type)(b a:Int)(k1:Int->Op α):Op α:=
 gK (a != 0) (k1 (w64 (Int.tdiv (w64 ((w64 (b+a)) - 1)) a)))
def f40_0:Tf19_0:=sld f40_0g
def Fn40_0 (v:Tf19_0)(α:Type)(k:RT α):Int->Int->Op α:=fun a b=>v α a b (fun c=>ur19_0_0 k c)
def cm40_0:MCode:=(emb ac40)
theorem io40_0:InstOk Pg 40 nt40 ⟨pa19_0,Fn40_0 f40_0⟩:=inst_s eo40_0 followsTry (codeF_is Tryz.func40 (by kernel_rfl)) sh19 cm40_0 (emb_erase _) (emb_good ac40) fun _ _=>by kernel_rfl
abbrev nt39:Nat:=8
def tr39:TG:=[tT 0 [0,1],tT 1 [4]]
def ac39:ACode:=codeF Pg Tryz.f39 tr39 tl13
def E39_0:EnvK:=EnvK.of [] noSeq
theorem eo39_0:E39_0.Ok Pg:=EnvK.of_ok noSeq_ok TT
def f39_0g (α:Type)(b a:Int)(k1:Int->Op α):Op α:=
 gK (a != 0) (k1 (w64 (Int.tdiv b a)))
def f39_0:Tf19_0:=sld f39_0g
def Fn39_0 (v:Tf19_0)(α:Type)(k:RT α):Int->Int->Op α:=fun a b=>v α a b (fun c=>ur19_0_0 k c)
def cm39_0:MCode:=(emb ac39)
theorem io39_0:InstOk Pg 39 nt39 ⟨pa19_0,Fn39_0 f39_0⟩:=inst_s eo39_0 followsTry (codeF_is Tryz.func39 (by kernel_rfl)) sh19 cm39_0 (emb_erase _) (emb_good ac39) fun _ _=>by kernel_rfl
abbrev nt82:Nat:=62
def sh82:SG:=[(14,iT),(19,iT),(27,[.sl]),(34,[.sl]),(37,iS 5),(38,iS 5),(40,iS 2),(42,iT),(48,iT),(54,iT),(61,iT)]
def tr82:TG:=[tT 0 [0,1,4],tT 1 [0,1,4,7],tT 2 [0,4,5],tT 3 [0,1,4,21],tT 4 [0,4,6],tT 5 [0,4,5],tT 6 [0,4,5]]
def ac82:ACode:=codeF Pg Tryz.f82 tr82 tl13
def pr82_0_0:PT (List RV):=pRs [pR true [rD (dI .i64),rD (dI .i64)],wI,pR true [rD (dI .i64),rD (dI .i64),rD (dI .i64),rD (dI .i64),rD (dI .i64),rD (dI .i64),rD (dI .i64),rD dL,rD (dI .i64),rD (dI .i64)]]
def ur82_0_0 {β:Type}(g:List RV->β):Int->Int->Int->Int->Int->Int->Int->Int->Int->Int->Rows->Int->Int->β:=pr82_0_0.unc g
def E82_0:EnvK:=EnvK.of [] noSeq
theorem eo82_0:E82_0.Ok Pg:=EnvK.of_ok noSeq_ok TT
abbrev Tf82_0:Type 1:=(α:Type)->Int->Rows->Int->Int->Int->(Int->Int->Int->Op α)->Op α
def f82_0g (α:Type)(b:Int)(c:Rows)(d e a:Int)(k1:Int->Int->Int->Op α):Op α:=
 cK (a == 0)
 (k1 b b 0)
 (cK (decide (a<=((List.length c:Nat):Int)))
 (rowK c (w64 (a - 1)) [.int .i64,.int .i64,.int .i64,.int .i64,.int .i64]
 (fun g h j l i=>k1 g h i))
 (k1 d d e))
def f82_0:Tf82_0:=sld f82_0g
def pa82_0:PT (List DV):=pA [pV false [(dMr [(dI .i64),(dI .i64),(dI .i64),(dI .i64),(dI .i64),(dI .i64),(dI .i64),dL,(dI .i64),(dI .i64)] 0)],vI]
def Fn82_0 (v:Tf82_0)(α:Type)(k:RT α):Int->Int->Int->Int->Int->Int->Int->Rows->Int->Int->Int->Op α:=fun e a g h i j l b c d m=>v α a b c d m (fun o p q=>ur82_0_0 k o p q e a g h i j l b c d)
def cm82_0:MCode:=(emb ac82)
theorem io82_0:InstOk Pg 82 nt82 ⟨pa82_0,Fn82_0 f82_0⟩:=inst_s eo82_0 followsTry (codeF_is Tryz.func82 (by kernel_rfl)) sh82 cm82_0 (emb_erase _) (emb_good ac82) fun _ _=>by kernel_rfl
abbrev nt110:Nat:=15
def tr110:TG:=[tT 0 [0,1,2],tT 1 [6]]
def ac110:ACode:=codeF Pg Tryz.f110 tr110 tl13
def E110_0:EnvK:=EnvK.of [] noSeq
theorem eo110_0:E110_0.Ok Pg:=EnvK.of_ok noSeq_ok TT
def f110_0g (α:Type)(a b c:Int)(k1:Bool->Op α):Op α:=
 cK (decide (b<=a))
 (k1 (decide (a<=c)))
 (k1 false)
def f110_0:Tf146_0:=sld f110_0g
def Fn110_0 (v:Tf146_0)(α:Type)(k:RT α):Int->Int->Int->Op α:=fun a b c=>v α a b c (fun d=>ur161_0_0 k d)
def cm110_0:MCode:=(emb ac110)
theorem io110_0:InstOk Pg 110 nt110 ⟨pa146_0,Fn110_0 f110_0⟩:=inst_s eo110_0 followsTry (codeF_is Tryz.func110 (by kernel_rfl)) sh19 cm110_0 (emb_erase _) (emb_good ac110) fun _ _=>by kernel_rfl
abbrev nt71:Nat:=20
def sh71:SG:=[(8,iT),(10,iS 2),(12,iT),(14,iS 2),(16,[.sl]),(18,iS 2)]
def tr71:TG:=[(0,⟨[3,4,5,6],true,[⟨true,6,6,30606,5⟩],[]⟩),(1,⟨[6],true,[⟨true,6,6,30606,5⟩],[]⟩)]
def ac71:ACode:=codeF Pg Tryz.f71 tr71 tl13
def pr71_0_0:PT (List RV):=pRs [pR true [rD (dI .i64),rD (dI .i64),rD (dI .i64),rD (dI .i64),rD (dI .i64),rD (dI .i64),rD dL,rD (dI .i64),rD (dI .i64)]]
def ur71_0_0 {β:Type}(g:List RV->β):Int->Int->Int->Int->Int->Int->Rows->Int->Int->β:=pr71_0_0.unc g
def E71_0:EnvK:=EnvK.of [] noSeq
theorem eo71_0:E71_0.Ok Pg:=EnvK.of_ok noSeq_ok TT
def f71_0g (α:Type)(k1:Op α):Op α:=
 k1
def f71_0:Tf120_0:=sld f71_0g
def pa71_0:PT (List DV):=pA [pV true [dL,dL,(dI .i64),(dI .i64)],pV true [(dI .i64),(dI .i64),(dI .i64),(dI .i64),(dI .i64),(dI .i64),(dI .i64),(dI .i64),(dI .i64)],pV true [(dI .i64),(dI .i64),(dI .i64),(dI .i64)]]
def Fn71_0 (v:Tf120_0)(α:Type)(k:RT α):Rows->Rows->I15 (Op α):=fun l a b c m d e o p q r s t g h i j=>v α (ur71_0_0 k e i j d g h a b c)
def cm71_0:MCode:=(emb ac71)
theorem io71_0:InstOk Pg 71 nt71 ⟨pa71_0,Fn71_0 f71_0⟩:=inst_s eo71_0 followsTry (codeF_is Tryz.func71 (by kernel_rfl)) sh71 cm71_0 (emb_erase _) (emb_good ac71) fun _ _=>by kernel_rfl
abbrev nt72:Nat:=8
def sh72:SG:=[(4,iS 2),(6,iS 2)]
def tr72:TG:=[tT 0 [1,2],tT 1 [2]]
def ac72:ACode:=codeF Pg Tryz.f72 tr72 tl13
def E72_0:EnvK:=EnvK.of [] noSeq
theorem eo72_0:E72_0.Ok Pg:=EnvK.of_ok noSeq_ok TT
def f72_0g (α:Type)(k1:Op α):Op α:=
 k1
def f72_0:Tf120_0:=sld f72_0g
def pa72_0:PT (List DV):=pA [pV true [(dI .i64),(dI .i64),(dI .i64),(dI .i64),(dI .i64),(dI .i64),(dI .i64),(dI .i64),(dI .i64)]]
def Fn72_0 (v:Tf120_0)(α:Type)(k:RT α):I9 (Op α):=fun e g h a b c d i j=>v α (ur120_0_0 k c d a b)
def cm72_0:MCode:=(emb ac72)
theorem io72_0:InstOk Pg 72 nt72 ⟨pa72_0,Fn72_0 f72_0⟩:=inst_s eo72_0 followsTry (codeF_is Tryz.func72 (by kernel_rfl)) sh72 cm72_0 (emb_erase _) (emb_good ac72) fun _ _=>by kernel_rfl
abbrev nt94:Nat:=15
def tr94:TG:=[tT 0 [0,1,2],tT 1 [6]]
def ac94:ACode:=codeF Pg Tryz.f94 tr94 tl13
def E94_0:EnvK:=EnvK.of [] noSeq
theorem eo94_0:E94_0.Ok Pg:=EnvK.of_ok noSeq_ok TT
def f94_0g (α:Type)(a b c:Int)(k1:Bool->Op α):Op α:=
 cK (decide (b<=a))
 (k1 (decide (a<=c)))
 (k1 false)
def f94_0:Tf146_0:=sld f94_0g
def Fn94_0 (v:Tf146_0)(α:Type)(k:RT α):Int->Int->Int->Op α:=fun a b c=>v α a b c (fun d=>ur161_0_0 k d)
def cm94_0:MCode:=(emb ac94)
theorem io94_0:InstOk Pg 94 nt94 ⟨pa146_0,Fn94_0 f94_0⟩:=inst_s eo94_0 followsTry (codeF_is Tryz.func94 (by kernel_rfl)) sh19 cm94_0 (emb_erase _) (emb_good ac94) fun _ _=>by kernel_rfl
abbrev nt10:Nat:=6
def tr10:TG:=[tT 0 [0],(1,⟨[2],true,[⟨false,2,0,20002,5⟩],[]⟩)]
def ac10:ACode:=codeF Pg Tryz.f10 tr10 tl13
def pr10_0_0:PT (List RV):=pRs [pR false [rO 5]]
def ur10_0_0 {β:Type}(g:List RV->β):Rows->β:=pr10_0_0.unc g
def E10_0:EnvK:=EnvK.of [] noSeq
theorem eo10_0:E10_0.Ok Pg:=EnvK.of_ok noSeq_ok TT
abbrev Tf10_0:Type 1:=(α:Type)->Rows->(Rows->Op α)->Op α
def f10_0g (α:Type)(a:Rows)(k1:Rows->Op α):Op α:=
 gK (apOk 5 40 ([]:Rows) a) (k1 (([]:Rows)++a))
def f10_0:Tf10_0:=sld f10_0g
def pa10_0:PT (List DV):=pA [pV false [dL]]
def Fn10_0 (v:Tf10_0)(α:Type)(k:RT α):Rows->Op α:=fun a=>v α a (fun b=>ur10_0_0 k b)
def cm10_0:MCode:=(emb ac10)
theorem io10_0:InstOk Pg 10 nt10 ⟨pa10_0,Fn10_0 f10_0⟩:=inst_s eo10_0 followsTry (codeF_is Tryz.func10 (by kernel_rfl)) sh19 cm10_0 (emb_erase _) (emb_good ac10) fun _ _=>by kernel_rfl
abbrev nt7:Nat:=37
def sh7:SG:=[(4,[.sl]),(9,[.sl]),(14,[.sl]),(21,[.sl]),(26,[.sl]),(31,[.sl])]
def tr7:TG:=[tT 0 [1],tT 1 [2]]
def ac7:ACode:=codeF Pg Tryz.f7 tr7 tl13
def E7_0:EnvK:=EnvK.of [] noSeq
theorem eo7_0:E7_0.Ok Pg:=EnvK.of_ok noSeq_ok TT
abbrev Tf7_0:Type 1:=(α:Type)->Rows->Rows->(Bool->Op α)->Op α
def f7_0g (α:Type)(b a:Rows)(k1:Bool->Op α):Op α:=
 cK (decide (((List.length b:Nat):Int)<=2))
 (cK (decide (((List.length a:Nat):Int)<=3))
 (k1 true)
 (cK (decide (40 < ((List.length a:Nat):Int)))
 (k1 (decide (((List.length a:Nat):Int)<=42)))
 (k1 false)))
 (cK (decide (8 < ((List.length b:Nat):Int)))
 (cK (decide (((List.length b:Nat):Int)<=10))
 (cK (decide (((List.length a:Nat):Int)<=3))
 (k1 true)
 (cK (decide (40 < ((List.length a:Nat):Int)))
 (k1 (decide (((List.length a:Nat):Int)<=42)))
 (k1 false)))
 (k1 false))
 (k1 false))
def f7_0:Tf7_0:=sld f7_0g
def pa7_0:PT (List DV):=pA [pV true [dL,dL,(dI .i64),(dI .i64)]]
def Fn7_0 (v:Tf7_0)(α:Type)(k:RT α):Rows->Rows->Int->Int->Op α:=fun a b d e=>v α a b (fun c=>ur161_0_0 k c)
def cm7_0:MCode:=(emb ac7)
theorem io7_0:InstOk Pg 7 nt7 ⟨pa7_0,Fn7_0 f7_0⟩:=inst_s eo7_0 followsTry (codeF_is Tryz.func7 (by kernel_rfl)) sh7 cm7_0 (emb_erase _) (emb_good ac7) fun _ _=>by kernel_rfl
abbrev nt11:Nat:=20
def sh11:SG:=[(7,iT),(10,iT),(12,iT)]
def tr11:TG:=[tT 0 [1,2,4],tT 1 [4,5],tT 2 [4]]
def ac11:ACode:=codeF Pg Tryz.f11 tr11 tl13
def E11_0:EnvK:=EnvK.of [⟨19,nt19,[⟨pa19_0,Fn19_0 f19_0⟩]⟩] noSeq
theorem eo11_0:E11_0.Ok Pg:=EnvK.of_ok noSeq_ok ⟨⟨io19_0,TT⟩,TT⟩
def f11_0g (α:Type)(a c d:Int)(k1:Int->Int->Op α):Op α:=
 f19_0 α d (w64 ((w64 (c - a))+1))
 (fun b=>k1 (w64 (a+b)) (w64 (a+b)))
def f11_0:Tf181_0:=sld f11_0g
def Fn11_0 (v:Tf181_0)(α:Type)(k:RT α):Int->Int->Int->Op α:=fun a b c=>v α a b c (fun d e=>ur13_0_0 k d e)
def cm11_0:MCode:=(emb ac11)
theorem io11_0:InstOk Pg 11 nt11 ⟨pa181_0,Fn11_0 f11_0⟩:=inst_s eo11_0 followsTry (codeF_is Tryz.func11 (by kernel_rfl)) sh11 cm11_0 (emb_erase _) (emb_good ac11) fun _ _=>by kernel_rfl
abbrev nt162:Nat:=15
def sh162:SG:=[(4,iS 2),(7,iT),(12,iT)]
def tr162:TG:=[tT 0 [1,2],tT 1 [1,2,3],tT 2 [2]]
def ac162:ACode:=codeF Pg Tryz.f162 tr162 tl13
def E162_0:EnvK:=EnvK.of [⟨119,nt119,[⟨pa161_0,Fn119_0 f119_0⟩]⟩] noSeq
theorem eo162_0:E162_0.Ok Pg:=EnvK.of_ok noSeq_ok ⟨⟨io119_0,TT⟩,TT⟩
def f162_0g (α:Type)(b c:Int)(k1:Int->Int->Op α):Op α:=
 f119_0 α b c
 (fun a=>k1 a a)
def f162_0:Tf38_0:=sld f162_0g
def Fn162_0 (v:Tf38_0)(α:Type)(k:RT α):Int->Int->Op α:=fun a b=>v α a b (fun c d=>ur120_0_0 k a c d b)
def cm162_0:MCode:=(emb ac162)
theorem io162_0:InstOk Pg 162 nt162 ⟨pa161_0,Fn162_0 f162_0⟩:=inst_s eo162_0 followsTry (codeF_is Tryz.func162 (by kernel_rfl)) sh162 cm162_0 (emb_erase _) (emb_good ac162) fun _ _=>by kernel_rfl
abbrev nt121:Nat:=36
def sh121:SG:=[(6,iS 2),(9,iS 2),(19,iT),(22,iT),(26,iT),(29,iT)]
def tr121:TG:=[tT 0 [1],tT 1 [1,3,4],tT 2 [4,11],tT 3 [2],tT 4 [34],tT 5 [2],tT 6 [2]]
def ac121:ACode:=codeF Pg Tryz.f121 tr121 tl13
def p121_0_0:PT St:=pS [sP 1,sY 3 dB,sY 4 dB] [eBox 1 (xs 4)]
def u121_0_0 {β:Type}(g:St->β):Bool->Bool->I4 β:=p121_0_0.unc g
def p121_0_1:PT St:=pS [sY 4 dB,sY 11 dB] []
def u121_0_1 {β:Type}(g:St->β):Bool->Bool->β:=p121_0_1.unc g
def E121_0:EnvK:=EnvK.of [⟨161,nt161,[⟨pa161_0,Fn161_0 f161_0⟩]⟩] noSeq
theorem eo121_0:E121_0.Ok Pg:=EnvK.of_ok noSeq_ok ⟨⟨io161_0,TT⟩,TT⟩
def c121_0_7:MCode:=MCode.sub [1,1,0,0,0] (emb ac121)
abbrev TJ121_0_0:Type 1:=(α:Type)->Bool->Bool->Int->Int->Int->Int->(Bool->Op α)->Op α
def J121_0_0g (α:Type)(a b:Bool)(c d e g:Int)(k1:Bool->Op α):Op α:=
 cK a
 (cK (!b)
 (k1 true)
 (k1 (decide ((w64 (g - e))<=(w64 (d - c))))))
 (k1 false)
def J121_0_0:TJ121_0_0:=sld J121_0_0g
def F121_0_0 (v:TJ121_0_0)(α:Type)(K:KT α):Bool->Bool->I4 (Op α):=fun b a c d e g=>v α b a c d e g (fun h=>u121_0_1 (K .normal) a h)
theorem m121_0_0:∀ (α:Type) (K:KT α),F121_0_0 J121_0_0 α K=p121_0_0.unc fun σ=>runM Pg E121_0 sh121 c121_0_7 K σ:=sld0 (fun α K=>by kernel_rfl)
abbrev Tf121_0:Type 1:=(α:Type)->Int->Int->Int->Int->(Int->Op α)->Op α
def f121_0g (α:Type)(a b c d:Int)(k1:Int->Op α):Op α:=
 f161_0 α a b
 (fun g=>f161_0 α c d
 (fun e=>J121_0_0 α g e a b c d
 (fun h=>cK h
 (k1 1)
 (cK e
 (k1 2)
 (k1 0)))))
def f121_0:Tf121_0:=sld f121_0g
def pa121_0:PT (List DV):=pA [pV true [(dI .i64),(dI .i64),(dI .i64),(dI .i64)]]
def Fn121_0 (v:Tf121_0)(α:Type)(k:RT α):I4 (Op α):=fun a b c d=>v α a b c d (fun e=>ur19_0_0 k e)
def cm121_0:MCode:=(MCode.put (.m [⟨p121_0_0,F121_0_0 J121_0_0⟩]) [1,1,0,0] (emb ac121))
theorem io121_0:InstOk Pg 121 nt121 ⟨pa121_0,Fn121_0 f121_0⟩:=inst_s eo121_0 followsTry (codeF_is Tryz.func121 (by kernel_rfl)) sh121 cm121_0 ((put_erase _ _).trans (emb_erase _)) (put_seq (by kernel_rfl) (emb_good ac121) ⟨m121_0_0,TT⟩) fun _ _=>by kernel_rfl
abbrev nt41:Nat:=25
def sh41:SG:=[(10,[.sl])]
def tr41:TG:=[tT 0 [0],tT 1 [0,12,13],tT 2 [0,12,13,14],tT 3 [0,3,12,13],tT 4 [0,5,12,13],tT 5 [0,12,13,23],tT 6 [0,2],tT 7 [0,12,13],tT 8 [0,2]]
def tl41:TG:=[tT 2 [0,12,13]]
def ac41:ACode:=codeF Pg Tryz.f41 tr41 tl41
def td41_7:OT:=tdC (MCode.sub [1,0,1,0] (emb ac41))
def p41_0_0:PT St:=pSv [(0,500000000,0)] [sl 0 (aV false [(cPtr 500000000 0)]),sI 12,sI 13] [eBox 500000000 [xI,xI,xI,xI,xI,xI,xI,(cD dL),xI,xI]]
def u41_0_0 {β:Type}(g:St->β):Int->Int->Int->Int->Int->Int->Int->Int->Int->Rows->Int->Int->β:=p41_0_0.unc g
def p41_0_1:PT St:=pSv [(0,500000000,0)] [sl 0 (aV false [(cPtr 500000000 0)]),sY 2 dB] [eBox 500000000 [xI,xI,xI,xI,xI,xI,xI,(cD dL),xI,xI]]
def u41_0_1 {β:Type}(g:St->β):Bool->Int->Int->Int->Int->Int->Int->Int->Rows->Int->Int->β:=p41_0_1.unc g
def p41_0_2:PT St:=pSv [(0,500000000,0)] [sl 0 (aV false [(cPtr 500000000 0)]),sI 12,sI 13,sY 14 dB] [eBox 500000000 [xI,xI,xI,xI,xI,xI,xI,(cD dL),xI,xI]]
def u41_0_2 {β:Type}(g:St->β):Int->Int->Bool->Int->Int->Int->Int->Int->Int->Int->Rows->Int->Int->β:=p41_0_2.unc g
def pr41_0_0:PT (List RV):=pRs [pR false [rD dB],pR true [rD (dI .i64),rD (dI .i64),rD (dI .i64),rD (dI .i64),rD (dI .i64),rD (dI .i64),rD (dI .i64),rD dL,rD (dI .i64),rD (dI .i64)]]
def ur41_0_0 {β:Type}(g:List RV->β):Bool->Int->Int->Int->Int->Int->Int->Int->Rows->Int->Int->β:=pr41_0_0.unc g
def E41_0:EnvK:=EnvK.ofIO [⟨82,nt82,[⟨pa82_0,Fn82_0 f82_0⟩]⟩] noSeq [(82,[0])]
theorem eo41_0:E41_0.Ok Pg:=EnvK.ofIO_ok noSeq_ok ⟨⟨io82_0,TT⟩,TT⟩
def c41_0_7:MCode:=MCode.sub [1,0,1,0,0] (emb ac41)
def S41_0_0 (α:Type)(b c:Int)(d:Rows)(e g a:Int)(kn:Int->Op α)(k1:Op α)(k2:Int->Bool->Op α):Op α:=
 cK (decide (a < b))
 (f82_0 α c d e g a
 (fun i j h=>cK (h != 0)
 (k1)
 (kn (w64 (a+1)))))
 (k2 a (decide (a < b)))
def R41_0_0 (α:Type)(a b:Int)(c:Rows)(d e:Int)(k1:Op α)(k2:Int->Bool->Op α):Nat->Int->Op α
 | 0,_=>none
 | n+1,g=>S41_0_0 α a b c d e g (R41_0_0 α a b c d e k1 k2 n) k1 k2
def L41_0_0g (α:Type)(a b:Int)(c:Rows)(d e:Int)(k1:Op α)(k2:Int->Bool->Op α)(g:Int):Op α:=R41_0_0 α a b c d e k1 k2 fuel g
abbrev TL41_0_0:Type 1:=(α:Type)->Int->Int->Rows->Int->Int->(Op α)->(Int->Bool->Op α)->Int->Op α
def L41_0_0:TL41_0_0:=sld L41_0_0g
def F41_0_0 (v:TL41_0_0)(α:Type)(K:KT α):Int->Int->Int->Int->Int->Int->Int->Int->Int->Rows->Int->Int->Op α:=fun e o g a h i j l m b c d=>v α e a b c d (u41_0_1 (K .ret) true g a h i j l m b c d) (fun p q=>u41_0_2 (K (.exit 0)) e p q g a h i j l m b c d) o
theorem r41_0_0 (α:Type)(K:KT α)(Kn:SK α)(e g h a i j l m o:Int)(b:Rows)(c d:Int):u41_0_0 (fun σ=>runM Pg E41_0 sh41 c41_0_7 (thenK (fun σ=>tidyK td41_7 σ Kn) K) σ) e g h a i j l m o b c d=S41_0_0 α e a b c d g (fun g=>u41_0_0 Kn e g h a i j l m o b c d) (u41_0_1 (K .ret) true h a i j l m o b c d) (fun p q=>u41_0_2 (K (.exit 0)) e p q h a i j l m o b c d):=by kernel_rfl
theorem t41_0_0 (α:Type)(K:KT α):∀ (n:Nat) (e o g a h i j l m:Int) (b:Rows) (c d:Int),R41_0_0 α e a b c d (u41_0_1 (K .ret) true g a h i j l m b c d) (fun p q=>u41_0_2 (K (.exit 0)) e p q g a h i j l m b c d) n o=u41_0_0 (loopT (runM Pg E41_0 sh41 c41_0_7) td41_7 K n) e o g a h i j l m b c d:=by
 intro n
 induction n with
 | zero=>intros;rfl
 | succ n ih=>intro e o g a h i j l m b c d;exact (congrArg (fun kn=>S41_0_0 α e a b c d o kn (u41_0_1 (K .ret) true g a h i j l m b c d) (fun p q=>u41_0_2 (K (.exit 0)) e p q g a h i j l m b c d)) (funext fun o=>ih e o g a h i j l m b c d)).trans (r41_0_0 α K (loopT (runM Pg E41_0 sh41 c41_0_7) td41_7 K n) e o g a h i j l m b c d).symm
theorem m41_0_0:∀ (α:Type) (K:KT α),F41_0_0 L41_0_0 α K=p41_0_0.unc fun σ=>loopT (runM Pg E41_0 sh41 c41_0_7) td41_7 K fuel σ:=sld0 (fun α K=>funext fun a=>funext fun b=>funext fun c=>funext fun d=>funext fun e=>funext fun g=>funext fun h=>funext fun i=>funext fun j=>funext fun l=>funext fun m=>funext fun o=>t41_0_0 α K fuel a b c d e g h i j l m o)
abbrev Tf41_0:Type 1:=(α:Type)->Int->Rows->Int->Int->(Bool->Op α)->Op α
def f41_0g (α:Type)(b:Int)(a:Rows)(c d:Int)(k1:Bool->Op α):Op α:=
 L41_0_0 α (w64 (((List.length a:Nat):Int)+2)) b a c d
 (k1 true)
 (fun e g=>k1 false) 0
def f41_0:Tf41_0:=sld f41_0g
def pa41_0:PT (List DV):=pA [pV false [(dMr [(dI .i64),(dI .i64),(dI .i64),(dI .i64),(dI .i64),(dI .i64),(dI .i64),dL,(dI .i64),(dI .i64)] 0)]]
def Fn41_0 (v:Tf41_0)(α:Type)(k:RT α):Int->Int->Int->Int->Int->Int->Int->Rows->Int->Int->Op α:=fun e a g h i j l b c d=>v α a b c d (fun m=>ur41_0_0 k m e a g h i j l b c d)
def cm41_0:MCode:=(MCode.put (.m [⟨p41_0_0,F41_0_0 L41_0_0⟩]) [1,0,1,0] (emb ac41))
theorem io41_0:InstOk Pg 41 nt41 ⟨pa41_0,Fn41_0 f41_0⟩:=inst_s eo41_0 followsTry (codeF_is Tryz.func41 (by kernel_rfl)) sh41 cm41_0 ((put_erase _ _).trans (emb_erase _)) (put_loop (td:=td41_7) (by kernel_rfl) (emb_good ac41) ⟨m41_0_0,TT⟩) fun _ _=>by kernel_rfl
abbrev nt196:Nat:=32
def sh196:SG:=[(7,iT),(13,iT),(21,iT),(28,iT),(30,iT)]
def tr196:TG:=[tT 0 [1,2],tT 1 [2,5],tT 2 [4],tT 3 [26],tT 4 [4],tT 5 [4]]
def ac196:ACode:=codeF Pg Tryz.f196 tr196 tl13
def p196_0_0:PT St:=pS [sI 1,sP 2] [eBox 2 [xI,xI]]
def u196_0_0 {β:Type}(g:St->β):Int->Int->Int->β:=p196_0_0.unc g
def p196_0_1:PT St:=pS [sP 2,sY 5 dB] [eBox 2 [xI,xI]]
def u196_0_1 {β:Type}(g:St->β):Bool->Int->Int->β:=p196_0_1.unc g
def E196_0:EnvK:=EnvK.of [⟨146,nt146,[⟨pa146_0,Fn146_0 f146_0⟩]⟩] noSeq
theorem eo196_0:E196_0.Ok Pg:=EnvK.of_ok noSeq_ok ⟨⟨io146_0,TT⟩,TT⟩
def c196_0_5:MCode:=MCode.sub [1,0,0,0] (emb ac196)
def J196_0_0g (α:Type)(a c b:Int)(k1:Bool->Op α):Op α:=
 f146_0 α c a 1099511627776
 (fun d=>cK (!d)
 (k1 true)
 (cK (decide (1099511627776 < b))
 (k1 true)
 (cK (decide (a < 0))
 (k1 (decide (b < a)))
 (k1 false))))
def J196_0_0:Tf146_0:=sld J196_0_0g
def F196_0_0 (v:Tf146_0)(α:Type)(K:KT α):Int->Int->Int->Op α:=fun c a b=>v α c a b (fun d=>u196_0_1 (K .normal) d a b)
theorem m196_0_0:∀ (α:Type) (K:KT α),F196_0_0 J196_0_0 α K=p196_0_0.unc fun σ=>runM Pg E196_0 sh196 c196_0_5 K σ:=sld0 (fun α K=>by kernel_rfl)
abbrev Tf196_0:Type 1:=(α:Type)->Int->Int->Int->(Int->Op α)->Op α
def f196_0g (α:Type)(a b c:Int)(k1:Int->Op α):Op α:=
 J196_0_0 α c a b
 (fun d=>cK d
 (k1 2)
 (cK (decide (b < a))
 (k1 10)
 (k1 0)))
def f196_0:Tf196_0:=sld f196_0g
def Fn196_0 (v:Tf196_0)(α:Type)(k:RT α):Int->Int->Int->Op α:=fun a b c=>v α a b c (fun d=>ur19_0_0 k d)
def cm196_0:MCode:=(MCode.put (.m [⟨p196_0_0,F196_0_0 J196_0_0⟩]) [1,0,0] (emb ac196))
theorem io196_0:InstOk Pg 196 nt196 ⟨pa181_0,Fn196_0 f196_0⟩:=inst_s eo196_0 followsTry (codeF_is Tryz.func196 (by kernel_rfl)) sh196 cm196_0 ((put_erase _ _).trans (emb_erase _)) (put_seq (by kernel_rfl) (emb_good ac196) ⟨m196_0_0,TT⟩) fun _ _=>by kernel_rfl
abbrev nt203:Nat:=6
def tr203:TG:=[tT 0 [0],tT 1 [2]]
def ac203:ACode:=codeF Pg Tryz.f203 tr203 tl13
def E203_0:EnvK:=EnvK.of [⟨216,nt216,[⟨pa216_0,Fn216_0 f216_0⟩]⟩] noSeq
theorem eo203_0:E203_0.Ok Pg:=EnvK.of_ok noSeq_ok ⟨⟨io216_0,TT⟩,TT⟩
def f203_0g (α:Type)(a:Int)(k1:Int->Op α):Op α:=
 f216_0 α a
 (fun b=>k1 (w64 (64 - b)))
def f203_0:Tf215_0:=sld f203_0g
def Fn203_0 (v:Tf215_0)(α:Type)(k:RT α):Int->Op α:=fun a=>v α a (fun b=>ur19_0_0 k b)
def cm203_0:MCode:=(emb ac203)
theorem io203_0:InstOk Pg 203 nt203 ⟨pa216_0,Fn203_0 f203_0⟩:=inst_s eo203_0 followsTry (codeF_is Tryz.func203 (by kernel_rfl)) sh19 cm203_0 (emb_erase _) (emb_good ac203) fun _ _=>by kernel_rfl
abbrev nt177:Nat:=17
def sh177:SG:=[(7,iS 2),(9,iS 2),(12,iT),(14,iT)]
def tr177:TG:=[tT 0 [2,3,4],tT 1 [4,5]]
def ac177:ACode:=codeF Pg Tryz.f177 tr177 tl13
def pr177_0_0:PT (List RV):=pRs [pR true [rD (dI .i64),rD (dI .i64),rD (dI .i64)],wI]
def ur177_0_0 {β:Type}(g:List RV->β):I4 β:=pr177_0_0.unc g
def E177_0:EnvK:=EnvK.of [⟨178,nt178,[⟨pa42_0,Fn178_0 f178_0⟩]⟩] noSeq
theorem eo177_0:E177_0.Ok Pg:=EnvK.of_ok noSeq_ok ⟨⟨io178_0,TT⟩,TT⟩
abbrev Tf177_0:Type 1:=(α:Type)->Int->Int->Int->Int->Int->Int->(Int->Int->Int->Op α)->Op α
def f177_0g (α:Type)(a b c d e g:Int)(k1:Int->Int->Int->Op α):Op α:=
 f178_0 α a b d e
 (fun h i=>k1 h i (w64 (c+g)))
def f177_0:Tf177_0:=sld f177_0g
def pa177_0:PT (List DV):=pA [pV true [(dI .i64),(dI .i64),(dI .i64)],pV true [(dI .i64),(dI .i64),(dI .i64)]]
def Fn177_0 (v:Tf177_0)(α:Type)(k:RT α):I6 (Op α):=fun a b c d e g=>v α a b c d e g (fun h i j=>ur177_0_0 k h i j 0)
def cm177_0:MCode:=(emb ac177)
theorem io177_0:InstOk Pg 177 nt177 ⟨pa177_0,Fn177_0 f177_0⟩:=inst_s eo177_0 followsTry (codeF_is Tryz.func177 (by kernel_rfl)) sh177 cm177_0 (emb_erase _) (emb_good ac177) fun _ _=>by kernel_rfl
abbrev nt89:Nat:=10
def tr89:TG:=[tT 0 [0,1],tT 1 [4]]
def ac89:ACode:=codeF Pg Tryz.f89 tr89 tl13
def E89_0:EnvK:=EnvK.of [⟨88,nt88,[⟨pa19_0,Fn88_0 f88_0⟩]⟩] noSeq
theorem eo89_0:E89_0.Ok Pg:=EnvK.of_ok noSeq_ok ⟨⟨io88_0,TT⟩,TT⟩
def f89_0g (α:Type)(a b:Int)(k1:Int->Op α):Op α:=
 f88_0 α (w64 (0 - a)) b
 (fun c=>k1 (w64 (0 - c)))
def f89_0:Tf19_0:=sld f89_0g
def Fn89_0 (v:Tf19_0)(α:Type)(k:RT α):Int->Int->Op α:=fun a b=>v α a b (fun c=>ur19_0_0 k c)
def cm89_0:MCode:=(emb ac89)
theorem io89_0:InstOk Pg 89 nt89 ⟨pa19_0,Fn89_0 f89_0⟩:=inst_s eo89_0 followsTry (codeF_is Tryz.func89 (by kernel_rfl)) sh19 cm89_0 (emb_erase _) (emb_good ac89) fun _ _=>by kernel_rfl
abbrev nt141:Nat:=25
def tr141:TG:=[tT 0 [0],tT 1 [0,3],tT 2 [0,3,12],tT 3 [0,3],tT 4 [0,3,21],tT 5 [0,3],tT 6 [2]]
def tl141:TG:=[tT 2 [0,3],tT 4 [0,3]]
def ac141:ACode:=codeF Pg Tryz.f141 tr141 tl141
def td141_7:OT:=tdC (MCode.sub [1,1,0,0] (emb ac141))
def td141_16:OT:=tdC (MCode.sub [1,1,1,0,0] (emb ac141))
def p141_0_1:PT St:=pS [sI 0,sI 3,sY 12 dB] []
def u141_0_1 {β:Type}(g:St->β):Int->Int->Bool->β:=p141_0_1.unc g
def p141_0_2:PT St:=pS [sI 0,sI 3,sY 21 dB] []
def u141_0_2 {β:Type}(g:St->β):Int->Int->Bool->β:=p141_0_2.unc g
def E141_0:EnvK:=EnvK.of [⟨183,nt183,[⟨pa183_0,Fn183_0 f183_0⟩]⟩] noSeq
theorem eo141_0:E141_0.Ok Pg:=EnvK.of_ok noSeq_ok ⟨⟨io183_0,TT⟩,TT⟩
def c141_0_16:MCode:=MCode.sub [1,1,1,0,0,0] (emb ac141)
def S141_0_1 (α:Type)(b a:Int)(kn:Int->Op α)(k1:Int->Bool->Op α):Op α:=
 cK (decide ((w64 ((w64 (a+1))*(w64 (a+1))))<=b))
 (kn (w64 (a+1)))
 (k1 a (decide ((w64 ((w64 (a+1))*(w64 (a+1))))<=b)))
def R141_0_1 (α:Type)(a:Int)(k1:Int->Bool->Op α):Nat->Int->Op α
 | 0,_=>none
 | n+1,b=>S141_0_1 α a b (R141_0_1 α a k1 n) k1
def L141_0_1g (α:Type)(a:Int)(k1:Int->Bool->Op α)(b:Int):Op α:=R141_0_1 α a k1 fuel b
def L141_0_1:TL215_0_0:=sld L141_0_1g
def F141_0_1 (v:TL215_0_0)(α:Type)(K:KT α):Int->Int->Op α:=fun a b=>v α a (fun c d=>u141_0_2 (K (.exit 2)) a c d) b
theorem r141_0_1 (α:Type)(K:KT α)(Kn:SK α)(a b:Int):u215_0_0 (fun σ=>runM Pg E141_0 sh19 c141_0_16 (thenK (fun σ=>tidyK td141_16 σ Kn) K) σ) a b=S141_0_1 α a b (fun b=>u215_0_0 Kn a b) (fun c d=>u141_0_2 (K (.exit 2)) a c d):=by kernel_rfl
theorem t141_0_1 (α:Type)(K:KT α):∀ (n:Nat) (a b:Int),R141_0_1 α a (fun c d=>u141_0_2 (K (.exit 2)) a c d) n b=u215_0_0 (loopT (runM Pg E141_0 sh19 c141_0_16) td141_16 K n) a b:=by
 intro n
 induction n with
 | zero=>intros;rfl
 | succ n ih=>intro a b;exact (congrArg (fun kn=>S141_0_1 α a b kn (fun c d=>u141_0_2 (K (.exit 2)) a c d)) (funext fun b=>ih a b)).trans (r141_0_1 α K (loopT (runM Pg E141_0 sh19 c141_0_16) td141_16 K n) a b).symm
theorem m141_0_1:∀ (α:Type) (K:KT α),F141_0_1 L141_0_1 α K=p215_0_0.unc fun σ=>loopT (runM Pg E141_0 sh19 c141_0_16) td141_16 K fuel σ:=sld0 (fun α K=>funext fun a=>funext fun b=>t141_0_1 α K fuel a b)
def c141_0_7:MCode:=MCode.sub [1,1,0,0,0] (emb ac141)
def S141_0_0 (α:Type)(b a:Int)(kn:Int->Op α)(k1:Int->Bool->Op α):Op α:=
 cK (decide (b < (w64 (a*a))))
 (kn (w64 (a - 1)))
 (k1 a (decide (b < (w64 (a*a)))))
def R141_0_0 (α:Type)(a:Int)(k1:Int->Bool->Op α):Nat->Int->Op α
 | 0,_=>none
 | n+1,b=>S141_0_0 α a b (R141_0_0 α a k1 n) k1
def L141_0_0g (α:Type)(a:Int)(k1:Int->Bool->Op α)(b:Int):Op α:=R141_0_0 α a k1 fuel b
def L141_0_0:TL215_0_0:=sld L141_0_0g
def F141_0_0 (v:TL215_0_0)(α:Type)(K:KT α):Int->Int->Op α:=fun a b=>v α a (fun c d=>u141_0_1 (K (.exit 0)) a c d) b
theorem r141_0_0 (α:Type)(K:KT α)(Kn:SK α)(a b:Int):u215_0_0 (fun σ=>runM Pg E141_0 sh19 c141_0_7 (thenK (fun σ=>tidyK td141_7 σ Kn) K) σ) a b=S141_0_0 α a b (fun b=>u215_0_0 Kn a b) (fun c d=>u141_0_1 (K (.exit 0)) a c d):=by kernel_rfl
theorem t141_0_0 (α:Type)(K:KT α):∀ (n:Nat) (a b:Int),R141_0_0 α a (fun c d=>u141_0_1 (K (.exit 0)) a c d) n b=u215_0_0 (loopT (runM Pg E141_0 sh19 c141_0_7) td141_7 K n) a b:=by
 intro n
 induction n with
 | zero=>intros;rfl
 | succ n ih=>intro a b;exact (congrArg (fun kn=>S141_0_0 α a b kn (fun c d=>u141_0_1 (K (.exit 0)) a c d)) (funext fun b=>ih a b)).trans (r141_0_0 α K (loopT (runM Pg E141_0 sh19 c141_0_7) td141_7 K n) a b).symm
theorem m141_0_0:∀ (α:Type) (K:KT α),F141_0_0 L141_0_0 α K=p215_0_0.unc fun σ=>loopT (runM Pg E141_0 sh19 c141_0_7) td141_7 K fuel σ:=sld0 (fun α K=>funext fun a=>funext fun b=>t141_0_0 α K fuel a b)
def f141_0g (α:Type)(a:Int)(k1:Int->Op α):Op α:=
 f183_0 α (FloatKind.nearest .f64 a)
 (fun b=>ivK (f2i .f64 b .i64)
 (fun c=>L141_0_0 α a
 (fun d g=>L141_0_1 α a
 (fun e h=>k1 e) d) c))
def f141_0:Tf215_0:=sld f141_0g
def Fn141_0 (v:Tf215_0)(α:Type)(k:RT α):Int->Op α:=fun a=>v α a (fun b=>ur19_0_0 k b)
def cm141_0:MCode:=(MCode.put (.m [⟨p215_0_0,F141_0_0 L141_0_0⟩]) [1,1,0,0] (MCode.put (.m [⟨p215_0_0,F141_0_1 L141_0_1⟩]) [1,1,1,0,0] (emb ac141)))
theorem io141_0:InstOk Pg 141 nt141 ⟨pa215_0,Fn141_0 f141_0⟩:=inst_s eo141_0 followsTry (codeF_is Tryz.func141 (by kernel_rfl)) sh19 cm141_0 ((put_erase _ _).trans ((put_erase _ _).trans (emb_erase _))) (put_loop (td:=td141_7) (by kernel_rfl) (put_loop (td:=td141_16) (by kernel_rfl) (emb_good ac141) ⟨m141_0_1,TT⟩) ⟨m141_0_0,TT⟩) fun _ _=>by kernel_rfl
end
end Go.AM.K
