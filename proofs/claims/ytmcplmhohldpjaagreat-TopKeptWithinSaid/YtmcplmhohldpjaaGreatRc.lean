/- Printed by KGen. -/
import Derived.Test.YtmcplmhohldpjaaGreatRb
namespace Go.AM.K
open Go.Proofs
set_option maxRecDepth 100000
set_option linter.unusedVariables false
noncomputable section
abbrev nt176:Nat:=39
def tr176:TG:=[tT 0 [0,1,2],tT 1 [2,7,8],tT 2 [2,7,8,22],tT 3 [6],tT 4 [9,10],tT 5 [9,10,32],tT 6 [6],tT 7 [9,34],tT 8 [9],tT 9 [6]]
def ac176:ACode:=codeF Pg Tryz.f176 tr176 tl13
def E176_0:EnvK:=EnvK.of [⟨184,nt184,[⟨pa184_0,Fn184_0 f184_0⟩]⟩,⟨185,nt185,[⟨pa185_0,Fn185_0 f185_0⟩]⟩] noSeq
theorem eo176_0:E176_0.Ok Pg:=EnvK.of_ok noSeq_ok ⟨⟨io184_0,TT⟩,⟨io185_0,TT⟩,TT⟩
def f176_0g (α:Type)(d e b:Int)(k1:Int->Op α):Op α:=
 f184_0 α (IntKind.wrap .u64 (d)) (IntKind.wrap .u64 (e))
 (fun c g=>cK (decide ((IntKind.wrap .u64 (b))<=c))
 (k1 2147483647)
 (f185_0 α c g (IntKind.wrap .u64 (b))
 (fun a h=>cK (decide (2147483647<=a))
 (k1 2147483647)
 (cK (h != 0)
 (k1 (w64 ((IntKind.wrap .u64 (a+1)))))
 (k1 (w64 (a)))))))
def f176_0:Tf196_0:=sld f176_0g
def Fn176_0 (v:Tf196_0)(α:Type)(k:RT α):Int->Int->Int->Op α:=fun a b c=>v α a b c (fun d=>ur19_0_0 k d)
def cm176_0:MCode:=(emb ac176)
theorem io176_0:InstOk Pg 176 nt176 ⟨pa146_0,Fn176_0 f176_0⟩:=inst_s eo176_0 followsTry (codeF_is Tryz.func176 (by kernel_rfl)) sh19 cm176_0 (emb_erase _) (emb_good ac176) fun _ _=>by kernel_rfl
abbrev nt143:Nat:=63
def tr143:TG:=[tT 0 [0,1,2],tT 1 [0,2,8,9],tT 2 [0,2,8,9,24],tT 3 [6,7],tT 4 [0,2,10,11],tT 5 [0,2,10,11,34],tT 6 [6,7],tT 7 [0,2,6,7,11],tT 8 [0,6,7,54],tT 9 [0,6,7],tT 10 [6,7,58],tT 11 [6,7],tT 12 [6,7]]
def ac143:ACode:=codeF Pg Tryz.f143 tr143 tl13
def p143_0_0:PT St:=pS [sI 0,sI 2,sI 6,sY 7 dB,sY 11 (dI .u64)] []
def u143_0_0 {β:Type}(g:St->β):Int->Int->Int->Bool->Int->β:=p143_0_0.unc g
def p143_0_1:PT St:=pS [sI 0,sI 6,sY 7 dB,sY 54 dB] []
def u143_0_1 {β:Type}(g:St->β):Int->Int->Bool->Bool->β:=p143_0_1.unc g
def E143_0:EnvK:=EnvK.of [⟨142,nt142,[⟨pa215_0,Fn142_0 f142_0⟩]⟩,⟨184,nt184,[⟨pa184_0,Fn184_0 f184_0⟩]⟩,⟨185,nt185,[⟨pa185_0,Fn185_0 f185_0⟩]⟩] noSeq
theorem eo143_0:E143_0.Ok Pg:=EnvK.of_ok noSeq_ok ⟨⟨io142_0,TT⟩,⟨io184_0,TT⟩,⟨io185_0,TT⟩,TT⟩
def c143_0_22:MCode:=MCode.sub [1,1,1,1,1,1,0,0] (emb ac143)
def J143_0_0g (α:Type)(c a b:Int)(k1:Bool->Op α):Op α:=
 cK (decide ((IntKind.wrap .u64 (a)) < (IntKind.wrap .u64 (2*b))))
 (k1 true)
 (cK (decide (0<=c))
 (k1 ((IntKind.wrap .u64 (2*b)) == (IntKind.wrap .u64 (a))))
 (k1 false))
def J143_0_0:Tf146_0:=sld J143_0_0g
def F143_0_0 (v:Tf146_0)(α:Type)(K:KT α):Int->Int->Int->Bool->Int->Op α:=fun a b c d e=>v α a b e (fun g=>u143_0_1 (K .normal) a c d g)
theorem m143_0_0:∀ (α:Type) (K:KT α),F143_0_0 J143_0_0 α K=p143_0_0.unc fun σ=>runM Pg E143_0 sh19 c143_0_22 K σ:=sld0 (fun α K=>by kernel_rfl)
abbrev Tf143_0:Type 1:=(α:Type)->Int->Int->Int->(Int->Bool->Op α)->Op α
def f143_0g (α:Type)(c g d:Int)(k1:Int->Bool->Op α):Op α:=
 f142_0 α c
 (fun h=>f184_0 α (IntKind.wrap .u64 (h)) (IntKind.wrap .u64 (g))
 (fun e i=>cK (decide ((IntKind.wrap .u64 (d))<=e))
 (k1 2147483647 false)
 (f185_0 α e i (IntKind.wrap .u64 (d))
 (fun a b=>cK (decide (2147483647 < a))
 (k1 2147483647 false)
 (J143_0_0 α c d b
 (fun j=>cK j
 (cK (decide (c < 0))
 (k1 (w64 (0 - (w64 ((w64 (a))+1)))) (b != 0))
 (k1 (w64 ((w64 (a))+1)) (b != 0)))
 (cK (decide (c < 0))
 (k1 (w64 (0 - (w64 (a)))) (b != 0))
 (k1 (w64 (a)) (b != 0)))))))))
def f143_0:Tf143_0:=sld f143_0g
def Fn143_0 (v:Tf143_0)(α:Type)(k:RT α):Int->Int->Int->Op α:=fun a b c=>v α a b c (fun d e=>ur171_0_0 k d e)
def cm143_0:MCode:=(MCode.put (.m [⟨p143_0_0,F143_0_0 J143_0_0⟩]) [1,1,1,1,1,1,0] (emb ac143))
theorem io143_0:InstOk Pg 143 nt143 ⟨pa146_0,Fn143_0 f143_0⟩:=inst_s eo143_0 followsTry (codeF_is Tryz.func143 (by kernel_rfl)) sh19 cm143_0 ((put_erase _ _).trans (emb_erase _)) (put_seq (by kernel_rfl) (emb_good ac143) ⟨m143_0_0,TT⟩) fun _ _=>by kernel_rfl
abbrev nt147:Nat:=6
def tr147:TG:=[tT 0 [1],tT 1 [2]]
def ac147:ACode:=codeF Pg Tryz.f147 tr147 tl13
def E147_0:EnvK:=EnvK.of [⟨175,nt175,[⟨pa161_0,Fn175_0 f175_0⟩]⟩,⟨144,nt144,[⟨pa215_0,Fn144_0 f144_0⟩]⟩] noSeq
theorem eo147_0:E147_0.Ok Pg:=EnvK.of_ok noSeq_ok ⟨⟨io175_0,TT⟩,⟨io144_0,TT⟩,TT⟩
def f147_0g (α:Type)(a b:Int)(k1:Int->Op α):Op α:=
 f175_0 α a b
 (fun c=>f144_0 α c
 (fun d=>k1 d))
def f147_0:Tf19_0:=sld f147_0g
def Fn147_0 (v:Tf19_0)(α:Type)(k:RT α):Int->Int->Op α:=fun a b=>v α a b (fun c=>ur19_0_0 k c)
def cm147_0:MCode:=(emb ac147)
theorem io147_0:InstOk Pg 147 nt147 ⟨pa161_0,Fn147_0 f147_0⟩:=inst_s eo147_0 followsTry (codeF_is Tryz.func147 (by kernel_rfl)) sh139 cm147_0 (emb_erase _) (emb_good ac147) fun _ _=>by kernel_rfl
abbrev nt145:Nat:=37
def sh145:SG:=[(16,[.flt .f64,.flt .f64]),(25,[.flt .f64,.flt .f64])]
def tr145:TG:=[tT 0 [0,1,4],tT 1 [0,1,4,6],tT 2 [0,1,4,6,16,17],tT 3 [0,1,4,6,16,17,18],tT 4 [0,1,4,6,8,16,17],tT 5 [0,1,4,6,16,17,22],tT 6 [4,5],tT 7 [0,1,4,6,16,17],tT 8 [0,1,4,25,26],tT 9 [0,1,4,25,26,27],tT 10 [0,1,4,10,25,26],tT 11 [0,1,4,25,26,32],tT 12 [4,5],tT 13 [0,1,4,25,26],tT 14 [4,5]]
def tl145:TG:=[tT 3 [0,1,4,6,16,17],tT 9 [0,1,4,25,26]]
def ac145:ACode:=codeF Pg Tryz.f145 tr145 tl145
def td145_9:OT:=tdC (MCode.sub [1,1,0,1,0] (emb ac145))
def td145_28:OT:=tdC (MCode.sub [1,1,1,0,1,0] (emb ac145))
def p145_0_0:PT St:=pS [sY 0 (dX .f64),sY 1 (dF .f64),sP 4,sP 6,sl 16 (aV true [(cD (dF .f64)),(cD (dF .f64))]),sI 17,sY 18 dB] [eBox 4 [xI,xI],eBox 6 [(cD (dF .f64)),(cD (dF .f64))]]
def u145_0_0 {β:Type}(g:St->β):Nat->Nat->Nat->Nat->Nat->Int->Bool->Int->Int->Nat->Nat->β:=p145_0_0.unc g
def p145_0_1:PT St:=pS [sY 0 (dX .f64),sY 1 (dF .f64),sP 4,sP 6,sY 8 (dF .f64),sl 16 (aV true [(cD (dF .f64)),(cD (dF .f64))]),sI 17] [eBox 4 [xI,xI],eBox 6 [(cD (dF .f64)),(cD (dF .f64))]]
def u145_0_1 {β:Type}(g:St->β):Nat->Nat->Nat->Nat->Nat->Nat->Int->Int->Int->Nat->Nat->β:=p145_0_1.unc g
def p145_0_2:PT St:=pS [sY 0 (dX .f64),sY 1 (dF .f64),sP 4,sP 6,sl 16 (aV true [(cD (dF .f64)),(cD (dF .f64))]),sI 17] [eBox 4 [xI,xI],eBox 6 [(cD (dF .f64)),(cD (dF .f64))]]
def u145_0_2 {β:Type}(g:St->β):Nat->Nat->Nat->Nat->Nat->Int->Int->Int->Nat->Nat->β:=p145_0_2.unc g
def p145_0_3:PT St:=pS [sP 4,sI 5] [eBox 4 [xI,xI]]
def u145_0_3 {β:Type}(g:St->β):Int->Int->Int->β:=p145_0_3.unc g
def p145_0_4:PT St:=pS [sY 0 (dX .f64),sY 1 (dF .f64),sP 4,sl 25 (aV true [(cD (dF .f64)),(cD (dF .f64))]),sI 26,sY 27 dB] [eBox 4 [xI,xI]]
def u145_0_4 {β:Type}(g:St->β):Nat->Nat->Nat->Nat->Nat->Int->Bool->Int->Int->β:=p145_0_4.unc g
def p145_0_5:PT St:=pS [sY 0 (dX .f64),sY 1 (dF .f64),sP 4,sY 10 (dF .f64),sl 25 (aV true [(cD (dF .f64)),(cD (dF .f64))]),sI 26] [eBox 4 [xI,xI]]
def u145_0_5 {β:Type}(g:St->β):Nat->Nat->Nat->Nat->Nat->Nat->Int->Int->Int->β:=p145_0_5.unc g
def p145_0_6:PT St:=pS [sY 0 (dX .f64),sY 1 (dF .f64),sP 4,sl 25 (aV true [(cD (dF .f64)),(cD (dF .f64))]),sI 26] [eBox 4 [xI,xI]]
def u145_0_6 {β:Type}(g:St->β):Nat->Nat->Nat->Nat->Nat->Int->Int->Int->β:=p145_0_6.unc g
def E145_0:EnvK:=EnvK.of [⟨186,nt186,[⟨pa183_0,Fn186_0 f186_0⟩]⟩,⟨187,nt187,[⟨pa183_0,Fn187_0 f187_0⟩]⟩,⟨188,nt188,[⟨pa188_0,Fn188_0 f188_0⟩]⟩] noSeq
theorem eo145_0:E145_0.Ok Pg:=EnvK.of_ok noSeq_ok ⟨⟨io186_0,TT⟩,⟨io187_0,TT⟩,⟨io188_0,TT⟩,TT⟩
def c145_0_35:MCode:=MCode.sub [1,1,1,0,1,0,0,1,1,0,0,0] (emb ac145)
abbrev TJ145_0_2:Type 1:=(α:Type)->Nat->Nat->Int->(Nat->Op α)->Op α
def J145_0_2g (α:Type)(b c:Nat)(a:Int)(k1:Nat->Op α):Op α:=
 cK (a == 1)
 (k1 c)
 (cK (a == 0)
 (k1 b)
 (none))
def J145_0_2:TJ145_0_2:=sld J145_0_2g
def F145_0_2 (v:TJ145_0_2)(α:Type)(K:KT α):Nat->Nat->Nat->Nat->Nat->Int->Bool->Int->Int->Op α:=fun d e g a b c l h i=>v α a b c (fun j=>u145_0_5 (K .normal) d e g j a b c h i)
theorem m145_0_2:∀ (α:Type) (K:KT α),F145_0_2 J145_0_2 α K=p145_0_4.unc fun σ=>runM Pg E145_0 sh145 c145_0_35 K σ:=sld0 (fun α K=>by kernel_rfl)
def c145_0_28:MCode:=MCode.sub [1,1,1,0,1,0,0] (MCode.put (.m [⟨p145_0_4,F145_0_2 J145_0_2⟩]) [1,1,1,0,1,0,0,1,1,0,0] (emb ac145))
def S145_0_3 (α:Type)(b c d:Nat)(a:Int)(kn:Int->Op α)(k1:Op α)(k2:Int->Bool->Op α):Op α:=
 cK (decide (a < 2))
 (J145_0_2 α c d a
 (fun e=>f187_0 α e
 (fun g=>cK ((FloatKind.format .f64).order g b == some Ordering.gt)
 (k1)
 (kn (w64 (a+1))))))
 (k2 a (decide (a < 2)))
def R145_0_3 (α:Type)(a b c:Nat)(k1:Op α)(k2:Int->Bool->Op α):Nat->Int->Op α
 | 0,_=>none
 | n+1,d=>S145_0_3 α a b c d (R145_0_3 α a b c k1 k2 n) k1 k2
def L145_0_3g (α:Type)(a b c:Nat)(k1:Op α)(k2:Int->Bool->Op α)(d:Int):Op α:=R145_0_3 α a b c k1 k2 fuel d
abbrev TL145_0_3:Type 1:=(α:Type)->Nat->Nat->Nat->(Op α)->(Int->Bool->Op α)->Int->Op α
def L145_0_3:TL145_0_3:=sld L145_0_3g
def F145_0_3 (v:TL145_0_3)(α:Type)(K:KT α):Nat->Nat->Nat->Nat->Nat->Int->Int->Int->Op α:=fun d e a b c g h i=>v α a b c (u145_0_3 (K .ret) 2 0 0) (fun j l=>u145_0_4 (K (.exit 2)) d e a b c j l h i) g
theorem r145_0_3 (α:Type)(K:KT α)(Kn:SK α)(e g a b c:Nat)(d h i:Int):u145_0_6 (fun σ=>runM Pg E145_0 sh145 c145_0_28 (thenK (fun σ=>tidyK td145_28 σ Kn) K) σ) e g a b c d h i=S145_0_3 α a b c d (fun d=>u145_0_6 Kn e g a b c d h i) (u145_0_3 (K .ret) 2 0 0) (fun j l=>u145_0_4 (K (.exit 2)) e g a b c j l h i):=by kernel_rfl
theorem t145_0_3 (α:Type)(K:KT α):∀ (n:Nat) (e g a b c:Nat) (d h i:Int),R145_0_3 α a b c (u145_0_3 (K .ret) 2 0 0) (fun j l=>u145_0_4 (K (.exit 2)) e g a b c j l h i) n d=u145_0_6 (loopT (runM Pg E145_0 sh145 c145_0_28) td145_28 K n) e g a b c d h i:=by
 intro n
 induction n with
 | zero=>intros;rfl
 | succ n ih=>intro e g a b c d h i;exact (congrArg (fun kn=>S145_0_3 α a b c d kn (u145_0_3 (K .ret) 2 0 0) (fun j l=>u145_0_4 (K (.exit 2)) e g a b c j l h i)) (funext fun d=>ih e g a b c d h i)).trans (r145_0_3 α K (loopT (runM Pg E145_0 sh145 c145_0_28) td145_28 K n) e g a b c d h i).symm
theorem m145_0_3:∀ (α:Type) (K:KT α),F145_0_3 L145_0_3 α K=p145_0_6.unc fun σ=>loopT (runM Pg E145_0 sh145 c145_0_28) td145_28 K fuel σ:=sld0 (fun α K=>funext fun a=>funext fun b=>funext fun c=>funext fun d=>funext fun e=>funext fun g=>funext fun h=>funext fun i=>t145_0_3 α K fuel a b c d e g h i)
def c145_0_16:MCode:=MCode.sub [1,1,0,1,0,0,1,1,0,0,0] (emb ac145)
def J145_0_0g (α:Type)(b c:Nat)(a:Int)(k1:Nat->Op α):Op α:=
 cK (a == 1)
 (k1 c)
 (cK (a == 0)
 (k1 b)
 (none))
def J145_0_0:TJ145_0_2:=sld J145_0_0g
def F145_0_0 (v:TJ145_0_2)(α:Type)(K:KT α):Nat->Nat->Nat->Nat->Nat->Int->Bool->Int->Int->Nat->Nat->Op α:=fun d e g a b c o h i j l=>v α a b c (fun m=>u145_0_1 (K .normal) d e g m a b c h i j l)
theorem m145_0_0:∀ (α:Type) (K:KT α),F145_0_0 J145_0_0 α K=p145_0_0.unc fun σ=>runM Pg E145_0 sh145 c145_0_16 K σ:=sld0 (fun α K=>by kernel_rfl)
def c145_0_9:MCode:=MCode.sub [1,1,0,1,0,0] (MCode.put (.m [⟨p145_0_0,F145_0_0 J145_0_0⟩]) [1,1,0,1,0,0,1,1,0,0] (emb ac145))
def S145_0_1 (α:Type)(b c:Nat)(a:Int)(kn:Int->Op α)(k1:Op α)(k2:Int->Bool->Op α):Op α:=
 cK (decide (a < 2))
 (J145_0_0 α b c a
 (fun d=>f186_0 α d
 (fun e=>cK (!e)
 (k1)
 (kn (w64 (a+1))))))
 (k2 a (decide (a < 2)))
def R145_0_1 (α:Type)(a b:Nat)(k1:Op α)(k2:Int->Bool->Op α):Nat->Int->Op α
 | 0,_=>none
 | n+1,c=>S145_0_1 α a b c (R145_0_1 α a b k1 k2 n) k1 k2
def L145_0_1g (α:Type)(a b:Nat)(k1:Op α)(k2:Int->Bool->Op α)(c:Int):Op α:=R145_0_1 α a b k1 k2 fuel c
abbrev TL145_0_1:Type 1:=(α:Type)->Nat->Nat->(Op α)->(Int->Bool->Op α)->Int->Op α
def L145_0_1:TL145_0_1:=sld L145_0_1g
def F145_0_1 (v:TL145_0_1)(α:Type)(K:KT α):Nat->Nat->Nat->Nat->Nat->Int->Int->Int->Nat->Nat->Op α:=fun c d e a b g h i j l=>v α a b (u145_0_3 (K .ret) 27 0 0) (fun m o=>u145_0_0 (K (.exit 0)) c d e a b m o h i j l) g
theorem r145_0_1 (α:Type)(K:KT α)(Kn:SK α)(d e g a b:Nat)(c h i:Int)(j l:Nat):u145_0_2 (fun σ=>runM Pg E145_0 sh145 c145_0_9 (thenK (fun σ=>tidyK td145_9 σ Kn) K) σ) d e g a b c h i j l=S145_0_1 α a b c (fun c=>u145_0_2 Kn d e g a b c h i j l) (u145_0_3 (K .ret) 27 0 0) (fun m o=>u145_0_0 (K (.exit 0)) d e g a b m o h i j l):=by kernel_rfl
theorem t145_0_1 (α:Type)(K:KT α):∀ (n:Nat) (d e g a b:Nat) (c h i:Int) (j l:Nat),R145_0_1 α a b (u145_0_3 (K .ret) 27 0 0) (fun m o=>u145_0_0 (K (.exit 0)) d e g a b m o h i j l) n c=u145_0_2 (loopT (runM Pg E145_0 sh145 c145_0_9) td145_9 K n) d e g a b c h i j l:=by
 intro n
 induction n with
 | zero=>intros;rfl
 | succ n ih=>intro d e g a b c h i j l;exact (congrArg (fun kn=>S145_0_1 α a b c kn (u145_0_3 (K .ret) 27 0 0) (fun m o=>u145_0_0 (K (.exit 0)) d e g a b m o h i j l)) (funext fun c=>ih d e g a b c h i j l)).trans (r145_0_1 α K (loopT (runM Pg E145_0 sh145 c145_0_9) td145_9 K n) d e g a b c h i j l).symm
theorem m145_0_1:∀ (α:Type) (K:KT α),F145_0_1 L145_0_1 α K=p145_0_2.unc fun σ=>loopT (runM Pg E145_0 sh145 c145_0_9) td145_9 K fuel σ:=sld0 (fun α K=>funext fun a=>funext fun b=>funext fun c=>funext fun d=>funext fun e=>funext fun g=>funext fun h=>funext fun i=>funext fun j=>funext fun l=>t145_0_1 α K fuel a b c d e g h i j l)
abbrev Tf145_0:Type 1:=(α:Type)->Nat->Nat->Nat->(Int->Int->Int->Op α)->Op α
def f145_0g (α:Type)(a b c:Nat)(k1:Int->Int->Int->Op α):Op α:=
 L145_0_1 α a b
 (k1 0 0 27)
 (fun g h=>L145_0_3 α c a b
 (k1 0 0 2)
 (fun i j=>f188_0 α a b
 (fun d e=>k1 d e 0)) 0) 0
def f145_0:Tf145_0:=sld f145_0g
def pa145_0:PT (List DV):=pA [pV false [(dX .f64)],pV false [(dF .f64)]]
def Fn145_0 (v:Tf145_0)(α:Type)(k:RT α):Nat->Nat->Nat->Op α:=fun a b c=>v α a b c (fun d e g=>ur165_0_0 k d e g)
def cm145_0:MCode:=(MCode.put (.m [⟨p145_0_2,F145_0_1 L145_0_1⟩]) [1,1,0,1,0] (MCode.put (.m [⟨p145_0_0,F145_0_0 J145_0_0⟩]) [1,1,0,1,0,0,1,1,0,0] (MCode.put (.m [⟨p145_0_6,F145_0_3 L145_0_3⟩]) [1,1,1,0,1,0] (MCode.put (.m [⟨p145_0_4,F145_0_2 J145_0_2⟩]) [1,1,1,0,1,0,0,1,1,0,0] (emb ac145)))))
theorem io145_0:InstOk Pg 145 nt145 ⟨pa145_0,Fn145_0 f145_0⟩:=inst_s eo145_0 followsTry (codeF_is Tryz.func145 (by kernel_rfl)) sh145 cm145_0 ((put_erase _ _).trans ((put_erase _ _).trans ((put_erase _ _).trans ((put_erase _ _).trans (emb_erase _))))) (put_loop (td:=td145_9) (by kernel_rfl) (put_seq (by kernel_rfl) (put_loop (td:=td145_28) (by kernel_rfl) (put_seq (by kernel_rfl) (emb_good ac145) ⟨m145_0_2,TT⟩) ⟨m145_0_3,TT⟩) ⟨m145_0_0,TT⟩) ⟨m145_0_1,TT⟩) fun _ _=>by kernel_rfl
abbrev nt179:Nat:=32
def tr179:TG:=[tT 0 [0,1,4],tT 1 [0,1,4,15],tT 2 [4,5],tT 3 [4,6,7],tT 4 [4,5]]
def ac179:ACode:=codeF Pg Tryz.f179 tr179 tl13
def E179_0:EnvK:=EnvK.of [⟨140,nt140,[⟨pa19_0,Fn140_0 f140_0⟩]⟩,⟨146,nt146,[⟨pa146_0,Fn146_0 f146_0⟩]⟩,⟨171,nt171,[⟨pa19_0,Fn171_0 f171_0⟩]⟩,⟨172,nt172,[⟨pa172_0,Fn172_0 f172_0⟩]⟩,⟨182,nt182,[⟨pa182_0,Fn182_0 f182_0⟩]⟩] noSeq
theorem eo179_0:E179_0.Ok Pg:=EnvK.of_ok noSeq_ok ⟨⟨io140_0,TT⟩,⟨io146_0,TT⟩,⟨io171_0,TT⟩,⟨io172_0,TT⟩,⟨io182_0,TT⟩,TT⟩
abbrev Tf179_0:Type 1:=(α:Type)->Int->Int->(Nat->Nat->Int->Int->Op α)->Op α
def f179_0g (α:Type)(a b:Int)(k1:Nat->Nat->Int->Int->Op α):Op α:=
 f140_0 α a 1000000000
 (fun c=>cK (!c)
 (k1 0 0 0 2)
 (f146_0 α b 1 1000000000
 (fun d=>cK (!d)
 (k1 0 0 0 2)
 (f171_0 α (w64 (a*1048576)) b
 (fun e g=>f172_0 α g
 (fun h=>f182_0 α e 0 h
 (fun i j l m=>k1 i j l m)))))))
def f179_0:Tf179_0:=sld f179_0g
def Fn179_0 (v:Tf179_0)(α:Type)(k:RT α):Int->Int->Op α:=fun a b=>v α a b (fun c d e g=>ur182_0_0 k c d e g)
def cm179_0:MCode:=(emb ac179)
theorem io179_0:InstOk Pg 179 nt179 ⟨pa19_0,Fn179_0 f179_0⟩:=inst_s eo179_0 followsTry (codeF_is Tryz.func179 (by kernel_rfl)) sh19 cm179_0 (emb_erase _) (emb_good ac179) fun _ _=>by kernel_rfl
abbrev nt136:Nat:=40
def sh136:SG:=[(7,iT),(12,iT),(19,iT),(21,iT),(25,iT),(27,iT),(33,iT)]
def tr136:TG:=[tT 0 [1,2],tT 1 [1,2,5],tT 2 [2,3],tT 3 [1,2,17],tT 4 [2,3],tT 5 [1,2,4],tT 6 [2,3]]
def ac136:ACode:=codeF Pg Tryz.f136 tr136 tl13
def p136_0_0:PT St:=pS [sP 1,sP 2] [eBox 1 [xI,xI],eBox 2 [(cD (dX .f64)),xI]]
def u136_0_0 {β:Type}(g:St->β):Int->Int->Nat->Nat->Int->β:=p136_0_0.unc g
def p136_0_1:PT St:=pS [sP 1,sP 2,sY 5 dB] [eBox 1 [xI,xI],eBox 2 [(cD (dX .f64)),xI]]
def u136_0_1 {β:Type}(g:St->β):Bool->Int->Int->Nat->Nat->Int->β:=p136_0_1.unc g
def E136_0:EnvK:=EnvK.of [⟨140,nt140,[⟨pa19_0,Fn140_0 f140_0⟩]⟩,⟨88,nt88,[⟨pa19_0,Fn88_0 f88_0⟩]⟩,⟨182,nt182,[⟨pa182_0,Fn182_0 f182_0⟩]⟩] noSeq
theorem eo136_0:E136_0.Ok Pg:=EnvK.of_ok noSeq_ok ⟨⟨io140_0,TT⟩,⟨io88_0,TT⟩,⟨io182_0,TT⟩,TT⟩
def c136_0_5:MCode:=MCode.sub [1,0,0,0] (emb ac136)
def J136_0_0g (α:Type)(a b:Int)(k1:Bool->Op α):Op α:=
 f140_0 α a 67108864
 (fun c=>cK (!c)
 (k1 true)
 (f140_0 α b 67108864
 (fun d=>k1 (!d))))
def J136_0_0:Tf161_0:=sld J136_0_0g
def F136_0_0 (v:Tf161_0)(α:Type)(K:KT α):Int->Int->Nat->Nat->Int->Op α:=fun a b c d e=>v α a b (fun g=>u136_0_1 (K .normal) g a b c d e)
theorem m136_0_0:∀ (α:Type) (K:KT α),F136_0_0 J136_0_0 α K=p136_0_0.unc fun σ=>runM Pg E136_0 sh136 c136_0_5 K σ:=sld0 (fun α K=>by kernel_rfl)
def f136_0g (α:Type)(b a:Int)(k1:Nat->Nat->Int->Int->Op α):Op α:=
 J136_0_0 α b a
 (fun d=>cK d
 (k1 0 0 0 2)
 (cK (decide (a < b))
 (k1 0 0 0 10)
 (f88_0 α (w64 (b+a)) 2
 (fun c=>f182_0 α c 0 (w64 (a - c))
 (fun e g h i=>k1 e g h i)))))
def f136_0:Tf179_0:=sld f136_0g
def Fn136_0 (v:Tf179_0)(α:Type)(k:RT α):Int->Int->Op α:=fun a b=>v α a b (fun c d e g=>ur182_0_0 k c d e g)
def cm136_0:MCode:=(MCode.put (.m [⟨p136_0_0,F136_0_0 J136_0_0⟩]) [1,0,0] (emb ac136))
theorem io136_0:InstOk Pg 136 nt136 ⟨pa161_0,Fn136_0 f136_0⟩:=inst_s eo136_0 followsTry (codeF_is Tryz.func136 (by kernel_rfl)) sh136 cm136_0 ((put_erase _ _).trans (emb_erase _)) (put_seq (by kernel_rfl) (emb_good ac136) ⟨m136_0_0,TT⟩) fun _ _=>by kernel_rfl
abbrev nt70:Nat:=107
def sh70:SG:=[(9,iT),(13,iS 2),(19,iT),(23,iS 2),(29,[.sl]),(33,[.sl]),(38,iS 5),(39,iS 5),(43,iT),(49,iT),(56,iT),(63,iT),(69,iT),(78,iT),(81,iT),(86,iT),(89,iT),(97,iT),(103,iT)]
def tr70:TG:=[tT 0 [1],tT 1 [1,11],tT 2 [2,3],tT 3 [1,4],tT 4 [1,4,16],tT 5 [2,3],tT 6 [1,21],tT 7 [2,3],tT 8 [1,5],tT 9 [1,5,26],tT 10 [2,3],tT 11 [1,31],tT 12 [2,3],tT 13 [1,33,34,35],tT 14 [1,33,34,35,36],tT 15 [1,6,7,33,34,35],tT 16 [1,6,7,33,34,35,40],tT 17 [2,3],tT 18 [1,6,33,34,35,75],tT 19 [2,3],tT 20 [1,33,34,35],tT 21 [106],tT 22 [2,3],tT 23 [2,3]]
def tl70:TG:=[(14,⟨[1,33,34,35],true,[⟨false,33,0,20033,5⟩,⟨true,1,6,30106,5⟩],[]⟩)]
def ac70:ACode:=codeF Pg Tryz.f70 tr70 tl70
def td70_41:OT:=tdC (MCode.sub [1,1,1,1,1,1,0,1,0] (emb ac70))
def p70_0_0:PT St:=pS [sP 1,sI 6,sP 7,sY 33 dL,sI 34,sI 35] [eBox 1 [xI,xI,xI,xI,xI,xI,(cD dL),xI,xI],eBox 7 (xs 5)]
def u70_0_0 {β:Type}(g:St->β):Int->Rows->Int->Int->Int->Int->Int->Int->Int->Int->Rows->I7 β:=p70_0_0.unc g
def p70_0_1:PT St:=pS [sP 1,sI 6,sP 7,sY 33 dL,sI 34,sI 35,sY 40 dB] [eBox 1 [xI,xI,xI,xI,xI,xI,(cD dL),xI,xI],eBox 7 (xs 5)]
def u70_0_1 {β:Type}(g:St->β):Int->Rows->Int->Int->Bool->Int->Int->Int->Int->Int->Int->Rows->I7 β:=p70_0_1.unc g
def p70_0_2:PT St:=pS [sP 1,sY 33 dL,sI 34,sI 35] [eBox 1 [xI,xI,xI,xI,xI,xI,(cD dL),xI,xI]]
def u70_0_2 {β:Type}(g:St->β):Rows->Int->Int->Int->Int->Int->Int->Int->Int->Rows->Int->Int->β:=p70_0_2.unc g
def p70_0_3:PT St:=pS [sI 2,sI 3] []
def u70_0_3 {β:Type}(g:St->β):Int->Int->β:=p70_0_3.unc g
def p70_0_4:PT St:=pS [sP 1,sY 33 dL,sI 34,sI 35,sY 36 dB] [eBox 1 [xI,xI,xI,xI,xI,xI,(cD dL),xI,xI]]
def u70_0_4 {β:Type}(g:St->β):Rows->Int->Int->Bool->Int->Int->Int->Int->Int->Int->Rows->Int->Int->β:=p70_0_4.unc g
def pr70_0_0:PT (List RV):=pRs [wI,wI]
def ur70_0_0 {β:Type}(g:List RV->β):Int->Int->β:=pr70_0_0.unc g
def E70_0:EnvK:=EnvK.of [⟨107,nt107,[⟨pa215_0,Fn107_0 f107_0⟩]⟩,⟨115,nt115,[⟨pa115_0,Fn115_0 f115_0⟩,⟨pa115_1,Fn115_1 f115_1⟩]⟩,⟨110,nt110,[⟨pa146_0,Fn110_0 f110_0⟩]⟩,⟨109,nt109,[⟨pa215_0,Fn109_0 f109_0⟩]⟩,⟨108,nt108,[⟨pa215_0,Fn108_0 f108_0⟩]⟩] noSeq
theorem eo70_0:E70_0.Ok Pg:=EnvK.of_ok noSeq_ok ⟨⟨io107_0,TT⟩,⟨io115_0,io115_1,TT⟩,⟨io110_0,TT⟩,⟨io109_0,TT⟩,⟨io108_0,TT⟩,TT⟩
def c70_0_51:MCode:=MCode.sub [1,1,1,1,1,1,0,1,0,0,1,1,0,0,1,0,0] (emb ac70)
abbrev TJ70_0_0:Type 1:=(α:Type)->Int->Int->Int->Int->Int->(Bool->Op α)->Op α
def J70_0_0g (α:Type)(a b c d e:Int)(k1:Bool->Op α):Op α:=
 f107_0 α a
 (fun g=>cK (!g)
 (k1 true)
 (f107_0 α b
 (fun h=>cK (!h)
 (k1 true)
 (f109_0 α c
 (fun i=>cK (!i)
 (k1 true)
 (f109_0 α d
 (fun j=>cK (!j)
 (k1 true)
 (f108_0 α e
 (fun l=>k1 (!l))))))))))
def J70_0_0:TJ70_0_0:=sld J70_0_0g
def F70_0_0 (v:TJ70_0_0)(α:Type)(K:KT α):Int->Rows->Int->Int->Int->Int->Int->Int->Int->Int->Rows->I7 (Op α):=fun g h i j l m o p q r s t w a b c d e=>v α a b c d e (fun z=>u70_0_1 (K .normal) g h i j z l m o p q r s t w a b c d e)
theorem m70_0_0:∀ (α:Type) (K:KT α),F70_0_0 J70_0_0 α K=p70_0_0.unc fun σ=>runM Pg E70_0 sh70 c70_0_51 K σ:=sld0 (fun α K=>by kernel_rfl)
def c70_0_41:MCode:=MCode.sub [1,1,1,1,1,1,0,1,0,0] (MCode.put (.m [⟨p70_0_0,F70_0_0 J70_0_0⟩]) [1,1,1,1,1,1,0,1,0,0,1,1,0,0,1,0] (emb ac70))
def S70_0_1 (α:Type)(h:Rows)(b a:Int)(kn:Int->Op α)(k1:Int->Int->Op α)(k2:Int->Bool->Op α):Op α:=
 cK (decide (a < b))
 (rowK h a [.int .i64,.int .i64,.int .i64,.int .i64,.int .i64]
 (fun c d e g i=>J70_0_0 α c d e g i
 (fun j=>cK j
 (k1 (w64 (a+1)) 2)
 (cK (decide (d < c))
 (k1 (w64 (a+1)) 10)
 (cK (decide (g < e))
 (k1 (w64 (a+1)) 10)
 (kn (w64 (a+1))))))))
 (k2 a (decide (a < b)))
def R70_0_1 (α:Type)(a:Rows)(b:Int)(k1:Int->Int->Op α)(k2:Int->Bool->Op α):Nat->Int->Op α
 | 0,_=>none
 | n+1,c=>S70_0_1 α a b c (R70_0_1 α a b k1 k2 n) k1 k2
def L70_0_1g (α:Type)(a:Rows)(b:Int)(k1:Int->Int->Op α)(k2:Int->Bool->Op α)(c:Int):Op α:=R70_0_1 α a b k1 k2 fuel c
abbrev TL70_0_1:Type 1:=(α:Type)->Rows->Int->(Int->Int->Op α)->(Int->Bool->Op α)->Int->Op α
def L70_0_1:TL70_0_1:=sld L70_0_1g
def F70_0_1 (v:TL70_0_1)(α:Type)(K:KT α):Rows->Int->Int->Int->Int->Int->Int->Int->Int->Rows->Int->Int->Op α:=fun c d e g h i j l m o p q=>v α c d (fun a b=>u70_0_3 (K .ret) a b) (fun a b=>u70_0_4 (K (.exit 0)) c d a b g h i j l m o p q) e
theorem r70_0_1 (α:Type)(K:KT α)(Kn:SK α)(a:Rows)(b c d e g h i j:Int)(l:Rows)(m o:Int):u70_0_2 (fun σ=>runM Pg E70_0 sh70 c70_0_41 (thenK (fun σ=>tidyK td70_41 σ Kn) K) σ) a b c d e g h i j l m o=S70_0_1 α a b c (fun c=>u70_0_2 Kn a b c d e g h i j l m o) (fun p q=>u70_0_3 (K .ret) p q) (fun p q=>u70_0_4 (K (.exit 0)) a b p q d e g h i j l m o):=by kernel_rfl
theorem t70_0_1 (α:Type)(K:KT α):∀ (n:Nat) (a:Rows) (b c g h i j l m:Int) (o:Rows) (p q:Int),R70_0_1 α a b (fun d e=>u70_0_3 (K .ret) d e) (fun d e=>u70_0_4 (K (.exit 0)) a b d e g h i j l m o p q) n c=u70_0_2 (loopT (runM Pg E70_0 sh70 c70_0_41) td70_41 K n) a b c g h i j l m o p q:=by
 intro n
 induction n with
 | zero=>intros;rfl
 | succ n ih=>intro a b c g h i j l m o p q;exact (congrArg (fun kn=>S70_0_1 α a b c kn (fun d e=>u70_0_3 (K .ret) d e) (fun d e=>u70_0_4 (K (.exit 0)) a b d e g h i j l m o p q)) (funext fun c=>ih a b c g h i j l m o p q)).trans (r70_0_1 α K (loopT (runM Pg E70_0 sh70 c70_0_41) td70_41 K n) a b c g h i j l m o p q).symm
theorem m70_0_1:∀ (α:Type) (K:KT α),F70_0_1 L70_0_1 α K=p70_0_2.unc fun σ=>loopT (runM Pg E70_0 sh70 c70_0_41) td70_41 K fuel σ:=sld0 (fun α K=>funext fun a=>funext fun b=>funext fun c=>funext fun d=>funext fun e=>funext fun g=>funext fun h=>funext fun i=>funext fun j=>funext fun l=>funext fun m=>funext fun o=>t70_0_1 α K fuel a b c d e g h i j l m o)
abbrev Tf70_0:Type 1:=(α:Type)->Int->Int->Int->Int->Int->Int->Rows->Int->Int->(Int->Int->Op α)->Op α
def f70_0g (α:Type)(d e g h i j:Int)(a:Rows)(l m:Int)(k1:Int->Int->Op α):Op α:=
 f107_0 α d
 (fun o=>cK (!o)
 (k1 0 2)
 (f115_0 α e g
 (fun b=>cK (b != 0)
 (k1 0 b)
 (f110_0 α h 0 1
 (fun p=>cK (!p)
 (k1 0 11)
 (f115_1 α i j
 (fun c=>cK (c != 0)
 (k1 0 c)
 (cK (decide (40 < ((List.length a:Nat):Int)))
 (k1 0 8)
 (L70_0_1 α a ((List.length a:Nat):Int)
 (fun q r=>k1 q r)
 (fun w z=>f107_0 α l
 (fun s=>cK (!s)
 (k1 0 2)
 (f108_0 α m
 (fun t=>cK (!t)
 (k1 0 2)
 (k1 0 0))))) 0)))))))))
def f70_0:Tf70_0:=sld f70_0g
def pa70_0:PT (List DV):=pA [pV true [(dI .i64),(dI .i64),(dI .i64),(dI .i64),(dI .i64),(dI .i64),dL,(dI .i64),(dI .i64)]]
def Fn70_0 (v:Tf70_0)(α:Type)(k:RT α):Int->Int->Int->Int->Int->Int->Rows->Int->Int->Op α:=fun a b c d e g h i j=>v α a b c d e g h i j (fun l m=>ur70_0_0 k l m)
def cm70_0:MCode:=(MCode.put (.m [⟨p70_0_2,F70_0_1 L70_0_1⟩]) [1,1,1,1,1,1,0,1,0] (MCode.put (.m [⟨p70_0_0,F70_0_0 J70_0_0⟩]) [1,1,1,1,1,1,0,1,0,0,1,1,0,0,1,0] (emb ac70)))
theorem io70_0:InstOk Pg 70 nt70 ⟨pa70_0,Fn70_0 f70_0⟩:=inst_s eo70_0 followsTry (codeF_is Tryz.func70 (by kernel_rfl)) sh70 cm70_0 ((put_erase _ _).trans ((put_erase _ _).trans (emb_erase _))) (put_loop (td:=td70_41) (by kernel_rfl) (put_seq (by kernel_rfl) (emb_good ac70) ⟨m70_0_0,TT⟩) ⟨m70_0_1,TT⟩) fun _ _=>by kernel_rfl
abbrev nt69:Nat:=29
def sh69:SG:=[(20,iS 9),(21,iS 9),(22,iS 9)]
def tr69:TG:=[tT 0 [0],tT 1 [0,7],tT 2 [2,3],tT 3 [0,11],tT 4 [2,3],tT 5 [15,16,17],tT 6 [15,16,17,18],tT 7 [4,5,15,16,17],tT 8 [4,6,15,16,17],tT 9 [4,6,15,16,17,25],tT 10 [2,3],tT 11 [15,16,17],tT 12 [2,3]]
def tl69:TG:=[(6,⟨[15,16,17],true,[⟨false,15,0,20015,9⟩],[]⟩)]
def ac69:ACode:=codeF Pg Tryz.f69 tr69 tl69
def td69_19:OT:=tdC (MCode.sub [1,1,0,1,0] (emb ac69))
def p69_0_0:PT St:=pS [sY 15 dL,sI 16,sI 17] []
def u69_0_0 {β:Type}(g:St->β):Rows->Int->Int->β:=p69_0_0.unc g
def p69_0_2:PT St:=pS [sY 15 dL,sI 16,sI 17,sY 18 dB] []
def u69_0_2 {β:Type}(g:St->β):Rows->Int->Int->Bool->β:=p69_0_2.unc g
def E69_0:EnvK:=EnvK.of [⟨114,nt114,[⟨pa72_0,Fn114_0 f114_0⟩]⟩] noSeq
theorem eo69_0:E69_0.Ok Pg:=EnvK.of_ok noSeq_ok ⟨⟨io114_0,TT⟩,TT⟩
def c69_0_19:MCode:=MCode.sub [1,1,0,1,0,0] (emb ac69)
def S69_0_0 (α:Type)(d:Rows)(b a:Int)(kn:Int->Op α)(k1:Int->Int->Op α)(k2:Int->Bool->Op α):Op α:=
 cK (decide (a < b))
 (rowK d a [.int .i64,.int .i64,.int .i64,.int .i64,.int .i64,.int .i64,.int .i64,.int .i64,.int .i64]
 (fun e g h i j l m o p=>f114_0 α e g h i j l m o p
 (fun c=>cK (c != 0)
 (k1 a c)
 (kn (w64 (a+1))))))
 (k2 a (decide (a < b)))
def R69_0_0 (α:Type)(a:Rows)(b:Int)(k1:Int->Int->Op α)(k2:Int->Bool->Op α):Nat->Int->Op α
 | 0,_=>none
 | n+1,c=>S69_0_0 α a b c (R69_0_0 α a b k1 k2 n) k1 k2
def L69_0_0g (α:Type)(a:Rows)(b:Int)(k1:Int->Int->Op α)(k2:Int->Bool->Op α)(c:Int):Op α:=R69_0_0 α a b k1 k2 fuel c
def L69_0_0:TL70_0_1:=sld L69_0_0g
def F69_0_0 (v:TL70_0_1)(α:Type)(K:KT α):Rows->Int->Int->Op α:=fun c d e=>v α c d (fun a b=>u70_0_3 (K .ret) a b) (fun a b=>u69_0_2 (K (.exit 1)) c d a b) e
theorem r69_0_0 (α:Type)(K:KT α)(Kn:SK α)(a:Rows)(b c:Int):u69_0_0 (fun σ=>runM Pg E69_0 sh69 c69_0_19 (thenK (fun σ=>tidyK td69_19 σ Kn) K) σ) a b c=S69_0_0 α a b c (fun c=>u69_0_0 Kn a b c) (fun d e=>u70_0_3 (K .ret) d e) (fun d e=>u69_0_2 (K (.exit 1)) a b d e):=by kernel_rfl
theorem t69_0_0 (α:Type)(K:KT α):∀ (n:Nat) (a:Rows) (b c:Int),R69_0_0 α a b (fun d e=>u70_0_3 (K .ret) d e) (fun d e=>u69_0_2 (K (.exit 1)) a b d e) n c=u69_0_0 (loopT (runM Pg E69_0 sh69 c69_0_19) td69_19 K n) a b c:=by
 intro n
 induction n with
 | zero=>intros;rfl
 | succ n ih=>intro a b c;exact (congrArg (fun kn=>S69_0_0 α a b c kn (fun d e=>u70_0_3 (K .ret) d e) (fun d e=>u69_0_2 (K (.exit 1)) a b d e)) (funext fun c=>ih a b c)).trans (r69_0_0 α K (loopT (runM Pg E69_0 sh69 c69_0_19) td69_19 K n) a b c).symm
theorem m69_0_0:∀ (α:Type) (K:KT α),F69_0_0 L69_0_0 α K=p69_0_0.unc fun σ=>loopT (runM Pg E69_0 sh69 c69_0_19) td69_19 K fuel σ:=sld0 (fun α K=>funext fun a=>funext fun b=>funext fun c=>t69_0_0 α K fuel a b c)
abbrev Tf69_0:Type 1:=(α:Type)->Rows->(Int->Int->Op α)->Op α
def f69_0g (α:Type)(a:Rows)(k1:Int->Int->Op α):Op α:=
 cK (((List.length a:Nat):Int) == 0)
 (k1 0 12)
 (cK (decide (8 < ((List.length a:Nat):Int)))
 (k1 0 8)
 (L69_0_0 α a ((List.length a:Nat):Int)
 (fun b c=>k1 b c)
 (fun d e=>k1 0 0) 0))
def f69_0:Tf69_0:=sld f69_0g
def Fn69_0 (v:Tf69_0)(α:Type)(k:RT α):Rows->Op α:=fun a=>v α a (fun b c=>ur70_0_0 k b c)
def cm69_0:MCode:=(MCode.put (.m [⟨p69_0_0,F69_0_0 L69_0_0⟩]) [1,1,0,1,0] (emb ac69))
theorem io69_0:InstOk Pg 69 nt69 ⟨pa10_0,Fn69_0 f69_0⟩:=inst_s eo69_0 followsTry (codeF_is Tryz.func69 (by kernel_rfl)) sh69 cm69_0 ((put_erase _ _).trans (emb_erase _)) (put_loop (td:=td69_19) (by kernel_rfl) (emb_good ac69) ⟨m69_0_0,TT⟩) fun _ _=>by kernel_rfl
abbrev nt87:Nat:=17
def sh87:SG:=[(4,iS 2),(7,iT),(11,iS 2),(14,iT)]
def tr87:TG:=[tT 0 [1,2],tT 1 [2]]
def ac87:ACode:=codeF Pg Tryz.f87 tr87 tl13
def E87_0:EnvK:=EnvK.of [⟨139,nt139,[⟨pa161_0,Fn139_0 f139_0⟩]⟩,⟨147,nt147,[⟨pa161_0,Fn147_0 f147_0⟩]⟩] noSeq
theorem eo87_0:E87_0.Ok Pg:=EnvK.of_ok noSeq_ok ⟨⟨io139_0,TT⟩,⟨io147_0,TT⟩,TT⟩
def f87_0g (α:Type)(b c a:Int)(k1:Int->Int->Op α):Op α:=
 f139_0 α b c
 (fun d=>f147_0 α b c
 (fun e=>k1 (if (w64 (d - a)) > 0 then (w64 (d - a)) else 0) (w64 (e+a))))
def f87_0:Tf181_0:=sld f87_0g
def Fn87_0 (v:Tf181_0)(α:Type)(k:RT α):Int->Int->Int->Op α:=fun a b c=>v α a b c (fun d e=>ur13_0_0 k d e)
def cm87_0:MCode:=(emb ac87)
theorem io87_0:InstOk Pg 87 nt87 ⟨pa182_0,Fn87_0 f87_0⟩:=inst_s eo87_0 followsTry (codeF_is Tryz.func87 (by kernel_rfl)) sh87 cm87_0 (emb_erase _) (emb_good ac87) fun _ _=>by kernel_rfl
abbrev nt214:Nat:=36
def sh214:SG:=[(30,iT),(32,iT)]
def tr214:TG:=[tT 0 [0,2],tT 1 [0,2],tT 2 [0,2,9],tT 3 [2],tT 4 [0,2,16],tT 5 [2],tT 6 [0,2,23],tT 7 [2,3],tT 8 [2],tT 9 [2]]
def ac214:ACode:=codeF Pg Tryz.f214 tr214 tl13
def E214_2:EnvK:=EnvK.of [⟨88,nt88,[⟨pa19_0,Fn88_0 f88_0⟩]⟩,⟨220,nt220,[⟨pa215_0,Fn220_0 f220_0⟩]⟩] noSeq
theorem eo214_2:E214_2.Ok Pg:=EnvK.of_ok noSeq_ok ⟨⟨io88_0,TT⟩,⟨io220_0,TT⟩,TT⟩
def f214_2g (α:Type)(a:Int)(k1:Int->Int->Op α):Op α:=
 f88_0 α a 4194304
 (fun b=>cK (decide (2097152<=(w64 (a - (w64 (4194304*b))))))
 (none)
 (cK (decide (1048576<=(w64 (a - (w64 (4194304*b))))))
 (none)
 (cK (decide (524288 < (w64 (a - (w64 (4194304*b))))))
 (f220_0 α (w64 (1048576 - (w64 (a - (w64 (4194304*b))))))
 (fun c d=>k1 d c))
 (f220_0 α (w64 (a - (w64 (4194304*b))))
 (fun e g=>k1 e g)))))
def f214_2:Tf220_0:=sld f214_2g
def Fn214_2 (v:Tf220_0)(α:Type)(k:RT α):Int->Op α:=fun a=>v α a (fun b c=>ur13_0_0 k b c)
def cm214_2:MCode:=(emb ac214)
theorem io214_2:InstOk Pg 214 nt214 ⟨pa215_0,Fn214_2 f214_2⟩:=inst_s eo214_2 followsTry (codeF_is Tryz.func214 (by kernel_rfl)) sh214 cm214_2 (emb_erase _) (emb_good ac214) fun _ _=>by kernel_rfl
def E214_1:EnvK:=EnvK.of [⟨88,nt88,[⟨pa19_0,Fn88_0 f88_0⟩]⟩,⟨214,nt214,[⟨pa215_0,Fn214_2 f214_2⟩]⟩,⟨181,nt181,[⟨pa181_0,Fn181_0 f181_0⟩]⟩,⟨220,nt220,[⟨pa215_0,Fn220_0 f220_0⟩]⟩] noSeq
theorem eo214_1:E214_1.Ok Pg:=EnvK.of_ok noSeq_ok ⟨⟨io88_0,TT⟩,⟨io214_2,TT⟩,⟨io181_0,TT⟩,⟨io220_0,TT⟩,TT⟩
def f214_1g (α:Type)(a:Int)(k1:Int->Int->Op α):Op α:=
 f88_0 α a 4194304
 (fun b=>cK (decide (2097152<=(w64 (a - (w64 (4194304*b))))))
 (f214_2 α (w64 ((w64 (a - (w64 (4194304*b)))) - 2097152))
 (fun c d=>f181_0 α c d 2
 (fun e g=>k1 e g)))
 (cK (decide (1048576<=(w64 (a - (w64 (4194304*b))))))
 (f214_2 α (w64 ((w64 (a - (w64 (4194304*b)))) - 1048576))
 (fun h i=>f181_0 α h i 1
 (fun j l=>k1 j l)))
 (cK (decide (524288 < (w64 (a - (w64 (4194304*b))))))
 (f220_0 α (w64 (1048576 - (w64 (a - (w64 (4194304*b))))))
 (fun m o=>k1 o m))
 (f220_0 α (w64 (a - (w64 (4194304*b))))
 (fun p q=>k1 p q)))))
def f214_1:Tf220_0:=sld f214_1g
def Fn214_1 (v:Tf220_0)(α:Type)(k:RT α):Int->Op α:=fun a=>v α a (fun b c=>ur13_0_0 k b c)
def cm214_1:MCode:=(emb ac214)
theorem io214_1:InstOk Pg 214 nt214 ⟨pa215_0,Fn214_1 f214_1⟩:=inst_s eo214_1 followsTry (codeF_is Tryz.func214 (by kernel_rfl)) sh214 cm214_1 (emb_erase _) (emb_good ac214) fun _ _=>by kernel_rfl
def E214_0:EnvK:=EnvK.of [⟨88,nt88,[⟨pa19_0,Fn88_0 f88_0⟩]⟩,⟨214,nt214,[⟨pa215_0,Fn214_1 f214_1⟩]⟩,⟨181,nt181,[⟨pa181_0,Fn181_0 f181_0⟩]⟩,⟨220,nt220,[⟨pa215_0,Fn220_0 f220_0⟩]⟩] noSeq
theorem eo214_0:E214_0.Ok Pg:=EnvK.of_ok noSeq_ok ⟨⟨io88_0,TT⟩,⟨io214_1,TT⟩,⟨io181_0,TT⟩,⟨io220_0,TT⟩,TT⟩
def f214_0g (α:Type)(a:Int)(k1:Int->Int->Op α):Op α:=
 f88_0 α a 4194304
 (fun b=>cK (decide (2097152<=(w64 (a - (w64 (4194304*b))))))
 (f214_1 α (w64 ((w64 (a - (w64 (4194304*b)))) - 2097152))
 (fun c d=>f181_0 α c d 2
 (fun e g=>k1 e g)))
 (cK (decide (1048576<=(w64 (a - (w64 (4194304*b))))))
 (f214_1 α (w64 ((w64 (a - (w64 (4194304*b)))) - 1048576))
 (fun h i=>f181_0 α h i 1
 (fun j l=>k1 j l)))
 (cK (decide (524288 < (w64 (a - (w64 (4194304*b))))))
 (f220_0 α (w64 (1048576 - (w64 (a - (w64 (4194304*b))))))
 (fun m o=>k1 o m))
 (f220_0 α (w64 (a - (w64 (4194304*b))))
 (fun p q=>k1 p q)))))
def f214_0:Tf220_0:=sld f214_0g
def Fn214_0 (v:Tf220_0)(α:Type)(k:RT α):Int->Op α:=fun a=>v α a (fun b c=>ur13_0_0 k b c)
def cm214_0:MCode:=(emb ac214)
theorem io214_0:InstOk Pg 214 nt214 ⟨pa215_0,Fn214_0 f214_0⟩:=inst_s eo214_0 followsTry (codeF_is Tryz.func214 (by kernel_rfl)) sh214 cm214_0 (emb_erase _) (emb_good ac214) fun _ _=>by kernel_rfl
abbrev nt173:Nat:=76
def sh173:SG:=[(14,iS 2),(18,iT),(20,iS 3),(22,iS 2),(24,iS 2),(29,iT),(31,iS 2),(38,iT),(40,iS 2),(46,iT),(48,iS 2),(52,iS 2),(55,iT),(60,iT)]
def tr173:TG:=[tT 0 [2,3,4],tT 1 [2,3,4,6],tT 2 [2,3,4,6,19],tT 3 [4,5],tT 4 [2,3,4,6,7],tT 5 [2,3,4,6,7,8,9],tT 6 [2,3,4,6,8,9,10,11],tT 7 [4,8,9,10,11,12],tT 8 [4,5]]
def ac173:ACode:=codeF Pg Tryz.f173 tr173 tl13
def E173_0:EnvK:=EnvK.of [⟨139,nt139,[⟨pa161_0,Fn139_0 f139_0⟩]⟩,⟨174,nt174,[⟨pa161_0,Fn174_0 f174_0⟩]⟩,⟨170,nt170,[⟨pa42_0,Fn170_0 f170_0⟩]⟩,⟨175,nt175,[⟨pa161_0,Fn175_0 f175_0⟩]⟩,⟨143,nt143,[⟨pa146_0,Fn143_0 f143_0⟩]⟩,⟨147,nt147,[⟨pa161_0,Fn147_0 f147_0⟩]⟩,⟨176,nt176,[⟨pa146_0,Fn176_0 f176_0⟩]⟩,⟨172,nt172,[⟨pa172_0,Fn172_0 f172_0⟩]⟩] noSeq
theorem eo173_0:E173_0.Ok Pg:=EnvK.of_ok noSeq_ok ⟨⟨io139_0,TT⟩,⟨io174_0,TT⟩,⟨io170_0,TT⟩,⟨io175_0,TT⟩,⟨io143_0,TT⟩,⟨io147_0,TT⟩,⟨io176_0,TT⟩,⟨io172_0,TT⟩,TT⟩
abbrev Tf173_0:Type 1:=(α:Type)->Int->Int->Int->Int->Int->Int->(I4 (Op α))->Op α
def f173_0g (α:Type)(c d h a b e:Int)(k1:I4 (Op α)):Op α:=
 f139_0 α a b
 (fun g=>cK (decide (g<=e))
 (k1 c d h 9)
 (f174_0 α b
 (fun m=>f170_0 α c d a m
 (fun o p=>f175_0 α a b
 (fun q=>f143_0 α o 1048576 q
 (fun i r=>f175_0 α a b
 (fun s=>f143_0 α p 1048576 s
 (fun j t=>f147_0 α a b
 (fun w=>f147_0 α c d
 (fun z=>f176_0 α (w64 ((w64 (h*w))+(w64 (z*e)))) 1048576 (w64 ((w64 (g - e))*g))
 (fun l=>cK r
 (f172_0 α true
 (fun A=>k1 i j (w64 (l+A)) 0))
 (f172_0 α t
 (fun B=>k1 i j (w64 (l+B)) 0)))))))))))))
def f173_0:Tf173_0:=sld f173_0g
def Fn173_0 (v:Tf173_0)(α:Type)(k:RT α):I6 (Op α):=fun a b c d e g=>v α a b c d e g (fun h i j l=>ur177_0_0 k h i j l)
def cm173_0:MCode:=(emb ac173)
theorem io173_0:InstOk Pg 173 nt173 ⟨pa177_0,Fn173_0 f173_0⟩:=inst_s eo173_0 followsTry (codeF_is Tryz.func173 (by kernel_rfl)) sh173 cm173_0 (emb_erase _) (emb_good ac173) fun _ _=>by kernel_rfl
abbrev nt138:Nat:=94
def sh138:SG:=[(10,iS 2),(15,iT),(17,iS 3),(21,iT),(26,iT),(28,iT),(33,iT),(36,iS 3),(40,iT),(48,iT),(59,iT),(64,iT),(76,iT),(81,iS 2),(83,iT)]
def tr138:TG:=[tT 0 [1,2],tT 1 [1,2,4],tT 2 [1,2,4,12],tT 3 [2,3],tT 4 [1,2,4,18],tT 5 [2,3],tT 6 [1,2,4,5],tT 7 [1,2,4,5,6],tT 8 [1,2,4,5,8],tT 9 [1,2,4,5,8,60],tT 10 [1,2,4,5,6,8],tT 11 [1,2,4,5,8],tT 12 [1,2,4,5,8,77],tT 13 [1,2,4,5,8],tT 14 [2,3]]
def ac138:ACode:=codeF Pg Tryz.f138 tr138 tl13
def p138_0_0:PT St:=pS [sP 1,sP 2,sI 4,sY 12 dB] [eBox 1 (xs 3),eBox 2 (xs 3)]
def u138_0_0 {β:Type}(g:St->β):Int->Bool->I6 β:=p138_0_0.unc g
def p138_0_1:PT St:=pS [sP 1,sP 2,sI 4,sY 18 dB] [eBox 1 (xs 3),eBox 2 (xs 3)]
def u138_0_1 {β:Type}(g:St->β):Int->Bool->I6 β:=p138_0_1.unc g
def p138_0_2:PT St:=pS [sP 1,sP 2,sI 4,sI 5,sP 8] [eBox 1 (xs 3),eBox 2 (xs 3),eBox 8 [xI,xI]]
def u138_0_2 {β:Type}(g:St->β):I10 β:=p138_0_2.unc g
def p138_0_3:PT St:=pS [sP 1,sP 2,sI 4,sI 5,sP 8,sY 77 dB] [eBox 1 (xs 3),eBox 2 (xs 3),eBox 8 [xI,xI]]
def u138_0_3 {β:Type}(g:St->β):Int->Int->Bool->I8 β:=p138_0_3.unc g
def p138_0_4:PT St:=pS [sP 1,sP 2,sI 4,sI 5,sP 8,sY 60 dB] [eBox 1 (xs 3),eBox 2 (xs 3),eBox 8 [xI,xI]]
def u138_0_4 {β:Type}(g:St->β):Int->Int->Bool->I8 β:=p138_0_4.unc g
def E138_0:EnvK:=EnvK.of [⟨139,nt139,[⟨pa161_0,Fn139_0 f139_0⟩]⟩,⟨140,nt140,[⟨pa19_0,Fn140_0 f140_0⟩]⟩,⟨142,nt142,[⟨pa215_0,Fn142_0 f142_0⟩]⟩,⟨141,nt141,[⟨pa215_0,Fn141_0 f141_0⟩]⟩,⟨143,nt143,[⟨pa146_0,Fn143_0 f143_0⟩]⟩,⟨89,nt89,[⟨pa19_0,Fn89_0 f89_0⟩]⟩] noSeq
theorem eo138_0:E138_0.Ok Pg:=EnvK.of_ok noSeq_ok ⟨⟨io139_0,TT⟩,⟨io140_0,TT⟩,⟨io142_0,TT⟩,⟨io141_0,TT⟩,⟨io143_0,TT⟩,⟨io89_0,TT⟩,TT⟩
def c138_0_23:MCode:=MCode.sub [1,1,1,1,1,1,0] (emb ac138)
abbrev TJ138_0_1:Type 1:=(α:Type)->Int->Int->Int->(Int->Int->Op α)->(Bool->Int->Op α)->(Bool->Op α)->Op α
def J138_0_1g (α:Type)(b c a:Int)(k1:Int->Int->Op α)(k2:Bool->Int->Op α)(k3:Bool->Op α):Op α:=
 cK (decide (c < 0))
 (f142_0 α a
 (fun e=>f143_0 α e 1048576 (w64 (2*b))
 (fun d g=>cK (decide (a < 0))
 (k1 d (w64 (0 - b)))
 (k2 (decide (a < 0)) d))))
 (k3 (decide (c < 0)))
def J138_0_1:TJ138_0_1:=sld J138_0_1g
def F138_0_1 (v:TJ138_0_1)(α:Type)(K:KT α):I10 (Op α):=fun e a c d g h i j m o=>v α a c d (fun b l=>u138_0_2 (K .normal) e a c d g h i j b l) (fun b l=>u138_0_3 (K .normal) e a b c d g h i j l a) (fun b=>u138_0_4 (K .normal) e a b c d g h i j m o)
theorem m138_0_1:∀ (α:Type) (K:KT α),F138_0_1 J138_0_1 α K=p138_0_2.unc fun σ=>runM Pg E138_0 sh138 c138_0_23 K σ:=sld0 (fun α K=>by kernel_rfl)
def c138_0_12:MCode:=MCode.sub [1,1,0,0,1,1,0] (emb ac138)
def J138_0_0g (α:Type)(b c a:Int)(k1:Bool->Op α):Op α:=
 cK (decide (b < 0))
 (f140_0 α c a
 (fun d=>cK d
 (k1 (a != 0))
 (k1 false)))
 (k1 false)
def J138_0_0:Tf146_0:=sld J138_0_0g
def F138_0_0 (v:Tf146_0)(α:Type)(K:KT α):Int->Bool->I6 (Op α):=fun d j a b c e g h=>v α a b c (fun i=>u138_0_1 (K .normal) d i a b c e g h)
theorem m138_0_0:∀ (α:Type) (K:KT α),F138_0_0 J138_0_0 α K=p138_0_0.unc fun σ=>runM Pg E138_0 sh138 c138_0_12 K σ:=sld0 (fun α K=>by kernel_rfl)
abbrev Tf138_0:Type 1:=(α:Type)->Int->Int->Int->(I4 (Op α))->Op α
def f138_0g (α:Type)(c d a:Int)(k1:I4 (Op α)):Op α:=
 f139_0 α c d
 (fun e=>cK (decide (e<=a))
 (k1 c d a 9)
 (J138_0_0 α c d a
 (fun g=>cK g
 (k1 c d a 14)
 (f142_0 α c
 (fun h=>f141_0 α (w64 ((w64 (e+h))*524288))
 (fun b=>f143_0 α d 1048576 (w64 (2*b))
 (fun i B=>J138_0_1 α b c d
 (fun j l=>f141_0 α (w64 (e*1048576))
 (fun m=>f89_0 α (w64 (a*1048576)) m
 (fun o=>f89_0 α 1048576 b
 (fun p=>k1 j l (w64 ((w64 (o+3))+p)) 0))))
 (fun C q=>f141_0 α (w64 (e*1048576))
 (fun r=>f89_0 α (w64 (a*1048576)) r
 (fun s=>f89_0 α 1048576 b
 (fun t=>k1 q b (w64 ((w64 (s+3))+t)) 0))))
 (fun D=>f141_0 α (w64 (e*1048576))
 (fun w=>f89_0 α (w64 (a*1048576)) w
 (fun z=>f89_0 α 1048576 b
 (fun A=>k1 b i (w64 ((w64 (z+3))+A)) 0)))))))))))
def f138_0:Tf138_0:=sld f138_0g
def Fn138_0 (v:Tf138_0)(α:Type)(k:RT α):Int->Int->Int->Op α:=fun a b c=>v α a b c (fun d e g h=>ur177_0_0 k d e g h)
def cm138_0:MCode:=(MCode.put (.m [⟨p138_0_0,F138_0_0 J138_0_0⟩]) [1,1,0,0,1,1] (MCode.put (.m [⟨p138_0_2,F138_0_1 J138_0_1⟩]) [1,1,1,1,1,1] (emb ac138)))
theorem io138_0:InstOk Pg 138 nt138 ⟨pa182_0,Fn138_0 f138_0⟩:=inst_s eo138_0 followsTry (codeF_is Tryz.func138 (by kernel_rfl)) sh138 cm138_0 ((put_erase _ _).trans ((put_erase _ _).trans (emb_erase _))) (put_seq (by kernel_rfl) (put_seq (by kernel_rfl) (emb_good ac138) ⟨m138_0_1,TT⟩) ⟨m138_0_0,TT⟩) fun _ _=>by kernel_rfl
abbrev nt169:Nat:=58
def sh169:SG:=[(12,iS 2),(14,iS 2),(18,iT),(24,iT),(32,iS 2),(35,iT),(38,iS 2),(41,iT),(45,iT),(47,iT)]
def tr169:TG:=[tT 0 [2,3,4],tT 1 [2,3,4,6],tT 2 [2,3,4,6,7,8],tT 3 [2,3,4,7,8,9,10],tT 4 [4,5]]
def ac169:ACode:=codeF Pg Tryz.f169 tr169 tl13
def E169_0:EnvK:=EnvK.of [⟨170,nt170,[⟨pa42_0,Fn170_0 f170_0⟩]⟩,⟨171,nt171,[⟨pa19_0,Fn171_0 f171_0⟩]⟩,⟨147,nt147,[⟨pa161_0,Fn147_0 f147_0⟩]⟩,⟨89,nt89,[⟨pa19_0,Fn89_0 f89_0⟩]⟩,⟨172,nt172,[⟨pa172_0,Fn172_0 f172_0⟩]⟩] noSeq
theorem eo169_0:E169_0.Ok Pg:=EnvK.of_ok noSeq_ok ⟨⟨io170_0,TT⟩,⟨io171_0,TT⟩,⟨io147_0,TT⟩,⟨io89_0,TT⟩,⟨io172_0,TT⟩,TT⟩
def f169_0g (α:Type)(a b c d e g:Int)(k1:Int->Int->Int->Op α):Op α:=
 f170_0 α a b d e
 (fun l m=>f171_0 α l 1048576
 (fun h o=>f171_0 α m 1048576
 (fun i p=>f147_0 α a b
 (fun q=>f147_0 α d e
 (fun r=>f89_0 α (w64 ((w64 ((w64 (q*g))+(w64 (r*c))))+(w64 (c*g)))) 1048576
 (fun j=>cK o
 (f172_0 α true
 (fun s=>k1 h i (w64 (j+s))))
 (f172_0 α p
 (fun t=>k1 h i (w64 (j+t))))))))))
def f169_0:Tf177_0:=sld f169_0g
def Fn169_0 (v:Tf177_0)(α:Type)(k:RT α):I6 (Op α):=fun a b c d e g=>v α a b c d e g (fun h i j=>ur177_0_0 k h i j 0)
def cm169_0:MCode:=(emb ac169)
theorem io169_0:InstOk Pg 169 nt169 ⟨pa177_0,Fn169_0 f169_0⟩:=inst_s eo169_0 followsTry (codeF_is Tryz.func169 (by kernel_rfl)) sh169 cm169_0 (emb_erase _) (emb_good ac169) fun _ _=>by kernel_rfl
abbrev nt86:Nat:=25
def sh86:SG:=[(8,[.cpx .f64]),(16,iT),(20,iS 2),(22,iT)]
def tr86:TG:=[tT 0 [1,2],tT 1 [1,2,4,5],tT 2 [1,2,4,5,19],tT 3 [1,2,4,5],tT 4 [2,3]]
def ac86:ACode:=codeF Pg Tryz.f86 tr86 tl13
def p86_0_0:PT St:=pS [sP 1,sP 2,sP 4,sI 5] [eBox 1 [(cD (dX .f64)),xI],eBox 2 (xs 3),eBox 4 [xI,xI]]
def u86_0_0 {β:Type}(g:St->β):Int->Nat->Nat->I6 β:=p86_0_0.unc g
def p86_0_1:PT St:=pS [sP 1,sP 2,sP 4,sI 5,sY 19 dB] [eBox 1 [(cD (dX .f64)),xI],eBox 2 (xs 3),eBox 4 [xI,xI]]
def u86_0_1 {β:Type}(g:St->β):Int->Bool->Nat->Nat->I6 β:=p86_0_1.unc g
def E86_0:EnvK:=EnvK.of [⟨145,nt145,[⟨pa145_0,Fn145_0 f145_0⟩]⟩,⟨146,nt146,[⟨pa146_0,Fn146_0 f146_0⟩]⟩] noSeq
theorem eo86_0:E86_0.Ok Pg:=EnvK.of_ok noSeq_ok ⟨⟨io145_0,TT⟩,⟨io146_0,TT⟩,TT⟩
def c86_0_5:MCode:=MCode.sub [1,1,0] (emb ac86)
abbrev TJ86_0_0:Type 1:=(α:Type)->Int->Int->(Op α)->(Bool->Op α)->Op α
def J86_0_0g (α:Type)(b c:Int)(k1:Op α)(k2:Bool->Op α):Op α:=
 cK (b == 0)
 (f146_0 α c 0 67108864
 (fun a=>cK (!a)
 (k1)
 (k2 (!a))))
 (k2 false)
def J86_0_0:TJ86_0_0:=sld J86_0_0g
def F86_0_0 (v:TJ86_0_0)(α:Type)(K:KT α):Int->Nat->Nat->I6 (Op α):=fun b c d a e g h i j=>v α b a (u86_0_0 (K .normal) 2 c d a e g h i j) (fun l=>u86_0_1 (K .normal) b l c d a e g h i j)
theorem m86_0_0:∀ (α:Type) (K:KT α),F86_0_0 J86_0_0 α K=p86_0_0.unc fun σ=>runM Pg E86_0 sh86 c86_0_5 K σ:=sld0 (fun α K=>by kernel_rfl)
abbrev Tf86_0:Type 1:=(α:Type)->Nat->Nat->Int->(Int->Int->Int->Op α)->Op α
def f86_0g (α:Type)(d e:Nat)(g:Int)(k1:Int->Int->Int->Op α):Op α:=
 f145_0 α d e 4724276009111650304
 (fun a b c=>J86_0_0 α c g
 (k1 a b 2)
 (fun h=>k1 a b c))
def f86_0:Tf86_0:=sld f86_0g
def pa86_0:PT (List DV):=pA [pV true [(dX .f64),(dI .i64)]]
def Fn86_0 (v:Tf86_0)(α:Type)(k:RT α):Nat->Nat->Int->Op α:=fun b c a=>v α b c a (fun d e g=>ur177_0_0 k d e a g)
def cm86_0:MCode:=(MCode.put (.m [⟨p86_0_0,F86_0_0 J86_0_0⟩]) [1,1] (emb ac86))
theorem io86_0:InstOk Pg 86 nt86 ⟨pa86_0,Fn86_0 f86_0⟩:=inst_s eo86_0 followsTry (codeF_is Tryz.func86 (by kernel_rfl)) sh86 cm86_0 ((put_erase _ _).trans (emb_erase _)) (put_seq (by kernel_rfl) (emb_good ac86) ⟨m86_0_0,TT⟩) fun _ _=>by kernel_rfl
abbrev nt134:Nat:=20
def sh134:SG:=[(10,iT)]
def tr134:TG:=[tT 0 [0,1,2,6],tT 1 [0,1,2,6,11],tT 2 [0,6],tT 3 [0,6]]
def ac134:ACode:=codeF Pg Tryz.f134 tr134 tl13
def E134_0:EnvK:=EnvK.ofIO [⟨179,nt179,[⟨pa19_0,Fn179_0 f179_0⟩]⟩,⟨83,nt83,[⟨pa83_0,Fn83_0 f83_0⟩]⟩] noSeq [(83,[0])]
theorem eo134_0:E134_0.Ok Pg:=EnvK.ofIO_ok noSeq_ok ⟨⟨io179_0,TT⟩,⟨io83_0,TT⟩,TT⟩
def f134_0g (α:Type)(a b c:Int)(k1:Nat->Nat->Int->Int->Op α):Op α:=
 cK (a != 0)
 (k1 0 0 0 a)
 (f179_0 α b c
 (fun d e g h=>f83_0 α
 (k1 d e g h)))
def f134_0:Tf182_0:=sld f134_0g
def pa134_0:PT (List DV):=pA [pV false [(dMr [(dI .i64),(dI .i64),(dI .i64),(dI .i64),(dI .i64),(dI .i64),(dI .i64),dL,(dI .i64),(dI .i64)] 0)],vI,vI]
def Fn134_0 (v:Tf182_0)(α:Type)(k:RT α):Int->Int->Int->Int->Int->Int->Int->Rows->I4 (Op α):=fun a b c d e g h i j l m o=>v α a m o (fun p q r s=>ur83_0_0 k p q r s b c d e g h i j l)
def cm134_0:MCode:=(emb ac134)
theorem io134_0:InstOk Pg 134 nt134 ⟨pa134_0,Fn134_0 f134_0⟩:=inst_s eo134_0 followsTry (codeF_is Tryz.func134 (by kernel_rfl)) sh134 cm134_0 (emb_erase _) (emb_good ac134) fun _ _=>by kernel_rfl
abbrev nt81:Nat:=21
def tr81:TG:=[tT 0 [0,1,2,6],tT 1 [0,1,2,6,11],tT 2 [0,6],tT 3 [0,6]]
def ac81:ACode:=codeF Pg Tryz.f81 tr81 tl13
def E81_0:EnvK:=EnvK.ofIO [⟨136,nt136,[⟨pa161_0,Fn136_0 f136_0⟩]⟩,⟨83,nt83,[⟨pa83_0,Fn83_0 f83_0⟩]⟩] noSeq [(83,[0])]
theorem eo81_0:E81_0.Ok Pg:=EnvK.ofIO_ok noSeq_ok ⟨⟨io136_0,TT⟩,⟨io83_0,TT⟩,TT⟩
def f81_0g (α:Type)(a b c:Int)(k1:Nat->Nat->Int->Int->Op α):Op α:=
 cK (a != 0)
 (k1 0 0 0 a)
 (f136_0 α b c
 (fun d e g h=>f83_0 α
 (k1 d e g h)))
def f81_0:Tf182_0:=sld f81_0g
def Fn81_0 (v:Tf182_0)(α:Type)(k:RT α):Int->Int->Int->Int->Int->Int->Int->Rows->I4 (Op α):=fun a b c d e g h i j l m o=>v α a m o (fun p q r s=>ur83_0_0 k p q r s b c d e g h i j l)
def cm81_0:MCode:=(emb ac81)
theorem io81_0:InstOk Pg 81 nt81 ⟨pa134_0,Fn81_0 f81_0⟩:=inst_s eo81_0 followsTry (codeF_is Tryz.func81 (by kernel_rfl)) sh134 cm81_0 (emb_erase _) (emb_good ac81) fun _ _=>by kernel_rfl
abbrev nt31:Nat:=15
def sh31:SG:=[(7,[.int .i64,.int .i64,.int .i64,.int .i64,.int .i64,.int .i64,.sl,.int .i64,.int .i64]),(11,[.int .i64,.int .i64,.int .i64,.int .i64,.int .i64,.int .i64,.sl,.int .i64,.int .i64])]
def tr31:TG:=[tT 0 [1],tT 1 [1,5],tT 2 [2,3]]
def ac31:ACode:=codeF Pg Tryz.f31 tr31 tl13
def pr31_0_0:PT (List RV):=pRs [pR false [rJ [(dI .i64),(dI .i64),(dI .i64),(dI .i64),(dI .i64),(dI .i64),(dI .i64),dL,(dI .i64),(dI .i64)] 0],wI]
def ur31_0_0 {β:Type}(g:List RV->β):Int->Int->Int->Int->Int->Int->Int->Rows->Int->Int->Int->β:=pr31_0_0.unc g
def E31_0:EnvK:=EnvK.of [⟨70,nt70,[⟨pa70_0,Fn70_0 f70_0⟩]⟩] noSeq
theorem eo31_0:E31_0.Ok Pg:=EnvK.of_ok noSeq_ok ⟨⟨io70_0,TT⟩,TT⟩
abbrev Tf31_0:Type 1:=(α:Type)->Int->Int->Int->Int->Int->Int->Rows->Int->Int->(Int->Op α)->Op α
def f31_0g (α:Type)(a b c d e g:Int)(h:Rows)(i j:Int)(k1:Int->Op α):Op α:=
 f70_0 α a b c d e g h i j
 (fun m l=>k1 l)
def f31_0:Tf31_0:=sld f31_0g
def Fn31_0 (v:Tf31_0)(α:Type)(k:RT α):Int->Int->Int->Int->Int->Int->Rows->Int->Int->Op α:=fun a b c d e g h i j=>v α a b c d e g h i j (fun l=>ur31_0_0 k 0 a b c d e g h i j l)
def cm31_0:MCode:=(emb ac31)
theorem io31_0:InstOk Pg 31 nt31 ⟨pa70_0,Fn31_0 f31_0⟩:=inst_s eo31_0 followsTry (codeF_is Tryz.func31 (by kernel_rfl)) sh31 cm31_0 (emb_erase _) (emb_good ac31) fun _ _=>by kernel_rfl
abbrev nt29:Nat:=34
def sh29:SG:=[(10,[.sl]),(19,[.sl,.sl,.int .i64,.int .i64]),(21,[.sl]),(22,iS 9),(23,iS 9),(25,[.sl]),(26,iS 9),(27,iS 9)]
def tr29:TG:=[tT 0 [1],tT 1 [1,4,5],tT 2 [1,4,5,15],tT 3 [2,3],tT 4 [7],tT 5 [2,3]]
def ac29:ACode:=codeF Pg Tryz.f29 tr29 tl13
def E29_0:EnvK:=EnvK.of [⟨69,nt69,[⟨pa10_0,Fn69_0 f69_0⟩]⟩,⟨72,nt72,[⟨pa72_0,Fn72_0 f72_0⟩]⟩,⟨71,nt71,[⟨pa71_0,Fn71_0 f71_0⟩]⟩,⟨70,nt70,[⟨pa70_0,Fn70_0 f70_0⟩]⟩] noSeq
theorem eo29_0:E29_0.Ok Pg:=EnvK.of_ok noSeq_ok ⟨⟨io69_0,TT⟩,⟨io72_0,TT⟩,⟨io71_0,TT⟩,⟨io70_0,TT⟩,TT⟩
abbrev Tf29_0:Type 1:=(α:Type)->Rows->Rows->Int->Int->(Int->Int->Op α)->Op α
def f29_0g (α:Type)(a c:Rows)(d e:Int)(k1:Int->Int->Op α):Op α:=
 f69_0 α a
 (fun g b=>cK (b != 0)
 (k1 g b)
 (rowK a 0 [.int .i64,.int .i64,.int .i64,.int .i64,.int .i64,.int .i64,.int .i64,.int .i64,.int .i64]
 (fun q h i r s t w z A=>rowK a 0 [.int .i64,.int .i64,.int .i64,.int .i64,.int .i64,.int .i64,.int .i64,.int .i64,.int .i64]
 (fun B C D j l m o F G=>f72_0 α
 (f71_0 α
 (f70_0 α i j l h m o c d e
 (fun H p=>k1 0 p)))))))
def f29_0:Tf29_0:=sld f29_0g
def Fn29_0 (v:Tf29_0)(α:Type)(k:RT α):Rows->Rows->Int->Int->Op α:=fun a b c d=>v α a b c d (fun e g=>ur70_0_0 k e g)
def cm29_0:MCode:=(emb ac29)
theorem io29_0:InstOk Pg 29 nt29 ⟨pa7_0,Fn29_0 f29_0⟩:=inst_s eo29_0 followsTry (codeF_is Tryz.func29 (by kernel_rfl)) sh29 cm29_0 (emb_erase _) (emb_good ac29) fun _ _=>by kernel_rfl
abbrev nt36:Nat:=31
def sh36:SG:=[(8,[.cpx .f64,.int .i64]),(16,iS 3),(19,iT),(21,iT),(25,iT),(27,iT)]
def tr36:TG:=[tT 0 [1,2],tT 1 [2,4,5],tT 2 [2,4,5,13],tT 3 [2,3],tT 4 [2,6],tT 5 [2,3]]
def ac36:ACode:=codeF Pg Tryz.f36 tr36 tl13
def E36_0:EnvK:=EnvK.of [⟨86,nt86,[⟨pa86_0,Fn86_0 f86_0⟩]⟩,⟨87,nt87,[⟨pa182_0,Fn87_0 f87_0⟩]⟩,⟨88,nt88,[⟨pa19_0,Fn88_0 f88_0⟩]⟩,⟨89,nt89,[⟨pa19_0,Fn89_0 f89_0⟩]⟩] noSeq
theorem eo36_0:E36_0.Ok Pg:=EnvK.of_ok noSeq_ok ⟨⟨io86_0,TT⟩,⟨io87_0,TT⟩,⟨io88_0,TT⟩,⟨io89_0,TT⟩,TT⟩
def f36_0g (α:Type)(e g:Nat)(a:Int)(k1:Int->Int->Int->Op α):Op α:=
 f86_0 α e g a
 (fun h i b=>cK (b != 0)
 (k1 0 0 b)
 (f87_0 α h i a
 (fun c d=>f88_0 α (w64 (c*c)) 1048576
 (fun j=>f89_0 α (w64 (d*d)) 1048576
 (fun l=>k1 j l 0)))))
def f36_0:Tf86_0:=sld f36_0g
def Fn36_0 (v:Tf86_0)(α:Type)(k:RT α):Nat->Nat->Int->Op α:=fun a b c=>v α a b c (fun d e g=>ur165_0_0 k d e g)
def cm36_0:MCode:=(emb ac36)
theorem io36_0:InstOk Pg 36 nt36 ⟨pa86_0,Fn36_0 f36_0⟩:=inst_s eo36_0 followsTry (codeF_is Tryz.func36 (by kernel_rfl)) sh36 cm36_0 (emb_erase _) (emb_good ac36) fun _ _=>by kernel_rfl
abbrev nt197:Nat:=54
def sh197:SG:=[(21,iT),(27,iT),(50,iS 3)]
def tr197:TG:=[tT 0 [0,1,4],tT 1 [0,1,4,6],tT 2 [0,1,4,6,7],tT 3 [0,1,4,6,7,8],tT 4 [0,1,4,6,8,10],tT 5 [0,1,4,12],tT 6 [4,12,48],tT 7 [4,12],tT 8 [4,5]]
def ac197:ACode:=codeF Pg Tryz.f197 tr197 tl13
def p197_0_0:PT St:=pS [sI 0,sI 1,sP 4,sP 12] [eBox 4 [(cD (dX .f64)),xI],eBox 12 (xs 3)]
def u197_0_0 {β:Type}(g:St->β):Int->Int->Nat->Nat->I4 β:=p197_0_0.unc g
def p197_0_1:PT St:=pS [sP 4,sP 12] [eBox 4 [(cD (dX .f64)),xI],eBox 12 (xs 3)]
def u197_0_1 {β:Type}(g:St->β):Nat->Nat->I4 β:=p197_0_1.unc g
def p197_0_2:PT St:=pS [sP 4,sP 12,sY 48 dB] [eBox 4 [(cD (dX .f64)),xI],eBox 12 (xs 3)]
def u197_0_2 {β:Type}(g:St->β):Bool->Nat->Nat->I4 β:=p197_0_2.unc g
def E197_0:EnvK:=EnvK.of [⟨88,nt88,[⟨pa19_0,Fn88_0 f88_0⟩]⟩,⟨214,nt214,[⟨pa215_0,Fn214_0 f214_0⟩]⟩,⟨171,nt171,[⟨pa19_0,Fn171_0 f171_0⟩]⟩,⟨89,nt89,[⟨pa19_0,Fn89_0 f89_0⟩]⟩,⟨182,nt182,[⟨pa182_0,Fn182_0 f182_0⟩]⟩] noSeq
theorem eo197_0:E197_0.Ok Pg:=EnvK.of_ok noSeq_ok ⟨⟨io88_0,TT⟩,⟨io214_0,TT⟩,⟨io171_0,TT⟩,⟨io89_0,TT⟩,⟨io182_0,TT⟩,TT⟩
def c197_0_13:MCode:=MCode.sub [1,1,1,1,1,1,0] (emb ac197)
def J197_0_0g (α:Type)(a b:Int)(k1:Op α)(k2:Bool->Op α):Op α:=
 cK (a == b)
 (cK ((Int.tmod a 1048576) == 0)
 (k1)
 (k2 ((Int.tmod a 1048576) == 0)))
 (k2 false)
def J197_0_0:TJ86_0_0:=sld J197_0_0g
def F197_0_0 (v:TJ86_0_0)(α:Type)(K:KT α):Int->Int->Nat->Nat->I4 (Op α):=fun g h a b c d e i=>v α g h (u197_0_1 (K .normal) a b c d e 0) (fun j=>u197_0_2 (K .normal) j a b c d e i)
theorem m197_0_0:∀ (α:Type) (K:KT α),F197_0_0 J197_0_0 α K=p197_0_0.unc fun σ=>runM Pg E197_0 sh197 c197_0_13 K σ:=sld0 (fun α K=>by kernel_rfl)
def f197_0g (α:Type)(b a:Int)(k1:Nat->Nat->Int->Int->Op α):Op α:=
 f88_0 α (w64 (b+a)) 2
 (fun c=>f214_0 α c
 (fun g h=>f171_0 α g 64
 (fun d t=>f171_0 α h 64
 (fun e w=>f89_0 α (w64 (11*(w64 (a - c)))) 7
 (fun i=>J197_0_0 α b a
 (f182_0 α d e 0
 (fun j l m o=>k1 j l m o))
 (fun z=>f182_0 α d e (w64 (2+i))
 (fun p q r s=>k1 p q r s)))))))
def f197_0:Tf179_0:=sld f197_0g
def Fn197_0 (v:Tf179_0)(α:Type)(k:RT α):Int->Int->Op α:=fun a b=>v α a b (fun c d e g=>ur182_0_0 k c d e g)
def cm197_0:MCode:=(MCode.put (.m [⟨p197_0_0,F197_0_0 J197_0_0⟩]) [1,1,1,1,1,1] (emb ac197))
theorem io197_0:InstOk Pg 197 nt197 ⟨pa19_0,Fn197_0 f197_0⟩:=inst_s eo197_0 followsTry (codeF_is Tryz.func197 (by kernel_rfl)) sh197 cm197_0 ((put_erase _ _).trans (emb_erase _)) (put_seq (by kernel_rfl) (emb_good ac197) ⟨m197_0_0,TT⟩) fun _ _=>by kernel_rfl
abbrev nt200:Nat:=12
def sh200:SG:=[(7,iS 3),(8,iS 3)]
def tr200:TG:=[tT 0 [1,2,3,4],tT 1 [4,5]]
def ac200:ACode:=codeF Pg Tryz.f200 tr200 tl13
def E200_0:EnvK:=EnvK.of [⟨167,nt167,[⟨pa177_0,Fn167_0 f167_0⟩]⟩] noSeq
theorem eo200_0:E200_0.Ok Pg:=EnvK.of_ok noSeq_ok ⟨⟨io167_0,TT⟩,TT⟩
def f200_0g (α:Type)(a b c d e g:Int)(k1:Int->Int->Int->Op α):Op α:=
 f167_0 α d e g a b c
 (fun h i j=>k1 h i j)
def f200_0:Tf177_0:=sld f200_0g
def pa200_0:PT (List DV):=pA [pV true [(dI .i64),(dI .i64),(dI .i64)],pV false [(dP [(dFn 167 [])] 0)],pV false [(dP [(dI .i64),(dI .i64),(dI .i64)] 0)]]
def Fn200_0 (v:Tf177_0)(α:Type)(k:RT α):I6 (Op α):=fun a b c d e g=>v α a b c d e g (fun h i j=>ur177_0_0 k h i j 0)
def cm200_0:MCode:=(emb ac200)
theorem io200_0:InstOk Pg 200 nt200 ⟨pa200_0,Fn200_0 f200_0⟩:=inst_s eo200_0 followsTry (codeF_is Tryz.func200 (by kernel_rfl)) sh200 cm200_0 (emb_erase _) (emb_good ac200) fun _ _=>by kernel_rfl
def E200_1:EnvK:=EnvK.of [⟨169,nt169,[⟨pa177_0,Fn169_0 f169_0⟩]⟩] noSeq
theorem eo200_1:E200_1.Ok Pg:=EnvK.of_ok noSeq_ok ⟨⟨io169_0,TT⟩,TT⟩
def f200_1g (α:Type)(a b c d e g:Int)(k1:Int->Int->Int->Op α):Op α:=
 f169_0 α d e g a b c
 (fun h i j=>k1 h i j)
def f200_1:Tf177_0:=sld f200_1g
def pa200_1:PT (List DV):=pA [pV true [(dI .i64),(dI .i64),(dI .i64)],pV false [(dP [(dFn 169 [])] 0)],pV false [(dP [(dI .i64),(dI .i64),(dI .i64)] 0)]]
def Fn200_1 (v:Tf177_0)(α:Type)(k:RT α):I6 (Op α):=fun a b c d e g=>v α a b c d e g (fun h i j=>ur177_0_0 k h i j 0)
def cm200_1:MCode:=(emb ac200)
theorem io200_1:InstOk Pg 200 nt200 ⟨pa200_1,Fn200_1 f200_1⟩:=inst_s eo200_1 followsTry (codeF_is Tryz.func200 (by kernel_rfl)) sh200 cm200_1 (emb_erase _) (emb_good ac200) fun _ _=>by kernel_rfl
def E200_2:EnvK:=EnvK.of [⟨177,nt177,[⟨pa177_0,Fn177_0 f177_0⟩]⟩] noSeq
theorem eo200_2:E200_2.Ok Pg:=EnvK.of_ok noSeq_ok ⟨⟨io177_0,TT⟩,TT⟩
def f200_2g (α:Type)(a b c d e g:Int)(k1:Int->Int->Int->Op α):Op α:=
 f177_0 α d e g a b c
 (fun h i j=>k1 h i j)
def f200_2:Tf177_0:=sld f200_2g
def pa200_2:PT (List DV):=pA [pV true [(dI .i64),(dI .i64),(dI .i64)],pV false [(dP [(dFn 177 [])] 0)],pV false [(dP [(dI .i64),(dI .i64),(dI .i64)] 0)]]
def Fn200_2 (v:Tf177_0)(α:Type)(k:RT α):I6 (Op α):=fun a b c d e g=>v α a b c d e g (fun h i j=>ur177_0_0 k h i j 0)
def cm200_2:MCode:=(emb ac200)
theorem io200_2:InstOk Pg 200 nt200 ⟨pa200_2,Fn200_2 f200_2⟩:=inst_s eo200_2 followsTry (codeF_is Tryz.func200 (by kernel_rfl)) sh200 cm200_2 (emb_erase _) (emb_good ac200) fun _ _=>by kernel_rfl
def E200_3:EnvK:=EnvK.of [⟨173,nt173,[⟨pa177_0,Fn173_0 f173_0⟩]⟩] noSeq
theorem eo200_3:E200_3.Ok Pg:=EnvK.of_ok noSeq_ok ⟨⟨io173_0,TT⟩,TT⟩
def f200_3g (α:Type)(a b c d e g:Int)(k1:I4 (Op α)):Op α:=
 f173_0 α d e g a b c
 (fun h i j l=>k1 h i j l)
def f200_3:Tf173_0:=sld f200_3g
def pa200_3:PT (List DV):=pA [pV true [(dI .i64),(dI .i64),(dI .i64)],pV false [(dP [(dFn 173 [])] 0)],pV false [(dP [(dI .i64),(dI .i64),(dI .i64)] 0)]]
def Fn200_3 (v:Tf173_0)(α:Type)(k:RT α):I6 (Op α):=fun a b c d e g=>v α a b c d e g (fun h i j l=>ur177_0_0 k h i j l)
def cm200_3:MCode:=(emb ac200)
theorem io200_3:InstOk Pg 200 nt200 ⟨pa200_3,Fn200_3 f200_3⟩:=inst_s eo200_3 followsTry (codeF_is Tryz.func200 (by kernel_rfl)) sh200 cm200_3 (emb_erase _) (emb_good ac200) fun _ _=>by kernel_rfl
abbrev nt79:Nat:=28
def sh79:SG:=[(8,[.cpx .f64,.int .i64]),(20,iT),(25,iT)]
def tr79:TG:=[tT 0 [1,2],tT 1 [2,4,5],tT 2 [2,4,5,13],tT 3 [2,3],tT 4 [2,4,6],tT 5 [2,3]]
def ac79:ACode:=codeF Pg Tryz.f79 tr79 tl13
def pr79_0_0:PT (List RV):=pRs [pR true [rD (dI .i64),rD (dI .i64),rD (dI .i64),rD (dI .i64)],wI]
def ur79_0_0 {β:Type}(g:List RV->β):I5 β:=pr79_0_0.unc g
def E79_0:EnvK:=EnvK.of [⟨86,nt86,[⟨pa86_0,Fn86_0 f86_0⟩]⟩,⟨133,nt133,[⟨pa133_0,Fn133_0 f133_0⟩]⟩] noSeq
theorem eo79_0:E79_0.Ok Pg:=EnvK.of_ok noSeq_ok ⟨⟨io86_0,TT⟩,⟨io133_0,TT⟩,TT⟩
abbrev Tf79_0:Type 1:=(α:Type)->Nat->Nat->Int->(I5 (Op α))->Op α
def f79_0g (α:Type)(c d:Nat)(a:Int)(k1:I5 (Op α)):Op α:=
 f86_0 α c d a
 (fun e g b=>cK (b != 0)
 (k1 0 0 0 0 b)
 (f133_0 α e a
 (fun h i=>f133_0 α g a
 (fun j l=>k1 h i j l 0))))
def f79_0:Tf79_0:=sld f79_0g
def Fn79_0 (v:Tf79_0)(α:Type)(k:RT α):Nat->Nat->Int->Op α:=fun a b c=>v α a b c (fun d e g h i=>ur79_0_0 k d e g h i)
def cm79_0:MCode:=(emb ac79)
theorem io79_0:InstOk Pg 79 nt79 ⟨pa86_0,Fn79_0 f79_0⟩:=inst_s eo79_0 followsTry (codeF_is Tryz.func79 (by kernel_rfl)) sh79 cm79_0 (emb_erase _) (emb_good ac79) fun _ _=>by kernel_rfl
abbrev nt164:Nat:=18
def sh164:SG:=[(5,iS 2),(12,iT),(14,iT)]
def tr164:TG:=[tT 0 [1,2],tT 1 [1,2,4],tT 2 [1,2,4,8],tT 3 [2,3],tT 4 [2,3]]
def ac164:ACode:=codeF Pg Tryz.f164 tr164 tl13
def E164_0:EnvK:=EnvK.of [⟨196,nt196,[⟨pa181_0,Fn196_0 f196_0⟩]⟩,⟨197,nt197,[⟨pa19_0,Fn197_0 f197_0⟩]⟩] noSeq
theorem eo164_0:E164_0.Ok Pg:=EnvK.of_ok noSeq_ok ⟨⟨io196_0,TT⟩,⟨io197_0,TT⟩,TT⟩
def f164_0g (α:Type)(a b:Int)(k1:Nat->Nat->Int->Int->Op α):Op α:=
 f196_0 α a b (-1099511627776)
 (fun c=>cK (c != 0)
 (k1 0 0 0 c)
 (f197_0 α a b
 (fun d e g h=>k1 d e g h)))
def f164_0:Tf179_0:=sld f164_0g
def Fn164_0 (v:Tf179_0)(α:Type)(k:RT α):Int->Int->Op α:=fun a b=>v α a b (fun c d e g=>ur182_0_0 k c d e g)
def cm164_0:MCode:=(emb ac164)
theorem io164_0:InstOk Pg 164 nt164 ⟨pa161_0,Fn164_0 f164_0⟩:=inst_s eo164_0 followsTry (codeF_is Tryz.func164 (by kernel_rfl)) sh164 cm164_0 (emb_erase _) (emb_good ac164) fun _ _=>by kernel_rfl
end
end Go.AM.K
