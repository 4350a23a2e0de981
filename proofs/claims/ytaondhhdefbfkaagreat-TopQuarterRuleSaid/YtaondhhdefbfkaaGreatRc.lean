/- Printed by KGen. -/
import Derived.Test.YtaondhhdefbfkaaGreatRb
namespace Go.AM.K
open Go.Proofs
set_option maxRecDepth 100000
set_option linter.unusedVariables false
noncomputable section
abbrev nt99:Nat:=37
def sh99:SG:=[(16,[.flt .f64,.flt .f64]),(25,[.flt .f64,.flt .f64])]
def tr99:TG:=[tT 0 [0,1,4],tT 1 [0,1,4,6],tT 2 [0,1,4,6,16,17],tT 3 [0,1,4,6,16,17,18],tT 4 [0,1,4,6,8,16,17],tT 5 [0,1,4,6,16,17,22],tT 6 [4,5],tT 7 [0,1,4,6,16,17],tT 8 [0,1,4,25,26],tT 9 [0,1,4,25,26,27],tT 10 [0,1,4,10,25,26],tT 11 [0,1,4,25,26,32],tT 12 [4,5],tT 13 [0,1,4,25,26],tT 14 [4,5]]
def tl99:TG:=[tT 3 [0,1,4,6,16,17],tT 9 [0,1,4,25,26]]
def ac99:ACode:=codeF Pg Tryz.f99 tr99 tl99
def rs99:List AResV:=resF Pg Tryz.f99
def td99_9:OT:=tdC (MCode.sub [1,1,0,1,0] (emb ac99))
def td99_28:OT:=tdC (MCode.sub [1,1,1,0,1,0] (emb ac99))
def p99_0_0:PT St:=pS [sY 0 (dX .f64),sY 1 (dF .f64),sP 4,sP 6,sl 16 (aV true [(cD (dF .f64)),(cD (dF .f64))]),sI 17,sY 18 dB] [eBox 4 [xI,xI],eBox 6 [(cD (dF .f64)),(cD (dF .f64))]]
def u99_0_0 {β:Type}(g:St->β):Nat->Nat->Nat->Nat->Nat->Int->Bool->Int->Int->Nat->Nat->β:=p99_0_0.unc g
def p99_0_1:PT St:=pS [sY 0 (dX .f64),sY 1 (dF .f64),sP 4,sP 6,sY 8 (dF .f64),sl 16 (aV true [(cD (dF .f64)),(cD (dF .f64))]),sI 17] [eBox 4 [xI,xI],eBox 6 [(cD (dF .f64)),(cD (dF .f64))]]
def u99_0_1 {β:Type}(g:St->β):Nat->Nat->Nat->Nat->Nat->Nat->Int->Int->Int->Nat->Nat->β:=p99_0_1.unc g
def p99_0_2:PT St:=pS [sY 0 (dX .f64),sY 1 (dF .f64),sP 4,sP 6,sl 16 (aV true [(cD (dF .f64)),(cD (dF .f64))]),sI 17] [eBox 4 [xI,xI],eBox 6 [(cD (dF .f64)),(cD (dF .f64))]]
def u99_0_2 {β:Type}(g:St->β):Nat->Nat->Nat->Nat->Nat->Int->Int->Int->Nat->Nat->β:=p99_0_2.unc g
def p99_0_3:PT St:=pS [sP 4,sI 5] [eBox 4 [xI,xI]]
def u99_0_3 {β:Type}(g:St->β):Int->Int->Int->β:=p99_0_3.unc g
def p99_0_4:PT St:=pS [sY 0 (dX .f64),sY 1 (dF .f64),sP 4,sl 25 (aV true [(cD (dF .f64)),(cD (dF .f64))]),sI 26,sY 27 dB] [eBox 4 [xI,xI]]
def u99_0_4 {β:Type}(g:St->β):Nat->Nat->Nat->Nat->Nat->Int->Bool->Int->Int->β:=p99_0_4.unc g
def p99_0_5:PT St:=pS [sY 0 (dX .f64),sY 1 (dF .f64),sP 4,sY 10 (dF .f64),sl 25 (aV true [(cD (dF .f64)),(cD (dF .f64))]),sI 26] [eBox 4 [xI,xI]]
def u99_0_5 {β:Type}(g:St->β):Nat->Nat->Nat->Nat->Nat->Nat->Int->Int->Int->β:=p99_0_5.unc g
def p99_0_6:PT St:=pS [sY 0 (dX .f64),sY 1 (dF .f64),sP 4,sl 25 (aV true [(cD (dF .f64)),(cD (dF .f64))]),sI 26] [eBox 4 [xI,xI]]
def u99_0_6 {β:Type}(g:St->β):Nat->Nat->Nat->Nat->Nat->Int->Int->Int->β:=p99_0_6.unc g
def pr99_0_0:PT (List RV):=pRs [pR true [rD (dI .i64),rD (dI .i64)],wI]
def ur99_0_0 {β:Type}(g:List RV->β):Int->Int->Int->β:=pr99_0_0.unc g
def E99_0g (a:Tf130_0)(b:Tf131_0)(c:Tf132_0):EnvK:=EnvK.of [⟨130,nt130,[⟨pa130_0,Fn130_0 a⟩]⟩,⟨131,nt131,[⟨pa131_0,Fn131_0 b⟩]⟩,⟨132,nt132,[⟨pa132_0,Fn132_0 c⟩]⟩] noSeq
def E99_0:EnvK:=E99_0g f130_0 f131_0 f132_0
theorem eo99_0:E99_0.Ok Pg:=EnvK.of_ok noSeq_ok ⟨⟨io130_0,TT⟩,⟨io131_0,TT⟩,⟨io132_0,TT⟩,TT⟩
def c99_0_35g:MCode:=MCode.sub [1,1,1,0,1,0,0,1,1,0,0,0] (emb ac99)
def c99_0_35:MCode:=c99_0_35g
abbrev TJ99_0_2:Type 1:=(α:Type)->Nat->Nat->Int->(Nat->Op α)->Op α
def J99_0_2g (α:Type)(b c:Nat)(a:Int)(k1:Nat->Op α):Op α:=
 cK (a == 1)
 (k1 c)
 (cK (a == 0)
 (k1 b)
 (none))
def J99_0_2 (α:Type)(a b:Nat)(c:Int)(k1:Nat->Op α):Op α:=J99_0_2g α a b c k1
def F99_0_2 (v:TJ99_0_2)(α:Type)(K:KT α):Nat->Nat->Nat->Nat->Nat->Int->Bool->Int->Int->Op α:=fun d e g a b c l h i=>v α a b c (fun j=>u99_0_5 (K .normal) d e g j a b c h i)
theorem m99_0_2g (a:Tf130_0)(b:Tf131_0)(c:Tf132_0)(α:Type)(K:KT α):F99_0_2 (J99_0_2g ) α K=p99_0_4.unc fun σ=>runM Pg (E99_0g a b c) sh99 (c99_0_35g ) K σ:=by kernel_rfl
theorem m99_0_2:∀ (α:Type) (K:KT α),F99_0_2 J99_0_2 α K=p99_0_4.unc fun σ=>runM Pg E99_0 sh99 c99_0_35 K σ:=m99_0_2g f130_0 f131_0 f132_0
def c99_0_28g (a:TJ99_0_2):MCode:=MCode.sub [1,1,1,0,1,0,0] (MCode.put (.m [⟨p99_0_4,F99_0_2 a⟩]) [1,1,1,0,1,0,0,1,1,0,0] (emb ac99))
def c99_0_28:MCode:=c99_0_28g J99_0_2
def S99_0_3g (b:TJ99_0_2)(c:Tf131_0)(α:Type)(d e g:Nat)(a:Int)(kn:Int->Op α)(k1:Op α)(k2:Int->Bool->Op α):Op α:=
 cK (decide (a < 2))
 (b α e g a
 (fun h=>c α h
 (fun i=>cK ((FloatKind.format .f64).order i d == some Ordering.gt)
 (k1)
 (kn (w64 (a+1))))))
 (k2 a (decide (a < 2)))
def S99_0_3 (α:Type)(a b c:Nat)(d:Int)(kn:Int->Op α)(k1:Op α)(k2:Int->Bool->Op α):Op α:=S99_0_3g J99_0_2 f131_0 α a b c d kn k1 k2
def R99_0_3 (α:Type)(a b c:Nat)(k1:Op α)(k2:Int->Bool->Op α):Nat->Int->Op α
 | 0,_=>none
 | n+1,d=>S99_0_3 α a b c d (R99_0_3 α a b c k1 k2 n) k1 k2
def L99_0_3 (α:Type)(a b c:Nat)(k1:Op α)(k2:Int->Bool->Op α)(d:Int):Op α:=R99_0_3 α a b c k1 k2 fuel d
abbrev TL99_0_3:Type 1:=(α:Type)->Nat->Nat->Nat->(Op α)->(Int->Bool->Op α)->Int->Op α
def F99_0_3 (v:TL99_0_3)(α:Type)(K:KT α):Nat->Nat->Nat->Nat->Nat->Int->Int->Int->Op α:=fun d e a b c g h i=>v α a b c (u99_0_3 (K .ret) 2 0 0) (fun j l=>u99_0_4 (K (.exit 2)) d e a b c j l h i) g
theorem r99_0_3g (m:Tf130_0)(j:Tf131_0)(o:Tf132_0)(l:TJ99_0_2)(α:Type)(K:KT α)(Kn:SK α)(e g a b c:Nat)(d h i:Int):u99_0_6 (fun σ=>runM Pg (E99_0g m j o) sh99 (c99_0_28g l) (thenK (fun σ=>tidyK td99_28 σ Kn) K) σ) e g a b c d h i=S99_0_3g l j α a b c d (fun d=>u99_0_6 Kn e g a b c d h i) (u99_0_3 (K .ret) 2 0 0) (fun p q=>u99_0_4 (K (.exit 2)) e g a b c p q h i):=by kernel_rfl
theorem r99_0_3 (α:Type)(K:KT α)(Kn:SK α)(e g a b c:Nat)(d h i:Int):u99_0_6 (fun σ=>runM Pg E99_0 sh99 c99_0_28 (thenK (fun σ=>tidyK td99_28 σ Kn) K) σ) e g a b c d h i=S99_0_3 α a b c d (fun d=>u99_0_6 Kn e g a b c d h i) (u99_0_3 (K .ret) 2 0 0) (fun j l=>u99_0_4 (K (.exit 2)) e g a b c j l h i):=r99_0_3g f130_0 f131_0 f132_0 J99_0_2 α K Kn e g a b c d h i
theorem t99_0_3 (α:Type)(K:KT α):∀ (n:Nat) (e g a b c:Nat) (d h i:Int),R99_0_3 α a b c (u99_0_3 (K .ret) 2 0 0) (fun j l=>u99_0_4 (K (.exit 2)) e g a b c j l h i) n d=u99_0_6 (loopT (runM Pg E99_0 sh99 c99_0_28) td99_28 K n) e g a b c d h i:=by
 intro n
 induction n with
 | zero=>intros;rfl
 | succ n ih=>intro e g a b c d h i;exact (congrArg (fun kn=>S99_0_3 α a b c d kn (u99_0_3 (K .ret) 2 0 0) (fun j l=>u99_0_4 (K (.exit 2)) e g a b c j l h i)) (funext fun d=>ih e g a b c d h i)).trans (r99_0_3 α K (loopT (runM Pg E99_0 sh99 c99_0_28) td99_28 K n) e g a b c d h i).symm
theorem m99_0_3:∀ (α:Type) (K:KT α),F99_0_3 L99_0_3 α K=p99_0_6.unc fun σ=>loopT (runM Pg E99_0 sh99 c99_0_28) td99_28 K fuel σ:=fun α K=>by funext a b c d e g h i;exact t99_0_3 α K fuel a b c d e g h i
def c99_0_16g:MCode:=MCode.sub [1,1,0,1,0,0,1,1,0,0,0] (emb ac99)
def c99_0_16:MCode:=c99_0_16g
abbrev TJ99_0_0:Type 1:=(α:Type)->Nat->Nat->Int->(Nat->Op α)->Op α
def J99_0_0g (α:Type)(b c:Nat)(a:Int)(k1:Nat->Op α):Op α:=
 cK (a == 1)
 (k1 c)
 (cK (a == 0)
 (k1 b)
 (none))
def J99_0_0 (α:Type)(a b:Nat)(c:Int)(k1:Nat->Op α):Op α:=J99_0_0g α a b c k1
def F99_0_0 (v:TJ99_0_0)(α:Type)(K:KT α):Nat->Nat->Nat->Nat->Nat->Int->Bool->Int->Int->Nat->Nat->Op α:=fun d e g a b c o h i j l=>v α a b c (fun m=>u99_0_1 (K .normal) d e g m a b c h i j l)
theorem m99_0_0g (a:Tf130_0)(b:Tf131_0)(c:Tf132_0)(α:Type)(K:KT α):F99_0_0 (J99_0_0g ) α K=p99_0_0.unc fun σ=>runM Pg (E99_0g a b c) sh99 (c99_0_16g ) K σ:=by kernel_rfl
theorem m99_0_0:∀ (α:Type) (K:KT α),F99_0_0 J99_0_0 α K=p99_0_0.unc fun σ=>runM Pg E99_0 sh99 c99_0_16 K σ:=m99_0_0g f130_0 f131_0 f132_0
def c99_0_9g (a:TJ99_0_0):MCode:=MCode.sub [1,1,0,1,0,0] (MCode.put (.m [⟨p99_0_0,F99_0_0 a⟩]) [1,1,0,1,0,0,1,1,0,0] (emb ac99))
def c99_0_9:MCode:=c99_0_9g J99_0_0
def S99_0_1g (b:TJ99_0_0)(c:Tf130_0)(α:Type)(d e:Nat)(a:Int)(kn:Int->Op α)(k1:Op α)(k2:Int->Bool->Op α):Op α:=
 cK (decide (a < 2))
 (b α d e a
 (fun g=>c α g
 (fun h=>cK (!h)
 (k1)
 (kn (w64 (a+1))))))
 (k2 a (decide (a < 2)))
def S99_0_1 (α:Type)(a b:Nat)(c:Int)(kn:Int->Op α)(k1:Op α)(k2:Int->Bool->Op α):Op α:=S99_0_1g J99_0_0 f130_0 α a b c kn k1 k2
def R99_0_1 (α:Type)(a b:Nat)(k1:Op α)(k2:Int->Bool->Op α):Nat->Int->Op α
 | 0,_=>none
 | n+1,c=>S99_0_1 α a b c (R99_0_1 α a b k1 k2 n) k1 k2
def L99_0_1 (α:Type)(a b:Nat)(k1:Op α)(k2:Int->Bool->Op α)(c:Int):Op α:=R99_0_1 α a b k1 k2 fuel c
abbrev TL99_0_1:Type 1:=(α:Type)->Nat->Nat->(Op α)->(Int->Bool->Op α)->Int->Op α
def F99_0_1 (v:TL99_0_1)(α:Type)(K:KT α):Nat->Nat->Nat->Nat->Nat->Int->Int->Int->Nat->Nat->Op α:=fun c d e a b g h i j l=>v α a b (u99_0_3 (K .ret) 27 0 0) (fun m o=>u99_0_0 (K (.exit 0)) c d e a b m o h i j l) g
theorem r99_0_1g (m:Tf130_0)(p:Tf131_0)(q:Tf132_0)(o:TJ99_0_0)(α:Type)(K:KT α)(Kn:SK α)(d e g a b:Nat)(c h i:Int)(j l:Nat):u99_0_2 (fun σ=>runM Pg (E99_0g m p q) sh99 (c99_0_9g o) (thenK (fun σ=>tidyK td99_9 σ Kn) K) σ) d e g a b c h i j l=S99_0_1g o m α a b c (fun c=>u99_0_2 Kn d e g a b c h i j l) (u99_0_3 (K .ret) 27 0 0) (fun r s=>u99_0_0 (K (.exit 0)) d e g a b r s h i j l):=by kernel_rfl
theorem r99_0_1 (α:Type)(K:KT α)(Kn:SK α)(d e g a b:Nat)(c h i:Int)(j l:Nat):u99_0_2 (fun σ=>runM Pg E99_0 sh99 c99_0_9 (thenK (fun σ=>tidyK td99_9 σ Kn) K) σ) d e g a b c h i j l=S99_0_1 α a b c (fun c=>u99_0_2 Kn d e g a b c h i j l) (u99_0_3 (K .ret) 27 0 0) (fun m o=>u99_0_0 (K (.exit 0)) d e g a b m o h i j l):=r99_0_1g f130_0 f131_0 f132_0 J99_0_0 α K Kn d e g a b c h i j l
theorem t99_0_1 (α:Type)(K:KT α):∀ (n:Nat) (d e g a b:Nat) (c h i:Int) (j l:Nat),R99_0_1 α a b (u99_0_3 (K .ret) 27 0 0) (fun m o=>u99_0_0 (K (.exit 0)) d e g a b m o h i j l) n c=u99_0_2 (loopT (runM Pg E99_0 sh99 c99_0_9) td99_9 K n) d e g a b c h i j l:=by
 intro n
 induction n with
 | zero=>intros;rfl
 | succ n ih=>intro d e g a b c h i j l;exact (congrArg (fun kn=>S99_0_1 α a b c kn (u99_0_3 (K .ret) 27 0 0) (fun m o=>u99_0_0 (K (.exit 0)) d e g a b m o h i j l)) (funext fun c=>ih d e g a b c h i j l)).trans (r99_0_1 α K (loopT (runM Pg E99_0 sh99 c99_0_9) td99_9 K n) d e g a b c h i j l).symm
theorem m99_0_1:∀ (α:Type) (K:KT α),F99_0_1 L99_0_1 α K=p99_0_2.unc fun σ=>loopT (runM Pg E99_0 sh99 c99_0_9) td99_9 K fuel σ:=fun α K=>by funext a b c d e g h i j l;exact t99_0_1 α K fuel a b c d e g h i j l
abbrev Tf99_0:Type 1:=(α:Type)->Nat->Nat->Nat->(Int->Int->Int->Op α)->Op α
def f99_0g (c:TL99_0_1)(d:TL99_0_3)(e:Tf132_0)(α:Type)(a b g:Nat)(k1:Int->Int->Int->Op α):Op α:=
 c α a b
 (k1 0 0 27)
 (fun j l=>d α g a b
 (k1 0 0 2)
 (fun m o=>e α a b
 (fun h i=>k1 h i 0)) 0) 0
def f99_0 (α:Type)(a b c:Nat)(k1:Int->Int->Int->Op α):Op α:=f99_0g L99_0_1 L99_0_3 f132_0 α a b c k1
def pa99_0:PT (List DV):=pA [pV false [(dX .f64)],pV false [(dF .f64)]]
def Fn99_0 (v:Tf99_0)(α:Type)(k:RT α):Nat->Nat->Nat->Op α:=fun a b c=>v α a b c (fun d e g=>ur99_0_0 k d e g)
def cm99_0g (a:TL99_0_1)(b:TL99_0_3):MCode:=(MCode.put (.m [⟨p99_0_2,F99_0_1 a⟩]) [1,1,0,1,0] (MCode.put (.m [⟨p99_0_0,F99_0_0 J99_0_0⟩]) [1,1,0,1,0,0,1,1,0,0] (MCode.put (.m [⟨p99_0_6,F99_0_3 b⟩]) [1,1,1,0,1,0] (MCode.put (.m [⟨p99_0_4,F99_0_2 J99_0_2⟩]) [1,1,1,0,1,0,0,1,1,0,0] (emb ac99)))))
def cm99_0:MCode:=cm99_0g L99_0_1 L99_0_3
theorem gm99_0:cm99_0.Good Pg E99_0 sh99:=(put_loop (td:=td99_9) (by kernel_rfl) (put_seq (by kernel_rfl) (put_loop (td:=td99_28) (by kernel_rfl) (put_seq (by kernel_rfl) (emb_good ac99) ⟨m99_0_2,TT⟩) ⟨m99_0_3,TT⟩) ⟨m99_0_0,TT⟩) ⟨m99_0_1,TT⟩)
theorem em99_0:cm99_0.erase=ac99:=((put_erase _ _).trans ((put_erase _ _).trans ((put_erase _ _).trans ((put_erase _ _).trans (emb_erase _)))))
theorem fm99_0g (d:Tf130_0)(e:Tf131_0)(a:Tf132_0)(b:TL99_0_1)(c:TL99_0_3)(α:Type)(k:RT α):Fn99_0 (f99_0g b c a) α k=pa99_0.unc fun ds=>fnM Pg (E99_0g d e a) sh99 (cm99_0g b c) rs99 k ds:=by kernel_rfl
theorem fm99_0:∀ (α:Type) (k:RT α),Fn99_0 f99_0 α k=pa99_0.unc fun ds=>fnM Pg E99_0 sh99 cm99_0 rs99 k ds:=fm99_0g f130_0 f131_0 f132_0 L99_0_1 L99_0_3
theorem is99:FnIs Pg 99 nt99 tr99 tl99 ac99 rs99:=codeF_is Tryz.func99 (by kernel_rfl)
theorem io99_0:InstOk Pg 99 nt99 ⟨pa99_0,Fn99_0 f99_0⟩:=inst_ok eo99_0 followsTry is99 ⟨⟨sh99,cm99_0,em99_0,gm99_0,fm99_0⟩⟩
abbrev nt124:Nat:=32
def sh124:SG:=[]
def tr124:TG:=[tT 0 [0,1,4],tT 1 [0,1,4,15],tT 2 [4,5],tT 3 [4,6,7],tT 4 [4,5]]
def tl124:TG:=[]
def ac124:ACode:=codeF Pg Tryz.f124 tr124 tl124
def rs124:List AResV:=resF Pg Tryz.f124
def pr124_0_0:PT (List RV):=pRs [pR true [rD (dX .f64),rD (dI .i64)],wI]
def ur124_0_0 {β:Type}(g:List RV->β):Nat->Nat->Int->Int->β:=pr124_0_0.unc g
def E124_0g (a:Tf94_0)(b:Tf100_0)(c:Tf116_0)(d:Tf117_0)(e:Tf127_0):EnvK:=EnvK.of [⟨94,nt94,[⟨pa94_0,Fn94_0 a⟩]⟩,⟨100,nt100,[⟨pa100_0,Fn100_0 b⟩]⟩,⟨116,nt116,[⟨pa116_0,Fn116_0 c⟩]⟩,⟨117,nt117,[⟨pa117_0,Fn117_0 d⟩]⟩,⟨127,nt127,[⟨pa127_0,Fn127_0 e⟩]⟩] noSeq
def E124_0:EnvK:=E124_0g f94_0 f100_0 f116_0 f117_0 f127_0
theorem eo124_0:E124_0.Ok Pg:=EnvK.of_ok noSeq_ok ⟨⟨io94_0,TT⟩,⟨io100_0,TT⟩,⟨io116_0,TT⟩,⟨io117_0,TT⟩,⟨io127_0,TT⟩,TT⟩
abbrev Tf124_0:Type 1:=(α:Type)->Int->Int->(Nat->Nat->Int->Int->Op α)->Op α
def f124_0g (c:Tf100_0)(d:Tf116_0)(e:Tf117_0)(g:Tf127_0)(h:Tf94_0)(α:Type)(a b:Int)(k1:Nat->Nat->Int->Int->Op α):Op α:=
 h α a 1000000000
 (fun i=>cK (!i)
 (k1 0 0 0 2)
 (c α b 1 1000000000
 (fun j=>cK (!j)
 (k1 0 0 0 2)
 (d α (w64 (a*1048576)) b
 (fun l m=>e α m
 (fun o=>g α l 0 o
 (fun p q r s=>k1 p q r s)))))))
def f124_0 (α:Type)(a b:Int)(k1:Nat->Nat->Int->Int->Op α):Op α:=f124_0g f100_0 f116_0 f117_0 f127_0 f94_0 α a b k1
def pa124_0:PT (List DV):=pA [vI,vI]
def Fn124_0 (v:Tf124_0)(α:Type)(k:RT α):Int->Int->Op α:=fun a b=>v α a b (fun c d e g=>ur124_0_0 k c d e g)
def cm124_0g:MCode:=(emb ac124)
def cm124_0:MCode:=cm124_0g
theorem gm124_0:cm124_0.Good Pg E124_0 sh124:=(emb_good ac124)
theorem em124_0:cm124_0.erase=ac124:=(emb_erase _)
theorem fm124_0g (a:Tf94_0)(b:Tf100_0)(c:Tf116_0)(d:Tf117_0)(e:Tf127_0)(α:Type)(k:RT α):Fn124_0 (f124_0g b c d e a) α k=pa124_0.unc fun ds=>fnM Pg (E124_0g a b c d e) sh124 (cm124_0g ) rs124 k ds:=by kernel_rfl
theorem fm124_0:∀ (α:Type) (k:RT α),Fn124_0 f124_0 α k=pa124_0.unc fun ds=>fnM Pg E124_0 sh124 cm124_0 rs124 k ds:=fm124_0g f94_0 f100_0 f116_0 f117_0 f127_0
theorem is124:FnIs Pg 124 nt124 tr124 tl124 ac124 rs124:=codeF_is Tryz.func124 (by kernel_rfl)
theorem io124_0:InstOk Pg 124 nt124 ⟨pa124_0,Fn124_0 f124_0⟩:=inst_ok eo124_0 followsTry is124 ⟨⟨sh124,cm124_0,em124_0,gm124_0,fm124_0⟩⟩
abbrev nt90:Nat:=40
def sh90:SG:=[(7,iT),(12,iT),(19,iT),(21,iT),(25,iT),(27,iT),(33,iT)]
def tr90:TG:=[tT 0 [1,2],tT 1 [1,2,5],tT 2 [2,3],tT 3 [1,2,17],tT 4 [2,3],tT 5 [1,2,4],tT 6 [2,3]]
def tl90:TG:=[]
def ac90:ACode:=codeF Pg Tryz.f90 tr90 tl90
def rs90:List AResV:=resF Pg Tryz.f90
def p90_0_0:PT St:=pS [sP 1,sP 2] [eBox 1 [xI,xI],eBox 2 [(cD (dX .f64)),xI]]
def u90_0_0 {β:Type}(g:St->β):Int->Int->Nat->Nat->Int->β:=p90_0_0.unc g
def p90_0_1:PT St:=pS [sP 1,sP 2,sY 5 dB] [eBox 1 [xI,xI],eBox 2 [(cD (dX .f64)),xI]]
def u90_0_1 {β:Type}(g:St->β):Bool->Int->Int->Nat->Nat->Int->β:=p90_0_1.unc g
def pr90_0_0:PT (List RV):=pRs [pR true [rD (dX .f64),rD (dI .i64)],wI]
def ur90_0_0 {β:Type}(g:List RV->β):Nat->Nat->Int->Int->β:=pr90_0_0.unc g
def E90_0g (a:Tf94_0)(b:Tf63_0)(c:Tf127_0):EnvK:=EnvK.of [⟨94,nt94,[⟨pa94_0,Fn94_0 a⟩]⟩,⟨63,nt63,[⟨pa63_0,Fn63_0 b⟩]⟩,⟨127,nt127,[⟨pa127_0,Fn127_0 c⟩]⟩] noSeq
def E90_0:EnvK:=E90_0g f94_0 f63_0 f127_0
theorem eo90_0:E90_0.Ok Pg:=EnvK.of_ok noSeq_ok ⟨⟨io94_0,TT⟩,⟨io63_0,TT⟩,⟨io127_0,TT⟩,TT⟩
def c90_0_5g:MCode:=MCode.sub [1,0,0,0] (emb ac90)
def c90_0_5:MCode:=c90_0_5g
abbrev TJ90_0_0:Type 1:=(α:Type)->Int->Int->(Bool->Op α)->Op α
def J90_0_0g (a:Tf94_0)(α:Type)(b c:Int)(k1:Bool->Op α):Op α:=
 a α b 67108864
 (fun d=>cK (!d)
 (k1 true)
 (a α c 67108864
 (fun e=>k1 (!e))))
def J90_0_0 (α:Type)(a b:Int)(k1:Bool->Op α):Op α:=J90_0_0g f94_0 α a b k1
def F90_0_0 (v:TJ90_0_0)(α:Type)(K:KT α):Int->Int->Nat->Nat->Int->Op α:=fun a b c d e=>v α a b (fun g=>u90_0_1 (K .normal) g a b c d e)
theorem m90_0_0g (a:Tf94_0)(b:Tf63_0)(c:Tf127_0)(α:Type)(K:KT α):F90_0_0 (J90_0_0g a) α K=p90_0_0.unc fun σ=>runM Pg (E90_0g a b c) sh90 (c90_0_5g ) K σ:=by kernel_rfl
theorem m90_0_0:∀ (α:Type) (K:KT α),F90_0_0 J90_0_0 α K=p90_0_0.unc fun σ=>runM Pg E90_0 sh90 c90_0_5 K σ:=m90_0_0g f94_0 f63_0 f127_0
abbrev Tf90_0:Type 1:=(α:Type)->Int->Int->(Nat->Nat->Int->Int->Op α)->Op α
def f90_0g (d:TJ90_0_0)(e:Tf127_0)(g:Tf63_0)(α:Type)(b a:Int)(k1:Nat->Nat->Int->Int->Op α):Op α:=
 d α b a
 (fun h=>cK h
 (k1 0 0 0 2)
 (cK (decide (a < b))
 (k1 0 0 0 10)
 (g α (w64 (b+a)) 2
 (fun c=>e α c 0 (w64 (a - c))
 (fun i j l m=>k1 i j l m)))))
def f90_0 (α:Type)(a b:Int)(k1:Nat->Nat->Int->Int->Op α):Op α:=f90_0g J90_0_0 f127_0 f63_0 α a b k1
def pa90_0:PT (List DV):=pA [pV true [(dI .i64),(dI .i64)]]
def Fn90_0 (v:Tf90_0)(α:Type)(k:RT α):Int->Int->Op α:=fun a b=>v α a b (fun c d e g=>ur90_0_0 k c d e g)
def cm90_0g (a:TJ90_0_0):MCode:=(MCode.put (.m [⟨p90_0_0,F90_0_0 a⟩]) [1,0,0] (emb ac90))
def cm90_0:MCode:=cm90_0g J90_0_0
theorem gm90_0:cm90_0.Good Pg E90_0 sh90:=(put_seq (by kernel_rfl) (emb_good ac90) ⟨m90_0_0,TT⟩)
theorem em90_0:cm90_0.erase=ac90:=((put_erase _ _).trans (emb_erase _))
theorem fm90_0g (d:Tf94_0)(a:Tf63_0)(b:Tf127_0)(c:TJ90_0_0)(α:Type)(k:RT α):Fn90_0 (f90_0g c b a) α k=pa90_0.unc fun ds=>fnM Pg (E90_0g d a b) sh90 (cm90_0g c) rs90 k ds:=by kernel_rfl
theorem fm90_0:∀ (α:Type) (k:RT α),Fn90_0 f90_0 α k=pa90_0.unc fun ds=>fnM Pg E90_0 sh90 cm90_0 rs90 k ds:=fm90_0g f94_0 f63_0 f127_0 J90_0_0
theorem is90:FnIs Pg 90 nt90 tr90 tl90 ac90 rs90:=codeF_is Tryz.func90 (by kernel_rfl)
theorem io90_0:InstOk Pg 90 nt90 ⟨pa90_0,Fn90_0 f90_0⟩:=inst_ok eo90_0 followsTry is90 ⟨⟨sh90,cm90_0,em90_0,gm90_0,fm90_0⟩⟩
abbrev nt48:Nat:=107
def sh48:SG:=[(9,iT),(13,iS 2),(19,iT),(23,iS 2),(29,[.sl]),(33,[.sl]),(38,iS 5),(39,iS 5),(43,iT),(49,iT),(56,iT),(63,iT),(69,iT),(78,iT),(81,iT),(86,iT),(89,iT),(97,iT),(103,iT)]
def tr48:TG:=[tT 0 [1],tT 1 [1,11],tT 2 [2,3],tT 3 [1,4],tT 4 [1,4,16],tT 5 [2,3],tT 6 [1,21],tT 7 [2,3],tT 8 [1,5],tT 9 [1,5,26],tT 10 [2,3],tT 11 [1,31],tT 12 [2,3],tT 13 [1,33,34,35],tT 14 [1,33,34,35,36],tT 15 [1,6,7,33,34,35],tT 16 [1,6,7,33,34,35,40],tT 17 [2,3],tT 18 [1,6,33,34,35,75],tT 19 [2,3],tT 20 [1,33,34,35],tT 21 [106],tT 22 [2,3],tT 23 [2,3]]
def tl48:TG:=[(14,⟨[1,33,34,35],true,[⟨false,33,0,20033,5⟩,⟨true,1,6,30106,5⟩],[]⟩)]
def ac48:ACode:=codeF Pg Tryz.f48 tr48 tl48
def rs48:List AResV:=resF Pg Tryz.f48
def td48_41:OT:=tdC (MCode.sub [1,1,1,1,1,1,0,1,0] (emb ac48))
def p48_0_0:PT St:=pS [sP 1,sI 6,sP 7,sY 33 dL,sI 34,sI 35] [eBox 1 [xI,xI,xI,xI,xI,xI,(cD dL),xI,xI],eBox 7 (xs 5)]
def u48_0_0 {β:Type}(g:St->β):Int->Rows->Int->Int->Int->Int->Int->Int->Int->Int->Rows->I7 β:=p48_0_0.unc g
def p48_0_1:PT St:=pS [sP 1,sI 6,sP 7,sY 33 dL,sI 34,sI 35,sY 40 dB] [eBox 1 [xI,xI,xI,xI,xI,xI,(cD dL),xI,xI],eBox 7 (xs 5)]
def u48_0_1 {β:Type}(g:St->β):Int->Rows->Int->Int->Bool->Int->Int->Int->Int->Int->Int->Rows->I7 β:=p48_0_1.unc g
def p48_0_2:PT St:=pS [sP 1,sY 33 dL,sI 34,sI 35] [eBox 1 [xI,xI,xI,xI,xI,xI,(cD dL),xI,xI]]
def u48_0_2 {β:Type}(g:St->β):Rows->Int->Int->Int->Int->Int->Int->Int->Int->Rows->Int->Int->β:=p48_0_2.unc g
def p48_0_3:PT St:=pS [sI 2,sI 3] []
def u48_0_3 {β:Type}(g:St->β):Int->Int->β:=p48_0_3.unc g
def p48_0_4:PT St:=pS [sP 1,sY 33 dL,sI 34,sI 35,sY 36 dB] [eBox 1 [xI,xI,xI,xI,xI,xI,(cD dL),xI,xI]]
def u48_0_4 {β:Type}(g:St->β):Rows->Int->Int->Bool->Int->Int->Int->Int->Int->Int->Rows->Int->Int->β:=p48_0_4.unc g
def pr48_0_0:PT (List RV):=pRs [wI,wI]
def ur48_0_0 {β:Type}(g:List RV->β):Int->Int->β:=pr48_0_0.unc g
def E48_0g (a:Tf70_0)(b:Tf71_0)(c:Tf73_0)(d:Tf71_1)(e:Tf75_0)(g:Tf76_0):EnvK:=EnvK.of [⟨70,nt70,[⟨pa70_0,Fn70_0 a⟩]⟩,⟨71,nt71,[⟨pa71_0,Fn71_0 b⟩,⟨pa71_1,Fn71_1 d⟩]⟩,⟨73,nt73,[⟨pa73_0,Fn73_0 c⟩]⟩,⟨75,nt75,[⟨pa75_0,Fn75_0 e⟩]⟩,⟨76,nt76,[⟨pa76_0,Fn76_0 g⟩]⟩] noSeq
def E48_0:EnvK:=E48_0g f70_0 f71_0 f73_0 f71_1 f75_0 f76_0
theorem eo48_0:E48_0.Ok Pg:=EnvK.of_ok noSeq_ok ⟨⟨io70_0,TT⟩,⟨io71_0,io71_1,TT⟩,⟨io73_0,TT⟩,⟨io75_0,TT⟩,⟨io76_0,TT⟩,TT⟩
def c48_0_51g:MCode:=MCode.sub [1,1,1,1,1,1,0,1,0,0,1,1,0,0,1,0,0] (emb ac48)
def c48_0_51:MCode:=c48_0_51g
abbrev TJ48_0_0:Type 1:=(α:Type)->Int->Int->Int->Int->Int->(Bool->Op α)->Op α
def J48_0_0g (a:Tf70_0)(b:Tf75_0)(c:Tf76_0)(α:Type)(d e g h i:Int)(k1:Bool->Op α):Op α:=
 a α d
 (fun j=>cK (!j)
 (k1 true)
 (a α e
 (fun l=>cK (!l)
 (k1 true)
 (b α g
 (fun m=>cK (!m)
 (k1 true)
 (b α h
 (fun o=>cK (!o)
 (k1 true)
 (c α i
 (fun p=>k1 (!p))))))))))
def J48_0_0 (α:Type)(a b c d e:Int)(k1:Bool->Op α):Op α:=J48_0_0g f70_0 f75_0 f76_0 α a b c d e k1
def F48_0_0 (v:TJ48_0_0)(α:Type)(K:KT α):Int->Rows->Int->Int->Int->Int->Int->Int->Int->Int->Rows->I7 (Op α):=fun g h i j l m o p q r s t w a b c d e=>v α a b c d e (fun z=>u48_0_1 (K .normal) g h i j z l m o p q r s t w a b c d e)
theorem m48_0_0g (a:Tf70_0)(d:Tf71_0)(e:Tf73_0)(g:Tf71_1)(b:Tf75_0)(c:Tf76_0)(α:Type)(K:KT α):F48_0_0 (J48_0_0g a b c) α K=p48_0_0.unc fun σ=>runM Pg (E48_0g a d e g b c) sh48 (c48_0_51g ) K σ:=by kernel_rfl
theorem m48_0_0:∀ (α:Type) (K:KT α),F48_0_0 J48_0_0 α K=p48_0_0.unc fun σ=>runM Pg E48_0 sh48 c48_0_51 K σ:=m48_0_0g f70_0 f71_0 f73_0 f71_1 f75_0 f76_0
def c48_0_41g (a:TJ48_0_0):MCode:=MCode.sub [1,1,1,1,1,1,0,1,0,0] (MCode.put (.m [⟨p48_0_0,F48_0_0 a⟩]) [1,1,1,1,1,1,0,1,0,0,1,1,0,0,1,0] (emb ac48))
def c48_0_41:MCode:=c48_0_41g J48_0_0
def S48_0_1g (h:TJ48_0_0)(α:Type)(i:Rows)(b a:Int)(kn:Int->Op α)(k1:Int->Int->Op α)(k2:Int->Bool->Op α):Op α:=
 cK (decide (a < b))
 (rowK i a [.int .i64,.int .i64,.int .i64,.int .i64,.int .i64]
 (fun c d e g j=>h α c d e g j
 (fun l=>cK l
 (k1 (w64 (a+1)) 2)
 (cK (decide (d < c))
 (k1 (w64 (a+1)) 10)
 (cK (decide (g < e))
 (k1 (w64 (a+1)) 10)
 (kn (w64 (a+1))))))))
 (k2 a (decide (a < b)))
def S48_0_1 (α:Type)(a:Rows)(b c:Int)(kn:Int->Op α)(k1:Int->Int->Op α)(k2:Int->Bool->Op α):Op α:=S48_0_1g J48_0_0 α a b c kn k1 k2
def R48_0_1 (α:Type)(a:Rows)(b:Int)(k1:Int->Int->Op α)(k2:Int->Bool->Op α):Nat->Int->Op α
 | 0,_=>none
 | n+1,c=>S48_0_1 α a b c (R48_0_1 α a b k1 k2 n) k1 k2
def L48_0_1 (α:Type)(a:Rows)(b:Int)(k1:Int->Int->Op α)(k2:Int->Bool->Op α)(c:Int):Op α:=R48_0_1 α a b k1 k2 fuel c
abbrev TL48_0_1:Type 1:=(α:Type)->Rows->Int->(Int->Int->Op α)->(Int->Bool->Op α)->Int->Op α
def F48_0_1 (v:TL48_0_1)(α:Type)(K:KT α):Rows->Int->Int->Int->Int->Int->Int->Int->Int->Rows->Int->Int->Op α:=fun c d e g h i j l m o p q=>v α c d (fun a b=>u48_0_3 (K .ret) a b) (fun a b=>u48_0_4 (K (.exit 0)) c d a b g h i j l m o p q) e
theorem r48_0_1g (s:Tf70_0)(t:Tf71_0)(w:Tf73_0)(z:Tf71_1)(A:Tf75_0)(B:Tf76_0)(r:TJ48_0_0)(α:Type)(K:KT α)(Kn:SK α)(a:Rows)(b c d e g h i j:Int)(l:Rows)(m o:Int):u48_0_2 (fun σ=>runM Pg (E48_0g s t w z A B) sh48 (c48_0_41g r) (thenK (fun σ=>tidyK td48_41 σ Kn) K) σ) a b c d e g h i j l m o=S48_0_1g r α a b c (fun c=>u48_0_2 Kn a b c d e g h i j l m o) (fun p q=>u48_0_3 (K .ret) p q) (fun p q=>u48_0_4 (K (.exit 0)) a b p q d e g h i j l m o):=by kernel_rfl
theorem r48_0_1 (α:Type)(K:KT α)(Kn:SK α)(a:Rows)(b c d e g h i j:Int)(l:Rows)(m o:Int):u48_0_2 (fun σ=>runM Pg E48_0 sh48 c48_0_41 (thenK (fun σ=>tidyK td48_41 σ Kn) K) σ) a b c d e g h i j l m o=S48_0_1 α a b c (fun c=>u48_0_2 Kn a b c d e g h i j l m o) (fun p q=>u48_0_3 (K .ret) p q) (fun p q=>u48_0_4 (K (.exit 0)) a b p q d e g h i j l m o):=r48_0_1g f70_0 f71_0 f73_0 f71_1 f75_0 f76_0 J48_0_0 α K Kn a b c d e g h i j l m o
theorem t48_0_1 (α:Type)(K:KT α):∀ (n:Nat) (a:Rows) (b c g h i j l m:Int) (o:Rows) (p q:Int),R48_0_1 α a b (fun d e=>u48_0_3 (K .ret) d e) (fun d e=>u48_0_4 (K (.exit 0)) a b d e g h i j l m o p q) n c=u48_0_2 (loopT (runM Pg E48_0 sh48 c48_0_41) td48_41 K n) a b c g h i j l m o p q:=by
 intro n
 induction n with
 | zero=>intros;rfl
 | succ n ih=>intro a b c g h i j l m o p q;exact (congrArg (fun kn=>S48_0_1 α a b c kn (fun d e=>u48_0_3 (K .ret) d e) (fun d e=>u48_0_4 (K (.exit 0)) a b d e g h i j l m o p q)) (funext fun c=>ih a b c g h i j l m o p q)).trans (r48_0_1 α K (loopT (runM Pg E48_0 sh48 c48_0_41) td48_41 K n) a b c g h i j l m o p q).symm
theorem m48_0_1:∀ (α:Type) (K:KT α),F48_0_1 L48_0_1 α K=p48_0_2.unc fun σ=>loopT (runM Pg E48_0 sh48 c48_0_41) td48_41 K fuel σ:=fun α K=>by funext a b c d e g h i j l m o;exact t48_0_1 α K fuel a b c d e g h i j l m o
abbrev Tf48_0:Type 1:=(α:Type)->Int->Int->Int->Int->Int->Int->Rows->Int->Int->(Int->Int->Op α)->Op α
def f48_0g (e:TL48_0_1)(b:Tf70_0)(g:Tf71_0)(h:Tf71_1)(i:Tf73_0)(j:Tf76_0)(α:Type)(l m o p q r:Int)(a:Rows)(s t:Int)(k1:Int->Int->Op α):Op α:=
 b α l
 (fun w=>cK (!w)
 (k1 0 2)
 (g α m o
 (fun c=>cK (c != 0)
 (k1 0 c)
 (i α p 0 1
 (fun z=>cK (!z)
 (k1 0 11)
 (h α q r
 (fun d=>cK (d != 0)
 (k1 0 d)
 (cK (decide (40 < ((List.length a:Nat):Int)))
 (k1 0 8)
 (e α a ((List.length a:Nat):Int)
 (fun A B=>k1 A B)
 (fun F G=>b α s
 (fun C=>cK (!C)
 (k1 0 2)
 (j α t
 (fun D=>cK (!D)
 (k1 0 2)
 (k1 0 0))))) 0)))))))))
def f48_0 (α:Type)(a b c d e g:Int)(h:Rows)(i j:Int)(k1:Int->Int->Op α):Op α:=f48_0g L48_0_1 f70_0 f71_0 f71_1 f73_0 f76_0 α a b c d e g h i j k1
def pa48_0:PT (List DV):=pA [pV true [(dI .i64),(dI .i64),(dI .i64),(dI .i64),(dI .i64),(dI .i64),dL,(dI .i64),(dI .i64)]]
def Fn48_0 (v:Tf48_0)(α:Type)(k:RT α):Int->Int->Int->Int->Int->Int->Rows->Int->Int->Op α:=fun a b c d e g h i j=>v α a b c d e g h i j (fun l m=>ur48_0_0 k l m)
def cm48_0g (a:TL48_0_1):MCode:=(MCode.put (.m [⟨p48_0_2,F48_0_1 a⟩]) [1,1,1,1,1,1,0,1,0] (MCode.put (.m [⟨p48_0_0,F48_0_0 J48_0_0⟩]) [1,1,1,1,1,1,0,1,0,0,1,1,0,0,1,0] (emb ac48)))
def cm48_0:MCode:=cm48_0g L48_0_1
theorem gm48_0:cm48_0.Good Pg E48_0 sh48:=(put_loop (td:=td48_41) (by kernel_rfl) (put_seq (by kernel_rfl) (emb_good ac48) ⟨m48_0_0,TT⟩) ⟨m48_0_1,TT⟩)
theorem em48_0:cm48_0.erase=ac48:=((put_erase _ _).trans ((put_erase _ _).trans (emb_erase _)))
theorem fm48_0g (a:Tf70_0)(b:Tf71_0)(c:Tf73_0)(d:Tf71_1)(h:Tf75_0)(e:Tf76_0)(g:TL48_0_1)(α:Type)(k:RT α):Fn48_0 (f48_0g g a b d c e) α k=pa48_0.unc fun ds=>fnM Pg (E48_0g a b c d h e) sh48 (cm48_0g g) rs48 k ds:=by kernel_rfl
theorem fm48_0:∀ (α:Type) (k:RT α),Fn48_0 f48_0 α k=pa48_0.unc fun ds=>fnM Pg E48_0 sh48 cm48_0 rs48 k ds:=fm48_0g f70_0 f71_0 f73_0 f71_1 f75_0 f76_0 L48_0_1
theorem is48:FnIs Pg 48 nt48 tr48 tl48 ac48 rs48:=codeF_is Tryz.func48 (by kernel_rfl)
theorem io48_0:InstOk Pg 48 nt48 ⟨pa48_0,Fn48_0 f48_0⟩:=inst_ok eo48_0 followsTry is48 ⟨⟨sh48,cm48_0,em48_0,gm48_0,fm48_0⟩⟩
abbrev nt8:Nat:=81
def sh8:SG:=[(11,iS 2),(13,iS 2),(16,iS 2),(20,iS 2),(27,iT),(30,iS 2),(36,iT),(40,iS 2),(46,iT),(48,iT),(51,iT),(53,iT),(57,iT),(59,iT),(62,iT),(64,iT),(72,iS 2),(77,iS 2),(78,iS 2)]
def tr8:TG:=[tT 0 [2,3,4],tT 1 [2,3,4,6,7],tT 2 [4,6,7,15],tT 3 [4,5],tT 4 [4,6,7,25],tT 5 [4,5],tT 6 [4,8],tT 7 [4,8,9],tT 8 [4,8,75],tT 9 [4,5],tT 10 [4,5]]
def tl8:TG:=[]
def ac8:ACode:=codeF Pg Tryz.f8 tr8 tl8
def rs8:List AResV:=resF Pg Tryz.f8
def p8_0_0:PT St:=pS [sP 2,sP 3,sP 4,sP 6,sP 7] [eBox 2 [xI,xI],eBox 3 [xI,xI],eBox 4 [xI,xI],eBox 6 [xI,xI],eBox 7 [xI,xI]]
def u8_0_0 {β:Type}(g:St->β):I10 β:=p8_0_0.unc g
def p8_0_1:PT St:=pS [sP 4,sP 6,sP 7,sY 15 dB] [eBox 4 [xI,xI],eBox 6 [xI,xI],eBox 7 [xI,xI]]
def u8_0_1 {β:Type}(g:St->β):Bool->I6 β:=p8_0_1.unc g
def p8_0_2:PT St:=pS [sP 4,sP 6,sP 7,sY 25 dB] [eBox 4 [xI,xI],eBox 6 [xI,xI],eBox 7 [xI,xI]]
def u8_0_2 {β:Type}(g:St->β):Bool->I6 β:=p8_0_2.unc g
def pr8_0_0:PT (List RV):=pRs [pR true [rD (dI .i64),rD (dI .i64)],wI]
def ur8_0_0 {β:Type}(g:List RV->β):Int->Int->Int->β:=pr8_0_0.unc g
def E8_0g (a:Tf18_0)(b:Tf24_0)(c:Tf22_0)(d:Tf25_0)(e:Tf26_0)(g:Tf20_0)(h:Tf23_0):EnvK:=EnvK.of [⟨18,nt18,[⟨pa18_0,Fn18_0 a⟩]⟩,⟨24,nt24,[⟨pa24_0,Fn24_0 b⟩]⟩,⟨22,nt22,[⟨pa22_0,Fn22_0 c⟩]⟩,⟨25,nt25,[⟨pa25_0,Fn25_0 d⟩]⟩,⟨26,nt26,[⟨pa26_0,Fn26_0 e⟩]⟩,⟨20,nt20,[⟨pa20_0,Fn20_0 g⟩]⟩,⟨23,nt23,[⟨pa23_0,Fn23_0 h⟩]⟩] noSeq
def E8_0:EnvK:=E8_0g f18_0 f24_0 f22_0 f25_0 f26_0 f20_0 f23_0
theorem eo8_0:E8_0.Ok Pg:=EnvK.of_ok noSeq_ok ⟨⟨io18_0,TT⟩,⟨io24_0,TT⟩,⟨io22_0,TT⟩,⟨io25_0,TT⟩,⟨io26_0,TT⟩,⟨io20_0,TT⟩,⟨io23_0,TT⟩,TT⟩
def c8_0_12g:MCode:=MCode.sub [1,1,0,0,1,1,0] (emb ac8)
def c8_0_12:MCode:=c8_0_12g
abbrev TJ8_0_1:Type 1:=(α:Type)->Int->Int->Int->Int->(Bool->Op α)->Op α
def J8_0_1g (a:Tf22_0)(α:Type)(b d c e:Int)(k1:Bool->Op α):Op α:=
 cK (decide (b<=0))
 (k1 true)
 (a α b d 100
 (fun g=>cK (!g)
 (k1 true)
 (cK (decide (c<=0))
 (k1 true)
 (a α c e 1000000000
 (fun h=>k1 (!h))))))
def J8_0_1 (α:Type)(a b c d:Int)(k1:Bool->Op α):Op α:=J8_0_1g f22_0 α a b c d k1
def F8_0_1 (v:TJ8_0_1)(α:Type)(K:KT α):Bool->I6 (Op α):=fun i e g a b c d=>v α a b c d (fun h=>u8_0_2 (K .normal) h e g a b c d)
theorem m8_0_1g (b:Tf18_0)(c:Tf24_0)(a:Tf22_0)(d:Tf25_0)(e:Tf26_0)(g:Tf20_0)(h:Tf23_0)(α:Type)(K:KT α):F8_0_1 (J8_0_1g a) α K=p8_0_1.unc fun σ=>runM Pg (E8_0g b c a d e g h) sh8 (c8_0_12g ) K σ:=by kernel_rfl
theorem m8_0_1:∀ (α:Type) (K:KT α),F8_0_1 J8_0_1 α K=p8_0_1.unc fun σ=>runM Pg E8_0 sh8 c8_0_12 K σ:=m8_0_1g f18_0 f24_0 f22_0 f25_0 f26_0 f20_0 f23_0
def c8_0_7g:MCode:=MCode.sub [1,1,0,0,0] (emb ac8)
def c8_0_7:MCode:=c8_0_7g
abbrev TJ8_0_0:Type 1:=(α:Type)->Int->Int->Int->Int->(Bool->Op α)->Op α
def J8_0_0g (a:Tf24_0)(α:Type)(b c d e:Int)(k1:Bool->Op α):Op α:=
 a α b c
 (fun g=>cK (!g)
 (k1 true)
 (a α d e
 (fun h=>k1 (!h))))
def J8_0_0 (α:Type)(a b c d:Int)(k1:Bool->Op α):Op α:=J8_0_0g f24_0 α a b c d k1
def F8_0_0 (v:TJ8_0_0)(α:Type)(K:KT α):I10 (Op α):=fun a b c d e g h i j l=>v α a b c d (fun m=>u8_0_1 (K .normal) m e g h i j l)
theorem m8_0_0g (b:Tf18_0)(a:Tf24_0)(c:Tf22_0)(d:Tf25_0)(e:Tf26_0)(g:Tf20_0)(h:Tf23_0)(α:Type)(K:KT α):F8_0_0 (J8_0_0g a) α K=p8_0_0.unc fun σ=>runM Pg (E8_0g b a c d e g h) sh8 (c8_0_7g ) K σ:=by kernel_rfl
theorem m8_0_0:∀ (α:Type) (K:KT α),F8_0_0 J8_0_0 α K=p8_0_0.unc fun σ=>runM Pg E8_0 sh8 c8_0_7 K σ:=m8_0_0g f18_0 f24_0 f22_0 f25_0 f26_0 f20_0 f23_0
abbrev Tf8_0:Type 1:=(α:Type)->Int->Int->Int->Int->(Int->Int->Int->Op α)->Op α
def f8_0g (i:TJ8_0_0)(j:TJ8_0_1)(h:Tf18_0)(l:Tf20_0)(m:Tf22_0)(o:Tf23_0)(p:Tf25_0)(q:Tf26_0)(α:Type)(a b c d:Int)(k1:Int->Int->Int->Op α):Op α:=
 h α
 (h α
 (i α a b c d
 (fun r=>cK r
 (k1 0 0 13)
 (j α a b c d
 (fun s=>cK s
 (k1 0 0 2)
 (p α (w64 ((w64 (a*d)) - (w64 (c*b)))) (w64 ((w64 (a*d))+(w64 (c*b))))
 (fun e g=>q α 1000000000
 (fun t B=>m α e g t
 (fun w=>cK (!w)
 (k1 0 0 8)
 (l α e g e g
 (fun z A=>o α
 (k1 z A 0))))))))))))
def f8_0 (α:Type)(a b c d:Int)(k1:Int->Int->Int->Op α):Op α:=f8_0g J8_0_0 J8_0_1 f18_0 f20_0 f22_0 f23_0 f25_0 f26_0 α a b c d k1
def pa8_0:PT (List DV):=pA [pV true [(dI .i64),(dI .i64)],pV true [(dI .i64),(dI .i64)]]
def Fn8_0 (v:Tf8_0)(α:Type)(k:RT α):I4 (Op α):=fun a b c d=>v α a b c d (fun e g h=>ur8_0_0 k e g h)
def cm8_0g (a:TJ8_0_0)(b:TJ8_0_1):MCode:=(MCode.put (.m [⟨p8_0_0,F8_0_0 a⟩]) [1,1,0,0] (MCode.put (.m [⟨p8_0_1,F8_0_1 b⟩]) [1,1,0,0,1,1] (emb ac8)))
def cm8_0:MCode:=cm8_0g J8_0_0 J8_0_1
theorem gm8_0:cm8_0.Good Pg E8_0 sh8:=(put_seq (by kernel_rfl) (put_seq (by kernel_rfl) (emb_good ac8) ⟨m8_0_1,TT⟩) ⟨m8_0_0,TT⟩)
theorem em8_0:cm8_0.erase=ac8:=((put_erase _ _).trans ((put_erase _ _).trans (emb_erase _)))
theorem fm8_0g (a:Tf18_0)(j:Tf24_0)(b:Tf22_0)(c:Tf25_0)(d:Tf26_0)(e:Tf20_0)(g:Tf23_0)(h:TJ8_0_0)(i:TJ8_0_1)(α:Type)(k:RT α):Fn8_0 (f8_0g h i a e b g c d) α k=pa8_0.unc fun ds=>fnM Pg (E8_0g a j b c d e g) sh8 (cm8_0g h i) rs8 k ds:=by kernel_rfl
theorem fm8_0:∀ (α:Type) (k:RT α),Fn8_0 f8_0 α k=pa8_0.unc fun ds=>fnM Pg E8_0 sh8 cm8_0 rs8 k ds:=fm8_0g f18_0 f24_0 f22_0 f25_0 f26_0 f20_0 f23_0 J8_0_0 J8_0_1
theorem is8:FnIs Pg 8 nt8 tr8 tl8 ac8 rs8:=codeF_is Tryz.func8 (by kernel_rfl)
theorem io8_0:InstOk Pg 8 nt8 ⟨pa8_0,Fn8_0 f8_0⟩:=inst_ok eo8_0 followsTry is8 ⟨⟨sh8,cm8_0,em8_0,gm8_0,fm8_0⟩⟩
abbrev nt17:Nat:=12
def sh17:SG:=[(4,iS 2),(10,iT)]
def tr17:TG:=[tT 0 [1],tT 1 [1,3],tT 2 [1,3,7],tT 3 [2],tT 4 [11],tT 5 [2],tT 6 [2]]
def tl17:TG:=[]
def ac17:ACode:=codeF Pg Tryz.f17 tr17 tl17
def rs17:List AResV:=resF Pg Tryz.f17
def pr17_0_0:PT (List RV):=pRs [wI]
def ur17_0_0 {β:Type}(g:List RV->β):Int->β:=pr17_0_0.unc g
def E17_0g (a:Tf43_0):EnvK:=EnvK.of [⟨43,nt43,[⟨pa43_0,Fn43_0 a⟩]⟩] noSeq
def E17_0:EnvK:=E17_0g f43_0
theorem eo17_0:E17_0.Ok Pg:=EnvK.of_ok noSeq_ok ⟨⟨io43_0,TT⟩,TT⟩
abbrev Tf17_0:Type 1:=(α:Type)->Int->Int->(Int->Op α)->Op α
def f17_0g (c:Tf43_0)(α:Type)(a d:Int)(k1:Int->Op α):Op α:=
 c α a d
 (fun b=>cK (b != 0)
 (k1 b)
 (cK (decide (a<=0))
 (k1 2)
 (k1 0)))
def f17_0 (α:Type)(a b:Int)(k1:Int->Op α):Op α:=f17_0g f43_0 α a b k1
def pa17_0:PT (List DV):=pA [pV true [(dI .i64),(dI .i64)]]
def Fn17_0 (v:Tf17_0)(α:Type)(k:RT α):Int->Int->Op α:=fun a b=>v α a b (fun c=>ur17_0_0 k c)
def cm17_0g:MCode:=(emb ac17)
def cm17_0:MCode:=cm17_0g
theorem gm17_0:cm17_0.Good Pg E17_0 sh17:=(emb_good ac17)
theorem em17_0:cm17_0.erase=ac17:=(emb_erase _)
theorem fm17_0g (a:Tf43_0)(α:Type)(k:RT α):Fn17_0 (f17_0g a) α k=pa17_0.unc fun ds=>fnM Pg (E17_0g a) sh17 (cm17_0g ) rs17 k ds:=by kernel_rfl
theorem fm17_0:∀ (α:Type) (k:RT α),Fn17_0 f17_0 α k=pa17_0.unc fun ds=>fnM Pg E17_0 sh17 cm17_0 rs17 k ds:=fm17_0g f43_0
theorem is17:FnIs Pg 17 nt17 tr17 tl17 ac17 rs17:=codeF_is Tryz.func17 (by kernel_rfl)
theorem io17_0:InstOk Pg 17 nt17 ⟨pa17_0,Fn17_0 f17_0⟩:=inst_ok eo17_0 followsTry is17 ⟨⟨sh17,cm17_0,em17_0,gm17_0,fm17_0⟩⟩
abbrev nt62:Nat:=17
def sh62:SG:=[(4,iS 2),(7,iT),(11,iS 2),(14,iT)]
def tr62:TG:=[tT 0 [1,2],tT 1 [2]]
def tl62:TG:=[]
def ac62:ACode:=codeF Pg Tryz.f62 tr62 tl62
def rs62:List AResV:=resF Pg Tryz.f62
def pr62_0_0:PT (List RV):=pRs [pR true [rD (dI .i64),rD (dI .i64)]]
def ur62_0_0 {β:Type}(g:List RV->β):Int->Int->β:=pr62_0_0.unc g
def E62_0g (a:Tf93_0)(b:Tf101_0):EnvK:=EnvK.of [⟨93,nt93,[⟨pa93_0,Fn93_0 a⟩]⟩,⟨101,nt101,[⟨pa101_0,Fn101_0 b⟩]⟩] noSeq
def E62_0:EnvK:=E62_0g f93_0 f101_0
theorem eo62_0:E62_0.Ok Pg:=EnvK.of_ok noSeq_ok ⟨⟨io93_0,TT⟩,⟨io101_0,TT⟩,TT⟩
abbrev Tf62_0:Type 1:=(α:Type)->Int->Int->Int->(Int->Int->Op α)->Op α
def f62_0g (e:Tf101_0)(g:Tf93_0)(α:Type)(b c a:Int)(k1:Int->Int->Op α):Op α:=
 g α b c
 (fun d=>e α b c
 (fun h=>k1 (if (w64 (d - a)) > 0 then (w64 (d - a)) else 0) (w64 (h+a))))
def f62_0 (α:Type)(a b c:Int)(k1:Int->Int->Op α):Op α:=f62_0g f101_0 f93_0 α a b c k1
def pa62_0:PT (List DV):=pA [pV true [(dI .i64),(dI .i64),(dI .i64)]]
def Fn62_0 (v:Tf62_0)(α:Type)(k:RT α):Int->Int->Int->Op α:=fun a b c=>v α a b c (fun d e=>ur62_0_0 k d e)
def cm62_0g:MCode:=(emb ac62)
def cm62_0:MCode:=cm62_0g
theorem gm62_0:cm62_0.Good Pg E62_0 sh62:=(emb_good ac62)
theorem em62_0:cm62_0.erase=ac62:=(emb_erase _)
theorem fm62_0g (a:Tf93_0)(b:Tf101_0)(α:Type)(k:RT α):Fn62_0 (f62_0g b a) α k=pa62_0.unc fun ds=>fnM Pg (E62_0g a b) sh62 (cm62_0g ) rs62 k ds:=by kernel_rfl
theorem fm62_0:∀ (α:Type) (k:RT α),Fn62_0 f62_0 α k=pa62_0.unc fun ds=>fnM Pg E62_0 sh62 cm62_0 rs62 k ds:=fm62_0g f93_0 f101_0
theorem is62:FnIs Pg 62 nt62 tr62 tl62 ac62 rs62:=codeF_is Tryz.func62 (by kernel_rfl)
theorem io62_0:InstOk Pg 62 nt62 ⟨pa62_0,Fn62_0 f62_0⟩:=inst_ok eo62_0 followsTry is62 ⟨⟨sh62,cm62_0,em62_0,gm62_0,fm62_0⟩⟩
abbrev nt149:Nat:=36
def sh149:SG:=[(30,iT),(32,iT)]
def tr149:TG:=[tT 0 [0,2],tT 1 [0,2],tT 2 [0,2,9],tT 3 [2],tT 4 [0,2,16],tT 5 [2],tT 6 [0,2,23],tT 7 [2,3],tT 8 [2],tT 9 [2]]
def tl149:TG:=[]
def ac149:ACode:=codeF Pg Tryz.f149 tr149 tl149
def rs149:List AResV:=resF Pg Tryz.f149
def pr149_2_0:PT (List RV):=pRs [pR true [rD (dI .i64),rD (dI .i64)]]
def ur149_2_0 {β:Type}(g:List RV->β):Int->Int->β:=pr149_2_0.unc g
def E149_2g (a:Tf63_0)(b:Tf154_0):EnvK:=EnvK.of [⟨63,nt63,[⟨pa63_0,Fn63_0 a⟩]⟩,⟨154,nt154,[⟨pa154_0,Fn154_0 b⟩]⟩] noSeq
def E149_2:EnvK:=E149_2g f63_0 f154_0
theorem eo149_2:E149_2.Ok Pg:=EnvK.of_ok noSeq_ok ⟨⟨io63_0,TT⟩,⟨io154_0,TT⟩,TT⟩
abbrev Tf149_2:Type 1:=(α:Type)->Int->(Int->Int->Op α)->Op α
def f149_2g (c:Tf154_0)(d:Tf63_0)(α:Type)(a:Int)(k1:Int->Int->Op α):Op α:=
 d α a 4194304
 (fun b=>cK (decide (2097152<=(w64 (a - (w64 (4194304*b))))))
 (none)
 (cK (decide (1048576<=(w64 (a - (w64 (4194304*b))))))
 (none)
 (cK (decide (524288 < (w64 (a - (w64 (4194304*b))))))
 (c α (w64 (1048576 - (w64 (a - (w64 (4194304*b))))))
 (fun e g=>k1 g e))
 (c α (w64 (a - (w64 (4194304*b))))
 (fun h i=>k1 h i)))))
def f149_2 (α:Type)(a:Int)(k1:Int->Int->Op α):Op α:=f149_2g f154_0 f63_0 α a k1
def pa149_2:PT (List DV):=pA [vI]
def Fn149_2 (v:Tf149_2)(α:Type)(k:RT α):Int->Op α:=fun a=>v α a (fun b c=>ur149_2_0 k b c)
def cm149_2g:MCode:=(emb ac149)
def cm149_2:MCode:=cm149_2g
theorem gm149_2:cm149_2.Good Pg E149_2 sh149:=(emb_good ac149)
theorem em149_2:cm149_2.erase=ac149:=(emb_erase _)
theorem fm149_2g (a:Tf63_0)(b:Tf154_0)(α:Type)(k:RT α):Fn149_2 (f149_2g b a) α k=pa149_2.unc fun ds=>fnM Pg (E149_2g a b) sh149 (cm149_2g ) rs149 k ds:=by kernel_rfl
theorem fm149_2:∀ (α:Type) (k:RT α),Fn149_2 f149_2 α k=pa149_2.unc fun ds=>fnM Pg E149_2 sh149 cm149_2 rs149 k ds:=fm149_2g f63_0 f154_0
theorem is149:FnIs Pg 149 nt149 tr149 tl149 ac149 rs149:=codeF_is Tryz.func149 (by kernel_rfl)
theorem io149_2:InstOk Pg 149 nt149 ⟨pa149_2,Fn149_2 f149_2⟩:=inst_ok eo149_2 followsTry is149 ⟨⟨sh149,cm149_2,em149_2,gm149_2,fm149_2⟩⟩
def pr149_1_0:PT (List RV):=pRs [pR true [rD (dI .i64),rD (dI .i64)]]
def ur149_1_0 {β:Type}(g:List RV->β):Int->Int->β:=pr149_1_0.unc g
def E149_1g (a:Tf63_0)(b:Tf149_2)(c:Tf126_0)(d:Tf154_0):EnvK:=EnvK.of [⟨63,nt63,[⟨pa63_0,Fn63_0 a⟩]⟩,⟨149,nt149,[⟨pa149_2,Fn149_2 b⟩]⟩,⟨126,nt126,[⟨pa126_0,Fn126_0 c⟩]⟩,⟨154,nt154,[⟨pa154_0,Fn154_0 d⟩]⟩] noSeq
def E149_1:EnvK:=E149_1g f63_0 f149_2 f126_0 f154_0
theorem eo149_1:E149_1.Ok Pg:=EnvK.of_ok noSeq_ok ⟨⟨io63_0,TT⟩,⟨io149_2,TT⟩,⟨io126_0,TT⟩,⟨io154_0,TT⟩,TT⟩
abbrev Tf149_1:Type 1:=(α:Type)->Int->(Int->Int->Op α)->Op α
def f149_1g (c:Tf126_0)(d:Tf149_2)(e:Tf154_0)(g:Tf63_0)(α:Type)(a:Int)(k1:Int->Int->Op α):Op α:=
 g α a 4194304
 (fun b=>cK (decide (2097152<=(w64 (a - (w64 (4194304*b))))))
 (d α (w64 ((w64 (a - (w64 (4194304*b)))) - 2097152))
 (fun h i=>c α h i 2
 (fun j l=>k1 j l)))
 (cK (decide (1048576<=(w64 (a - (w64 (4194304*b))))))
 (d α (w64 ((w64 (a - (w64 (4194304*b)))) - 1048576))
 (fun m o=>c α m o 1
 (fun p q=>k1 p q)))
 (cK (decide (524288 < (w64 (a - (w64 (4194304*b))))))
 (e α (w64 (1048576 - (w64 (a - (w64 (4194304*b))))))
 (fun r s=>k1 s r))
 (e α (w64 (a - (w64 (4194304*b))))
 (fun t w=>k1 t w)))))
def f149_1 (α:Type)(a:Int)(k1:Int->Int->Op α):Op α:=f149_1g f126_0 f149_2 f154_0 f63_0 α a k1
def pa149_1:PT (List DV):=pA [vI]
def Fn149_1 (v:Tf149_1)(α:Type)(k:RT α):Int->Op α:=fun a=>v α a (fun b c=>ur149_1_0 k b c)
def cm149_1g:MCode:=(emb ac149)
def cm149_1:MCode:=cm149_1g
theorem gm149_1:cm149_1.Good Pg E149_1 sh149:=(emb_good ac149)
theorem em149_1:cm149_1.erase=ac149:=(emb_erase _)
theorem fm149_1g (a:Tf63_0)(b:Tf149_2)(c:Tf126_0)(d:Tf154_0)(α:Type)(k:RT α):Fn149_1 (f149_1g c b d a) α k=pa149_1.unc fun ds=>fnM Pg (E149_1g a b c d) sh149 (cm149_1g ) rs149 k ds:=by kernel_rfl
theorem fm149_1:∀ (α:Type) (k:RT α),Fn149_1 f149_1 α k=pa149_1.unc fun ds=>fnM Pg E149_1 sh149 cm149_1 rs149 k ds:=fm149_1g f63_0 f149_2 f126_0 f154_0
theorem io149_1:InstOk Pg 149 nt149 ⟨pa149_1,Fn149_1 f149_1⟩:=inst_ok eo149_1 followsTry is149 ⟨⟨sh149,cm149_1,em149_1,gm149_1,fm149_1⟩⟩
def pr149_0_0:PT (List RV):=pRs [pR true [rD (dI .i64),rD (dI .i64)]]
def ur149_0_0 {β:Type}(g:List RV->β):Int->Int->β:=pr149_0_0.unc g
def E149_0g (a:Tf63_0)(b:Tf149_1)(c:Tf126_0)(d:Tf154_0):EnvK:=EnvK.of [⟨63,nt63,[⟨pa63_0,Fn63_0 a⟩]⟩,⟨149,nt149,[⟨pa149_1,Fn149_1 b⟩]⟩,⟨126,nt126,[⟨pa126_0,Fn126_0 c⟩]⟩,⟨154,nt154,[⟨pa154_0,Fn154_0 d⟩]⟩] noSeq
def E149_0:EnvK:=E149_0g f63_0 f149_1 f126_0 f154_0
theorem eo149_0:E149_0.Ok Pg:=EnvK.of_ok noSeq_ok ⟨⟨io63_0,TT⟩,⟨io149_1,TT⟩,⟨io126_0,TT⟩,⟨io154_0,TT⟩,TT⟩
abbrev Tf149_0:Type 1:=(α:Type)->Int->(Int->Int->Op α)->Op α
def f149_0g (c:Tf126_0)(d:Tf149_1)(e:Tf154_0)(g:Tf63_0)(α:Type)(a:Int)(k1:Int->Int->Op α):Op α:=
 g α a 4194304
 (fun b=>cK (decide (2097152<=(w64 (a - (w64 (4194304*b))))))
 (d α (w64 ((w64 (a - (w64 (4194304*b)))) - 2097152))
 (fun h i=>c α h i 2
 (fun j l=>k1 j l)))
 (cK (decide (1048576<=(w64 (a - (w64 (4194304*b))))))
 (d α (w64 ((w64 (a - (w64 (4194304*b)))) - 1048576))
 (fun m o=>c α m o 1
 (fun p q=>k1 p q)))
 (cK (decide (524288 < (w64 (a - (w64 (4194304*b))))))
 (e α (w64 (1048576 - (w64 (a - (w64 (4194304*b))))))
 (fun r s=>k1 s r))
 (e α (w64 (a - (w64 (4194304*b))))
 (fun t w=>k1 t w)))))
def f149_0 (α:Type)(a:Int)(k1:Int->Int->Op α):Op α:=f149_0g f126_0 f149_1 f154_0 f63_0 α a k1
def pa149_0:PT (List DV):=pA [vI]
def Fn149_0 (v:Tf149_0)(α:Type)(k:RT α):Int->Op α:=fun a=>v α a (fun b c=>ur149_0_0 k b c)
def cm149_0g:MCode:=(emb ac149)
def cm149_0:MCode:=cm149_0g
theorem gm149_0:cm149_0.Good Pg E149_0 sh149:=(emb_good ac149)
theorem em149_0:cm149_0.erase=ac149:=(emb_erase _)
theorem fm149_0g (a:Tf63_0)(b:Tf149_1)(c:Tf126_0)(d:Tf154_0)(α:Type)(k:RT α):Fn149_0 (f149_0g c b d a) α k=pa149_0.unc fun ds=>fnM Pg (E149_0g a b c d) sh149 (cm149_0g ) rs149 k ds:=by kernel_rfl
theorem fm149_0:∀ (α:Type) (k:RT α),Fn149_0 f149_0 α k=pa149_0.unc fun ds=>fnM Pg E149_0 sh149 cm149_0 rs149 k ds:=fm149_0g f63_0 f149_1 f126_0 f154_0
theorem io149_0:InstOk Pg 149 nt149 ⟨pa149_0,Fn149_0 f149_0⟩:=inst_ok eo149_0 followsTry is149 ⟨⟨sh149,cm149_0,em149_0,gm149_0,fm149_0⟩⟩
abbrev nt118:Nat:=76
def sh118:SG:=[(14,iS 2),(18,iT),(20,iS 3),(22,iS 2),(24,iS 2),(29,iT),(31,iS 2),(38,iT),(40,iS 2),(46,iT),(48,iS 2),(52,iS 2),(55,iT),(60,iT)]
def tr118:TG:=[tT 0 [2,3,4],tT 1 [2,3,4,6],tT 2 [2,3,4,6,19],tT 3 [4,5],tT 4 [2,3,4,6,7],tT 5 [2,3,4,6,7,8,9],tT 6 [2,3,4,6,8,9,10,11],tT 7 [4,8,9,10,11,12],tT 8 [4,5]]
def tl118:TG:=[]
def ac118:ACode:=codeF Pg Tryz.f118 tr118 tl118
def rs118:List AResV:=resF Pg Tryz.f118
def pr118_0_0:PT (List RV):=pRs [pR true [rD (dI .i64),rD (dI .i64),rD (dI .i64)],wI]
def ur118_0_0 {β:Type}(g:List RV->β):I4 β:=pr118_0_0.unc g
def E118_0g (a:Tf93_0)(b:Tf119_0)(c:Tf115_0)(d:Tf120_0)(e:Tf97_0)(g:Tf101_0)(h:Tf121_0)(i:Tf117_0):EnvK:=EnvK.of [⟨93,nt93,[⟨pa93_0,Fn93_0 a⟩]⟩,⟨119,nt119,[⟨pa119_0,Fn119_0 b⟩]⟩,⟨115,nt115,[⟨pa115_0,Fn115_0 c⟩]⟩,⟨120,nt120,[⟨pa120_0,Fn120_0 d⟩]⟩,⟨97,nt97,[⟨pa97_0,Fn97_0 e⟩]⟩,⟨101,nt101,[⟨pa101_0,Fn101_0 g⟩]⟩,⟨121,nt121,[⟨pa121_0,Fn121_0 h⟩]⟩,⟨117,nt117,[⟨pa117_0,Fn117_0 i⟩]⟩] noSeq
def E118_0:EnvK:=E118_0g f93_0 f119_0 f115_0 f120_0 f97_0 f101_0 f121_0 f117_0
theorem eo118_0:E118_0.Ok Pg:=EnvK.of_ok noSeq_ok ⟨⟨io93_0,TT⟩,⟨io119_0,TT⟩,⟨io115_0,TT⟩,⟨io120_0,TT⟩,⟨io97_0,TT⟩,⟨io101_0,TT⟩,⟨io121_0,TT⟩,⟨io117_0,TT⟩,TT⟩
abbrev Tf118_0:Type 1:=(α:Type)->Int->Int->Int->Int->Int->Int->(I4 (Op α))->Op α
def f118_0g (h:Tf101_0)(r:Tf115_0)(i:Tf117_0)(s:Tf119_0)(j:Tf120_0)(t:Tf121_0)(w:Tf93_0)(l:Tf97_0)(α:Type)(c d m a b e:Int)(k1:I4 (Op α)):Op α:=
 w α a b
 (fun g=>cK (decide (g<=e))
 (k1 c d m 9)
 (s α b
 (fun z=>r α c d a z
 (fun A B=>j α a b
 (fun C=>l α A 1048576 C
 (fun o D=>j α a b
 (fun F=>l α B 1048576 F
 (fun p G=>h α a b
 (fun H=>h α c d
 (fun I=>t α (w64 ((w64 (m*H))+(w64 (I*e)))) 1048576 (w64 ((w64 (g - e))*g))
 (fun q=>cK D
 (i α true
 (fun J=>k1 o p (w64 (q+J)) 0))
 (i α G
 (fun L=>k1 o p (w64 (q+L)) 0)))))))))))))
def f118_0 (α:Type)(a b c d e g:Int)(k1:I4 (Op α)):Op α:=f118_0g f101_0 f115_0 f117_0 f119_0 f120_0 f121_0 f93_0 f97_0 α a b c d e g k1
def pa118_0:PT (List DV):=pA [pV true [(dI .i64),(dI .i64),(dI .i64)],pV true [(dI .i64),(dI .i64),(dI .i64)]]
def Fn118_0 (v:Tf118_0)(α:Type)(k:RT α):I6 (Op α):=fun a b c d e g=>v α a b c d e g (fun h i j l=>ur118_0_0 k h i j l)
def cm118_0g:MCode:=(emb ac118)
def cm118_0:MCode:=cm118_0g
theorem gm118_0:cm118_0.Good Pg E118_0 sh118:=(emb_good ac118)
theorem em118_0:cm118_0.erase=ac118:=(emb_erase _)
theorem fm118_0g (a:Tf93_0)(b:Tf119_0)(c:Tf115_0)(d:Tf120_0)(e:Tf97_0)(g:Tf101_0)(h:Tf121_0)(i:Tf117_0)(α:Type)(k:RT α):Fn118_0 (f118_0g g c i b d h a e) α k=pa118_0.unc fun ds=>fnM Pg (E118_0g a b c d e g h i) sh118 (cm118_0g ) rs118 k ds:=by kernel_rfl
theorem fm118_0:∀ (α:Type) (k:RT α),Fn118_0 f118_0 α k=pa118_0.unc fun ds=>fnM Pg E118_0 sh118 cm118_0 rs118 k ds:=fm118_0g f93_0 f119_0 f115_0 f120_0 f97_0 f101_0 f121_0 f117_0
theorem is118:FnIs Pg 118 nt118 tr118 tl118 ac118 rs118:=codeF_is Tryz.func118 (by kernel_rfl)
theorem io118_0:InstOk Pg 118 nt118 ⟨pa118_0,Fn118_0 f118_0⟩:=inst_ok eo118_0 followsTry is118 ⟨⟨sh118,cm118_0,em118_0,gm118_0,fm118_0⟩⟩
abbrev nt92:Nat:=94
def sh92:SG:=[(10,iS 2),(15,iT),(17,iS 3),(21,iT),(26,iT),(28,iT),(33,iT),(36,iS 3),(40,iT),(48,iT),(59,iT),(64,iT),(76,iT),(81,iS 2),(83,iT)]
def tr92:TG:=[tT 0 [1,2],tT 1 [1,2,4],tT 2 [1,2,4,12],tT 3 [2,3],tT 4 [1,2,4,18],tT 5 [2,3],tT 6 [1,2,4,5],tT 7 [1,2,4,5,6],tT 8 [1,2,4,5,8],tT 9 [1,2,4,5,8,60],tT 10 [1,2,4,5,6,8],tT 11 [1,2,4,5,8],tT 12 [1,2,4,5,8,77],tT 13 [1,2,4,5,8],tT 14 [2,3]]
def tl92:TG:=[]
def ac92:ACode:=codeF Pg Tryz.f92 tr92 tl92
def rs92:List AResV:=resF Pg Tryz.f92
def p92_0_0:PT St:=pS [sP 1,sP 2,sI 4,sY 12 dB] [eBox 1 (xs 3),eBox 2 (xs 3)]
def u92_0_0 {β:Type}(g:St->β):Int->Bool->I6 β:=p92_0_0.unc g
def p92_0_1:PT St:=pS [sP 1,sP 2,sI 4,sY 18 dB] [eBox 1 (xs 3),eBox 2 (xs 3)]
def u92_0_1 {β:Type}(g:St->β):Int->Bool->I6 β:=p92_0_1.unc g
def p92_0_2:PT St:=pS [sP 1,sP 2,sI 4,sI 5,sP 8] [eBox 1 (xs 3),eBox 2 (xs 3),eBox 8 [xI,xI]]
def u92_0_2 {β:Type}(g:St->β):I10 β:=p92_0_2.unc g
def p92_0_3:PT St:=pS [sP 1,sP 2,sI 4,sI 5,sP 8,sY 77 dB] [eBox 1 (xs 3),eBox 2 (xs 3),eBox 8 [xI,xI]]
def u92_0_3 {β:Type}(g:St->β):Int->Int->Bool->I8 β:=p92_0_3.unc g
def p92_0_4:PT St:=pS [sP 1,sP 2,sI 4,sI 5,sP 8,sY 60 dB] [eBox 1 (xs 3),eBox 2 (xs 3),eBox 8 [xI,xI]]
def u92_0_4 {β:Type}(g:St->β):Int->Int->Bool->I8 β:=p92_0_4.unc g
def pr92_0_0:PT (List RV):=pRs [pR true [rD (dI .i64),rD (dI .i64),rD (dI .i64)],wI]
def ur92_0_0 {β:Type}(g:List RV->β):I4 β:=pr92_0_0.unc g
def E92_0g (a:Tf93_0)(b:Tf94_0)(c:Tf96_0)(d:Tf95_0)(e:Tf97_0)(g:Tf64_0):EnvK:=EnvK.of [⟨93,nt93,[⟨pa93_0,Fn93_0 a⟩]⟩,⟨94,nt94,[⟨pa94_0,Fn94_0 b⟩]⟩,⟨96,nt96,[⟨pa96_0,Fn96_0 c⟩]⟩,⟨95,nt95,[⟨pa95_0,Fn95_0 d⟩]⟩,⟨97,nt97,[⟨pa97_0,Fn97_0 e⟩]⟩,⟨64,nt64,[⟨pa64_0,Fn64_0 g⟩]⟩] noSeq
def E92_0:EnvK:=E92_0g f93_0 f94_0 f96_0 f95_0 f97_0 f64_0
theorem eo92_0:E92_0.Ok Pg:=EnvK.of_ok noSeq_ok ⟨⟨io93_0,TT⟩,⟨io94_0,TT⟩,⟨io96_0,TT⟩,⟨io95_0,TT⟩,⟨io97_0,TT⟩,⟨io64_0,TT⟩,TT⟩
def c92_0_23g:MCode:=MCode.sub [1,1,1,1,1,1,0] (emb ac92)
def c92_0_23:MCode:=c92_0_23g
abbrev TJ92_0_1:Type 1:=(α:Type)->Int->Int->Int->(Int->Int->Op α)->(Bool->Int->Op α)->(Bool->Op α)->Op α
def J92_0_1g (e:Tf96_0)(g:Tf97_0)(α:Type)(b c a:Int)(k1:Int->Int->Op α)(k2:Bool->Int->Op α)(k3:Bool->Op α):Op α:=
 cK (decide (c < 0))
 (e α a
 (fun h=>g α h 1048576 (w64 (2*b))
 (fun d i=>cK (decide (a < 0))
 (k1 d (w64 (0 - b)))
 (k2 (decide (a < 0)) d))))
 (k3 (decide (c < 0)))
def J92_0_1 (α:Type)(a b c:Int)(k1:Int->Int->Op α)(k2:Bool->Int->Op α)(k3:Bool->Op α):Op α:=J92_0_1g f96_0 f97_0 α a b c k1 k2 k3
def F92_0_1 (v:TJ92_0_1)(α:Type)(K:KT α):I10 (Op α):=fun e a c d g h i j m o=>v α a c d (fun b l=>u92_0_2 (K .normal) e a c d g h i j b l) (fun b l=>u92_0_3 (K .normal) e a b c d g h i j l a) (fun b=>u92_0_4 (K .normal) e a b c d g h i j m o)
theorem m92_0_1g (c:Tf93_0)(d:Tf94_0)(a:Tf96_0)(e:Tf95_0)(b:Tf97_0)(g:Tf64_0)(α:Type)(K:KT α):F92_0_1 (J92_0_1g a b) α K=p92_0_2.unc fun σ=>runM Pg (E92_0g c d a e b g) sh92 (c92_0_23g ) K σ:=by kernel_rfl
theorem m92_0_1:∀ (α:Type) (K:KT α),F92_0_1 J92_0_1 α K=p92_0_2.unc fun σ=>runM Pg E92_0 sh92 c92_0_23 K σ:=m92_0_1g f93_0 f94_0 f96_0 f95_0 f97_0 f64_0
def c92_0_12g:MCode:=MCode.sub [1,1,0,0,1,1,0] (emb ac92)
def c92_0_12:MCode:=c92_0_12g
abbrev TJ92_0_0:Type 1:=(α:Type)->Int->Int->Int->(Bool->Op α)->Op α
def J92_0_0g (b:Tf94_0)(α:Type)(c d a:Int)(k1:Bool->Op α):Op α:=
 cK (decide (c < 0))
 (b α d a
 (fun e=>cK e
 (k1 (a != 0))
 (k1 false)))
 (k1 false)
def J92_0_0 (α:Type)(a b c:Int)(k1:Bool->Op α):Op α:=J92_0_0g f94_0 α a b c k1
def F92_0_0 (v:TJ92_0_0)(α:Type)(K:KT α):Int->Bool->I6 (Op α):=fun d j a b c e g h=>v α a b c (fun i=>u92_0_1 (K .normal) d i a b c e g h)
theorem m92_0_0g (b:Tf93_0)(a:Tf94_0)(c:Tf96_0)(d:Tf95_0)(e:Tf97_0)(g:Tf64_0)(α:Type)(K:KT α):F92_0_0 (J92_0_0g a) α K=p92_0_0.unc fun σ=>runM Pg (E92_0g b a c d e g) sh92 (c92_0_12g ) K σ:=by kernel_rfl
theorem m92_0_0:∀ (α:Type) (K:KT α),F92_0_0 J92_0_0 α K=p92_0_0.unc fun σ=>runM Pg E92_0 sh92 c92_0_12 K σ:=m92_0_0g f93_0 f94_0 f96_0 f95_0 f97_0 f64_0
abbrev Tf92_0:Type 1:=(α:Type)->Int->Int->Int->(I4 (Op α))->Op α
def f92_0g (i:TJ92_0_0)(j:TJ92_0_1)(c:Tf64_0)(l:Tf93_0)(h:Tf95_0)(m:Tf96_0)(o:Tf97_0)(α:Type)(d e a:Int)(k1:I4 (Op α)):Op α:=
 l α d e
 (fun g=>cK (decide (g<=a))
 (k1 d e a 9)
 (i α d e a
 (fun p=>cK p
 (k1 d e a 14)
 (m α d
 (fun q=>h α (w64 ((w64 (g+q))*524288))
 (fun b=>o α e 1048576 (w64 (2*b))
 (fun r J=>j α b d e
 (fun s t=>h α (w64 (g*1048576))
 (fun w=>c α (w64 (a*1048576)) w
 (fun z=>c α 1048576 b
 (fun A=>k1 s t (w64 ((w64 (z+3))+A)) 0))))
 (fun L B=>h α (w64 (g*1048576))
 (fun C=>c α (w64 (a*1048576)) C
 (fun D=>c α 1048576 b
 (fun F=>k1 B b (w64 ((w64 (D+3))+F)) 0))))
 (fun M=>h α (w64 (g*1048576))
 (fun G=>c α (w64 (a*1048576)) G
 (fun H=>c α 1048576 b
 (fun I=>k1 b r (w64 ((w64 (H+3))+I)) 0)))))))))))
def f92_0 (α:Type)(a b c:Int)(k1:I4 (Op α)):Op α:=f92_0g J92_0_0 J92_0_1 f64_0 f93_0 f95_0 f96_0 f97_0 α a b c k1
def pa92_0:PT (List DV):=pA [pV true [(dI .i64),(dI .i64),(dI .i64)]]
def Fn92_0 (v:Tf92_0)(α:Type)(k:RT α):Int->Int->Int->Op α:=fun a b c=>v α a b c (fun d e g h=>ur92_0_0 k d e g h)
def cm92_0g (a:TJ92_0_0)(b:TJ92_0_1):MCode:=(MCode.put (.m [⟨p92_0_0,F92_0_0 a⟩]) [1,1,0,0,1,1] (MCode.put (.m [⟨p92_0_2,F92_0_1 b⟩]) [1,1,1,1,1,1] (emb ac92)))
def cm92_0:MCode:=cm92_0g J92_0_0 J92_0_1
theorem gm92_0:cm92_0.Good Pg E92_0 sh92:=(put_seq (by kernel_rfl) (put_seq (by kernel_rfl) (emb_good ac92) ⟨m92_0_1,TT⟩) ⟨m92_0_0,TT⟩)
theorem em92_0:cm92_0.erase=ac92:=((put_erase _ _).trans ((put_erase _ _).trans (emb_erase _)))
theorem fm92_0g (a:Tf93_0)(i:Tf94_0)(b:Tf96_0)(c:Tf95_0)(d:Tf97_0)(e:Tf64_0)(g:TJ92_0_0)(h:TJ92_0_1)(α:Type)(k:RT α):Fn92_0 (f92_0g g h e a c b d) α k=pa92_0.unc fun ds=>fnM Pg (E92_0g a i b c d e) sh92 (cm92_0g g h) rs92 k ds:=by kernel_rfl
theorem fm92_0:∀ (α:Type) (k:RT α),Fn92_0 f92_0 α k=pa92_0.unc fun ds=>fnM Pg E92_0 sh92 cm92_0 rs92 k ds:=fm92_0g f93_0 f94_0 f96_0 f95_0 f97_0 f64_0 J92_0_0 J92_0_1
theorem is92:FnIs Pg 92 nt92 tr92 tl92 ac92 rs92:=codeF_is Tryz.func92 (by kernel_rfl)
theorem io92_0:InstOk Pg 92 nt92 ⟨pa92_0,Fn92_0 f92_0⟩:=inst_ok eo92_0 followsTry is92 ⟨⟨sh92,cm92_0,em92_0,gm92_0,fm92_0⟩⟩
abbrev nt114:Nat:=58
def sh114:SG:=[(12,iS 2),(14,iS 2),(18,iT),(24,iT),(32,iS 2),(35,iT),(38,iS 2),(41,iT),(45,iT),(47,iT)]
def tr114:TG:=[tT 0 [2,3,4],tT 1 [2,3,4,6],tT 2 [2,3,4,6,7,8],tT 3 [2,3,4,7,8,9,10],tT 4 [4,5]]
def tl114:TG:=[]
def ac114:ACode:=codeF Pg Tryz.f114 tr114 tl114
def rs114:List AResV:=resF Pg Tryz.f114
def pr114_0_0:PT (List RV):=pRs [pR true [rD (dI .i64),rD (dI .i64),rD (dI .i64)],wI]
def ur114_0_0 {β:Type}(g:List RV->β):I4 β:=pr114_0_0.unc g
def E114_0g (a:Tf115_0)(b:Tf116_0)(c:Tf101_0)(d:Tf64_0)(e:Tf117_0):EnvK:=EnvK.of [⟨115,nt115,[⟨pa115_0,Fn115_0 a⟩]⟩,⟨116,nt116,[⟨pa116_0,Fn116_0 b⟩]⟩,⟨101,nt101,[⟨pa101_0,Fn101_0 c⟩]⟩,⟨64,nt64,[⟨pa64_0,Fn64_0 d⟩]⟩,⟨117,nt117,[⟨pa117_0,Fn117_0 e⟩]⟩] noSeq
def E114_0:EnvK:=E114_0g f115_0 f116_0 f101_0 f64_0 f117_0
theorem eo114_0:E114_0.Ok Pg:=EnvK.of_ok noSeq_ok ⟨⟨io115_0,TT⟩,⟨io116_0,TT⟩,⟨io101_0,TT⟩,⟨io64_0,TT⟩,⟨io117_0,TT⟩,TT⟩
abbrev Tf114_0:Type 1:=(α:Type)->Int->Int->Int->Int->Int->Int->(Int->Int->Int->Op α)->Op α
def f114_0g (a:Tf101_0)(p:Tf115_0)(b:Tf116_0)(c:Tf117_0)(q:Tf64_0)(α:Type)(d e g h i j:Int)(k1:Int->Int->Int->Op α):Op α:=
 p α d e h i
 (fun r s=>b α r 1048576
 (fun l t=>b α s 1048576
 (fun m w=>a α d e
 (fun z=>a α h i
 (fun A=>q α (w64 ((w64 ((w64 (z*j))+(w64 (A*g))))+(w64 (g*j)))) 1048576
 (fun o=>cK t
 (c α true
 (fun B=>k1 l m (w64 (o+B))))
 (c α w
 (fun C=>k1 l m (w64 (o+C))))))))))
def f114_0 (α:Type)(a b c d e g:Int)(k1:Int->Int->Int->Op α):Op α:=f114_0g f101_0 f115_0 f116_0 f117_0 f64_0 α a b c d e g k1
def pa114_0:PT (List DV):=pA [pV true [(dI .i64),(dI .i64),(dI .i64)],pV true [(dI .i64),(dI .i64),(dI .i64)]]
def Fn114_0 (v:Tf114_0)(α:Type)(k:RT α):I6 (Op α):=fun a b c d e g=>v α a b c d e g (fun h i j=>ur114_0_0 k h i j 0)
def cm114_0g:MCode:=(emb ac114)
def cm114_0:MCode:=cm114_0g
theorem gm114_0:cm114_0.Good Pg E114_0 sh114:=(emb_good ac114)
theorem em114_0:cm114_0.erase=ac114:=(emb_erase _)
theorem fm114_0g (a:Tf115_0)(b:Tf116_0)(c:Tf101_0)(d:Tf64_0)(e:Tf117_0)(α:Type)(k:RT α):Fn114_0 (f114_0g c a b e d) α k=pa114_0.unc fun ds=>fnM Pg (E114_0g a b c d e) sh114 (cm114_0g ) rs114 k ds:=by kernel_rfl
theorem fm114_0:∀ (α:Type) (k:RT α),Fn114_0 f114_0 α k=pa114_0.unc fun ds=>fnM Pg E114_0 sh114 cm114_0 rs114 k ds:=fm114_0g f115_0 f116_0 f101_0 f64_0 f117_0
theorem is114:FnIs Pg 114 nt114 tr114 tl114 ac114 rs114:=codeF_is Tryz.func114 (by kernel_rfl)
theorem io114_0:InstOk Pg 114 nt114 ⟨pa114_0,Fn114_0 f114_0⟩:=inst_ok eo114_0 followsTry is114 ⟨⟨sh114,cm114_0,em114_0,gm114_0,fm114_0⟩⟩
abbrev nt61:Nat:=25
def sh61:SG:=[(8,[.cpx .f64]),(16,iT),(20,iS 2),(22,iT)]
def tr61:TG:=[tT 0 [1,2],tT 1 [1,2,4,5],tT 2 [1,2,4,5,19],tT 3 [1,2,4,5],tT 4 [2,3]]
def tl61:TG:=[]
def ac61:ACode:=codeF Pg Tryz.f61 tr61 tl61
def rs61:List AResV:=resF Pg Tryz.f61
def p61_0_0:PT St:=pS [sP 1,sP 2,sP 4,sI 5] [eBox 1 [(cD (dX .f64)),xI],eBox 2 (xs 3),eBox 4 [xI,xI]]
def u61_0_0 {β:Type}(g:St->β):Int->Nat->Nat->I6 β:=p61_0_0.unc g
def p61_0_1:PT St:=pS [sP 1,sP 2,sP 4,sI 5,sY 19 dB] [eBox 1 [(cD (dX .f64)),xI],eBox 2 (xs 3),eBox 4 [xI,xI]]
def u61_0_1 {β:Type}(g:St->β):Int->Bool->Nat->Nat->I6 β:=p61_0_1.unc g
def pr61_0_0:PT (List RV):=pRs [pR true [rD (dI .i64),rD (dI .i64),rD (dI .i64)],wI]
def ur61_0_0 {β:Type}(g:List RV->β):I4 β:=pr61_0_0.unc g
def E61_0g (a:Tf99_0)(b:Tf100_0):EnvK:=EnvK.of [⟨99,nt99,[⟨pa99_0,Fn99_0 a⟩]⟩,⟨100,nt100,[⟨pa100_0,Fn100_0 b⟩]⟩] noSeq
def E61_0:EnvK:=E61_0g f99_0 f100_0
theorem eo61_0:E61_0.Ok Pg:=EnvK.of_ok noSeq_ok ⟨⟨io99_0,TT⟩,⟨io100_0,TT⟩,TT⟩
def c61_0_5g:MCode:=MCode.sub [1,1,0] (emb ac61)
def c61_0_5:MCode:=c61_0_5g
abbrev TJ61_0_0:Type 1:=(α:Type)->Int->Int->(Op α)->(Bool->Op α)->Op α
def J61_0_0g (b:Tf100_0)(α:Type)(c d:Int)(k1:Op α)(k2:Bool->Op α):Op α:=
 cK (c == 0)
 (b α d 0 67108864
 (fun a=>cK (!a)
 (k1)
 (k2 (!a))))
 (k2 false)
def J61_0_0 (α:Type)(a b:Int)(k1:Op α)(k2:Bool->Op α):Op α:=J61_0_0g f100_0 α a b k1 k2
def F61_0_0 (v:TJ61_0_0)(α:Type)(K:KT α):Int->Nat->Nat->I6 (Op α):=fun b c d a e g h i j=>v α b a (u61_0_0 (K .normal) 2 c d a e g h i j) (fun l=>u61_0_1 (K .normal) b l c d a e g h i j)
theorem m61_0_0g (b:Tf99_0)(a:Tf100_0)(α:Type)(K:KT α):F61_0_0 (J61_0_0g a) α K=p61_0_0.unc fun σ=>runM Pg (E61_0g b a) sh61 (c61_0_5g ) K σ:=by kernel_rfl
theorem m61_0_0:∀ (α:Type) (K:KT α),F61_0_0 J61_0_0 α K=p61_0_0.unc fun σ=>runM Pg E61_0 sh61 c61_0_5 K σ:=m61_0_0g f99_0 f100_0
abbrev Tf61_0:Type 1:=(α:Type)->Nat->Nat->Int->(Int->Int->Int->Op α)->Op α
def f61_0g (d:TJ61_0_0)(e:Tf99_0)(α:Type)(g h:Nat)(i:Int)(k1:Int->Int->Int->Op α):Op α:=
 e α g h 4724276009111650304
 (fun a b c=>d α c i
 (k1 a b 2)
 (fun j=>k1 a b c))
def f61_0 (α:Type)(a b:Nat)(c:Int)(k1:Int->Int->Int->Op α):Op α:=f61_0g J61_0_0 f99_0 α a b c k1
def pa61_0:PT (List DV):=pA [pV true [(dX .f64),(dI .i64)]]
def Fn61_0 (v:Tf61_0)(α:Type)(k:RT α):Nat->Nat->Int->Op α:=fun b c a=>v α b c a (fun d e g=>ur61_0_0 k d e a g)
def cm61_0g (a:TJ61_0_0):MCode:=(MCode.put (.m [⟨p61_0_0,F61_0_0 a⟩]) [1,1] (emb ac61))
def cm61_0:MCode:=cm61_0g J61_0_0
theorem gm61_0:cm61_0.Good Pg E61_0 sh61:=(put_seq (by kernel_rfl) (emb_good ac61) ⟨m61_0_0,TT⟩)
theorem em61_0:cm61_0.erase=ac61:=((put_erase _ _).trans (emb_erase _))
theorem fm61_0g (a:Tf99_0)(c:Tf100_0)(b:TJ61_0_0)(α:Type)(k:RT α):Fn61_0 (f61_0g b a) α k=pa61_0.unc fun ds=>fnM Pg (E61_0g a c) sh61 (cm61_0g b) rs61 k ds:=by kernel_rfl
theorem fm61_0:∀ (α:Type) (k:RT α),Fn61_0 f61_0 α k=pa61_0.unc fun ds=>fnM Pg E61_0 sh61 cm61_0 rs61 k ds:=fm61_0g f99_0 f100_0 J61_0_0
theorem is61:FnIs Pg 61 nt61 tr61 tl61 ac61 rs61:=codeF_is Tryz.func61 (by kernel_rfl)
theorem io61_0:InstOk Pg 61 nt61 ⟨pa61_0,Fn61_0 f61_0⟩:=inst_ok eo61_0 followsTry is61 ⟨⟨sh61,cm61_0,em61_0,gm61_0,fm61_0⟩⟩
abbrev nt88:Nat:=20
def sh88:SG:=[(10,iT)]
def tr88:TG:=[tT 0 [0,1,2,6],tT 1 [0,1,2,6,11],tT 2 [0,6],tT 3 [0,6]]
def tl88:TG:=[]
def ac88:ACode:=codeF Pg Tryz.f88 tr88 tl88
def rs88:List AResV:=resF Pg Tryz.f88
def pr88_0_0:PT (List RV):=pRs [pR true [rD (dX .f64),rD (dI .i64)],pR true [rD (dI .i64),rD (dI .i64),rD (dI .i64),rD (dI .i64),rD (dI .i64),rD (dI .i64),rD (dI .i64),rD dL,rD (dI .i64),rD (dI .i64)]]
def ur88_0_0 {β:Type}(g:List RV->β):Nat->Nat->Int->Int->Int->Int->Int->Int->Int->Int->Rows->Int->Int->β:=pr88_0_0.unc g
def E88_0g (a:Tf124_0)(b:Tf58_0):EnvK:=EnvK.ofIO [⟨124,nt124,[⟨pa124_0,Fn124_0 a⟩]⟩,⟨58,nt58,[⟨pa58_0,Fn58_0 b⟩]⟩] noSeq [(58,[0])]
def E88_0:EnvK:=E88_0g f124_0 f58_0
theorem eo88_0:E88_0.Ok Pg:=EnvK.ofIO_ok noSeq_ok ⟨⟨io124_0,TT⟩,⟨io58_0,TT⟩,TT⟩
abbrev Tf88_0:Type 1:=(α:Type)->Int->Int->Int->(Nat->Nat->Int->Int->Op α)->Op α
def f88_0g (b:Tf124_0)(c:Tf58_0)(α:Type)(a d e:Int)(k1:Nat->Nat->Int->Int->Op α):Op α:=
 cK (a != 0)
 (k1 0 0 0 a)
 (b α d e
 (fun g h i j=>c α
 (k1 g h i j)))
def f88_0 (α:Type)(a b c:Int)(k1:Nat->Nat->Int->Int->Op α):Op α:=f88_0g f124_0 f58_0 α a b c k1
def pa88_0:PT (List DV):=pA [pV false [(dMr [(dI .i64),(dI .i64),(dI .i64),(dI .i64),(dI .i64),(dI .i64),(dI .i64),dL,(dI .i64),(dI .i64)] 0)],vI,vI]
def Fn88_0 (v:Tf88_0)(α:Type)(k:RT α):Int->Int->Int->Int->Int->Int->Int->Rows->I4 (Op α):=fun a b c d e g h i j l m o=>v α a m o (fun p q r s=>ur88_0_0 k p q r s b c d e g h i j l)
def cm88_0g:MCode:=(emb ac88)
def cm88_0:MCode:=cm88_0g
theorem gm88_0:cm88_0.Good Pg E88_0 sh88:=(emb_good ac88)
theorem em88_0:cm88_0.erase=ac88:=(emb_erase _)
theorem fm88_0g (a:Tf124_0)(b:Tf58_0)(α:Type)(k:RT α):Fn88_0 (f88_0g a b) α k=pa88_0.unc fun ds=>fnM Pg (E88_0g a b) sh88 (cm88_0g ) rs88 k ds:=by kernel_rfl
theorem fm88_0:∀ (α:Type) (k:RT α),Fn88_0 f88_0 α k=pa88_0.unc fun ds=>fnM Pg E88_0 sh88 cm88_0 rs88 k ds:=fm88_0g f124_0 f58_0
theorem is88:FnIs Pg 88 nt88 tr88 tl88 ac88 rs88:=codeF_is Tryz.func88 (by kernel_rfl)
theorem io88_0:InstOk Pg 88 nt88 ⟨pa88_0,Fn88_0 f88_0⟩:=inst_ok eo88_0 followsTry is88 ⟨⟨sh88,cm88_0,em88_0,gm88_0,fm88_0⟩⟩
abbrev nt56:Nat:=21
def sh56:SG:=[(10,iT)]
def tr56:TG:=[tT 0 [0,1,2,6],tT 1 [0,1,2,6,11],tT 2 [0,6],tT 3 [0,6]]
def tl56:TG:=[]
def ac56:ACode:=codeF Pg Tryz.f56 tr56 tl56
def rs56:List AResV:=resF Pg Tryz.f56
def pr56_0_0:PT (List RV):=pRs [pR true [rD (dX .f64),rD (dI .i64)],pR true [rD (dI .i64),rD (dI .i64),rD (dI .i64),rD (dI .i64),rD (dI .i64),rD (dI .i64),rD (dI .i64),rD dL,rD (dI .i64),rD (dI .i64)]]
def ur56_0_0 {β:Type}(g:List RV->β):Nat->Nat->Int->Int->Int->Int->Int->Int->Int->Int->Rows->Int->Int->β:=pr56_0_0.unc g
def E56_0g (a:Tf90_0)(b:Tf58_0):EnvK:=EnvK.ofIO [⟨90,nt90,[⟨pa90_0,Fn90_0 a⟩]⟩,⟨58,nt58,[⟨pa58_0,Fn58_0 b⟩]⟩] noSeq [(58,[0])]
def E56_0:EnvK:=E56_0g f90_0 f58_0
theorem eo56_0:E56_0.Ok Pg:=EnvK.ofIO_ok noSeq_ok ⟨⟨io90_0,TT⟩,⟨io58_0,TT⟩,TT⟩
abbrev Tf56_0:Type 1:=(α:Type)->Int->Int->Int->(Nat->Nat->Int->Int->Op α)->Op α
def f56_0g (b:Tf58_0)(c:Tf90_0)(α:Type)(a d e:Int)(k1:Nat->Nat->Int->Int->Op α):Op α:=
 cK (a != 0)
 (k1 0 0 0 a)
 (c α d e
 (fun g h i j=>b α
 (k1 g h i j)))
def f56_0 (α:Type)(a b c:Int)(k1:Nat->Nat->Int->Int->Op α):Op α:=f56_0g f58_0 f90_0 α a b c k1
def pa56_0:PT (List DV):=pA [pV false [(dMr [(dI .i64),(dI .i64),(dI .i64),(dI .i64),(dI .i64),(dI .i64),(dI .i64),dL,(dI .i64),(dI .i64)] 0)],vI,vI]
def Fn56_0 (v:Tf56_0)(α:Type)(k:RT α):Int->Int->Int->Int->Int->Int->Int->Rows->I4 (Op α):=fun a b c d e g h i j l m o=>v α a m o (fun p q r s=>ur56_0_0 k p q r s b c d e g h i j l)
def cm56_0g:MCode:=(emb ac56)
def cm56_0:MCode:=cm56_0g
theorem gm56_0:cm56_0.Good Pg E56_0 sh56:=(emb_good ac56)
theorem em56_0:cm56_0.erase=ac56:=(emb_erase _)
theorem fm56_0g (a:Tf90_0)(b:Tf58_0)(α:Type)(k:RT α):Fn56_0 (f56_0g b a) α k=pa56_0.unc fun ds=>fnM Pg (E56_0g a b) sh56 (cm56_0g ) rs56 k ds:=by kernel_rfl
theorem fm56_0:∀ (α:Type) (k:RT α),Fn56_0 f56_0 α k=pa56_0.unc fun ds=>fnM Pg E56_0 sh56 cm56_0 rs56 k ds:=fm56_0g f90_0 f58_0
theorem is56:FnIs Pg 56 nt56 tr56 tl56 ac56 rs56:=codeF_is Tryz.func56 (by kernel_rfl)
theorem io56_0:InstOk Pg 56 nt56 ⟨pa56_0,Fn56_0 f56_0⟩:=inst_ok eo56_0 followsTry is56 ⟨⟨sh56,cm56_0,em56_0,gm56_0,fm56_0⟩⟩
abbrev nt27:Nat:=15
def sh27:SG:=[(7,[.int .i64,.int .i64,.int .i64,.int .i64,.int .i64,.int .i64,.sl,.int .i64,.int .i64]),(11,[.int .i64,.int .i64,.int .i64,.int .i64,.int .i64,.int .i64,.sl,.int .i64,.int .i64])]
def tr27:TG:=[tT 0 [1],tT 1 [1,5],tT 2 [2,3]]
def tl27:TG:=[]
def ac27:ACode:=codeF Pg Tryz.f27 tr27 tl27
def rs27:List AResV:=resF Pg Tryz.f27
def pr27_0_0:PT (List RV):=pRs [pR false [rJ [(dI .i64),(dI .i64),(dI .i64),(dI .i64),(dI .i64),(dI .i64),(dI .i64),dL,(dI .i64),(dI .i64)] 0],wI]
def ur27_0_0 {β:Type}(g:List RV->β):Int->Int->Int->Int->Int->Int->Int->Rows->Int->Int->Int->β:=pr27_0_0.unc g
def E27_0g (a:Tf48_0):EnvK:=EnvK.of [⟨48,nt48,[⟨pa48_0,Fn48_0 a⟩]⟩] noSeq
def E27_0:EnvK:=E27_0g f48_0
theorem eo27_0:E27_0.Ok Pg:=EnvK.of_ok noSeq_ok ⟨⟨io48_0,TT⟩,TT⟩
abbrev Tf27_0:Type 1:=(α:Type)->Int->Int->Int->Int->Int->Int->Rows->Int->Int->(Int->Op α)->Op α
def f27_0g (a:Tf48_0)(α:Type)(b c d e g h:Int)(i:Rows)(j l:Int)(k1:Int->Op α):Op α:=
 a α b c d e g h i j l
 (fun o m=>k1 m)
def f27_0 (α:Type)(a b c d e g:Int)(h:Rows)(i j:Int)(k1:Int->Op α):Op α:=f27_0g f48_0 α a b c d e g h i j k1
def pa27_0:PT (List DV):=pA [pV true [(dI .i64),(dI .i64),(dI .i64),(dI .i64),(dI .i64),(dI .i64),dL,(dI .i64),(dI .i64)]]
def Fn27_0 (v:Tf27_0)(α:Type)(k:RT α):Int->Int->Int->Int->Int->Int->Rows->Int->Int->Op α:=fun a b c d e g h i j=>v α a b c d e g h i j (fun l=>ur27_0_0 k 0 a b c d e g h i j l)
def cm27_0g:MCode:=(emb ac27)
def cm27_0:MCode:=cm27_0g
theorem gm27_0:cm27_0.Good Pg E27_0 sh27:=(emb_good ac27)
theorem em27_0:cm27_0.erase=ac27:=(emb_erase _)
theorem fm27_0g (a:Tf48_0)(α:Type)(k:RT α):Fn27_0 (f27_0g a) α k=pa27_0.unc fun ds=>fnM Pg (E27_0g a) sh27 (cm27_0g ) rs27 k ds:=by kernel_rfl
theorem fm27_0:∀ (α:Type) (k:RT α),Fn27_0 f27_0 α k=pa27_0.unc fun ds=>fnM Pg E27_0 sh27 cm27_0 rs27 k ds:=fm27_0g f48_0
theorem is27:FnIs Pg 27 nt27 tr27 tl27 ac27 rs27:=codeF_is Tryz.func27 (by kernel_rfl)
theorem io27_0:InstOk Pg 27 nt27 ⟨pa27_0,Fn27_0 f27_0⟩:=inst_ok eo27_0 followsTry is27 ⟨⟨sh27,cm27_0,em27_0,gm27_0,fm27_0⟩⟩
abbrev nt7:Nat:=53
def sh7:SG:=[(19,iS 2),(25,iS 2),(26,iS 2),(27,iS 2),(34,iS 2),(40,iS 2),(42,iS 2),(43,iS 2),(45,iS 2),(47,iS 2),(51,iS 2)]
def tr7:TG:=[tT 0 [0,3,4,5],tT 1 [0,3,4,5,15],tT 2 [4,5],tT 3 [0,3,4,5,21,22,23],tT 4 [0,3,4,5,21,22,23,24],tT 5 [0,3,4,5,7,21,22,23],tT 6 [0,3,4,5,8,21,22,23],tT 7 [0,3,4,5,8,21,22,23,30],tT 8 [4,5],tT 9 [0,3,4,5,21,22,23],tT 10 [0,4,5,9],(11,⟨[4,5,9,36,37],true,[⟨false,36,0,20036,2⟩],[]⟩),tT 12 [4,5,9,11],tT 13 [4,5,9,12],tT 14 [4,5,9],tT 15 [4,5,9,49],tT 16 [4,5],tT 17 [4,5]]
def tl7:TG:=[(4,⟨[0,3,4,5,21,22,23],true,[⟨false,21,0,20021,2⟩],[]⟩),(13,⟨[4,5,9,36,37],true,[⟨false,36,0,20036,2⟩],[]⟩)]
def ac7:ACode:=codeF Pg Tryz.f7 tr7 tl7
def rs7:List AResV:=resF Pg Tryz.f7
def td7_13:OT:=tdC (MCode.sub [1,1,0,1,0] (emb ac7))
def td7_36:OT:=tdC (MCode.sub [1,1,1,1,0,1,0] (emb ac7))
def p7_0_0:PT St:=pS [sY 0 dL,sP 3,sP 4,sP 5,sl 21 (aV false [(cRef 20021)]),sI 22,sI 23] [eBox 3 [xI,xI],eBox 4 [xI,xI],eBox 5 [xI],eOwn 20021 2]
def u7_0_0 {β:Type}(g:St->β):Rows->Int->Int->Int->Int->Int->Int->Int->Rows->β:=p7_0_0.unc g
def p7_0_1:PT St:=pS [sP 4,sP 5] [eBox 4 [xI,xI],eBox 5 [xI]]
def u7_0_1 {β:Type}(g:St->β):Int->Int->Int->β:=p7_0_1.unc g
def p7_0_2:PT St:=pS [sY 0 dL,sP 3,sP 4,sP 5,sl 21 (aV false [(cRef 20021)]),sI 22,sI 23,sY 24 dB] [eBox 3 [xI,xI],eBox 4 [xI,xI],eBox 5 [xI],eOwn 20021 2]
def u7_0_2 {β:Type}(g:St->β):Rows->Int->Int->Bool->Int->Int->Int->Int->Int->Rows->β:=p7_0_2.unc g
def p7_0_3:PT St:=pS [sP 4,sP 5,sP 9,sY 36 dL,sl 37 (aV false [(cD (dFn 44 [(dP [dL] 0)]))])] [eBox 4 [xI,xI],eBox 5 [xI],eBox 9 [xI,xI]]
def u7_0_3 {β:Type}(g:St->β):Rows->Rows->I5 β:=p7_0_3.unc g
def pr7_0_0:PT (List RV):=pRs [pR true [rD (dI .i64),rD (dI .i64)],wI]
def ur7_0_0 {β:Type}(g:List RV->β):Int->Int->Int->β:=pr7_0_0.unc g
def E7_0g (a:Tf16_0)(b:Tf17_0)(c:Tf18_0)(d:Tf19_0)(e:Tf20_0)(g:Tf21_0)(h:Tf22_0)(i:Tf23_0)(vq44:Tq44):EnvK:=EnvK.of [⟨16,nt16,[⟨pa16_0,Fn16_0 a⟩]⟩,⟨17,nt17,[⟨pa17_0,Fn17_0 b⟩]⟩,⟨18,nt18,[⟨pa18_0,Fn18_0 c⟩]⟩,⟨19,nt19,[⟨pa19_0,Fn19_0 d⟩]⟩,⟨20,nt20,[⟨pa20_0,Fn20_0 e⟩]⟩,⟨21,nt21,[⟨pa21_0,Fn21_0 g⟩]⟩,⟨22,nt22,[⟨pa22_0,Fn22_0 h⟩]⟩,⟨23,nt23,[⟨pa23_0,Fn23_0 i⟩]⟩] (seqE [⟨44,pq44,vq44⟩])
def E7_0:EnvK:=E7_0g f16_0 f17_0 f18_0 f19_0 f20_0 f21_0 f22_0 f23_0 q44
theorem eo7_0:E7_0.Ok Pg:=EnvK.of_ok (seqE_ok (l:=[⟨44,pq44,q44⟩]) ⟨sqok44,TT⟩) ⟨⟨io16_0,TT⟩,⟨io17_0,TT⟩,⟨io18_0,TT⟩,⟨io19_0,TT⟩,⟨io20_0,TT⟩,⟨io21_0,TT⟩,⟨io22_0,TT⟩,⟨io23_0,TT⟩,TT⟩
def ca7_0_36:MCode:=MCode.sub [1,1,1,1,0,1,0,0] (emb ac7)
def c7_0_36g:MCode:=MCode.sub [1,1,1,1,0,1,0,1] (emb ac7)
def c7_0_36:MCode:=c7_0_36g
def S7_0_1g (d:Tf18_0)(e:Tf20_0)(g:Tf21_0)(h:Tf22_0)(α:Type)(a:Int × Int × Int)(i j:Int)(kn:Int->Int->Op α)(k1:Int->Int->Op α)(k2:Int->Int->Op α):Op α:=
 d α
 (e α a.2.1 a.2.2 a.2.1 a.2.2
 (fun l m=>g α l m i j
 (fun b c=>h α b c 1000000000
 (fun o=>cK (!o)
 (k2 b c)
 (kn b c)))))
def S7_0_1 (α:Type)(a:Int × Int × Int)(b c:Int)(kn:Int->Int->Op α)(k1:Int->Int->Op α)(k2:Int->Int->Op α):Op α:=S7_0_1g f18_0 f20_0 f21_0 f22_0 α a b c kn k1 k2
def V7_0_1 (α:Type)(k1:Int->Int->Op α)(k2:Int->Int->Op α):List (Int × Int × Int)->Int->Int->Op α
 | [],a,b=>k1 a b
 | c::ys,a,b=>S7_0_1 α c a b (V7_0_1 α k1 k2 ys) k1 k2
abbrev TV7_0_1:Type 1:=(α:Type)->(Int->Int->Op α)->(Int->Int->Op α)->List (Int × Int × Int)->Int->Int->Op α
def F7_0_1 (v:TV7_0_1)(α:Type)(K:KT α)(ys:List (Int × Int × Int)):Rows->Rows->I5 (Op α):=fun c d e g h i j=>v α (fun a b=>u7_0_3 (K .normal) c d e g h a b) (fun a b=>u7_0_3 (K .ret) c d 0 0 8 a b) ys i j
theorem r7_0_1g (q:Tf16_0)(r:Tf17_0)(e:Tf18_0)(s:Tf19_0)(g:Tf20_0)(h:Tf21_0)(i:Tf22_0)(t:Tf23_0)(vq44:Tq44)(α:Type)(K:KT α)(Kn:SK α)(w:Int × Int × Int)(a b:Rows)(j l m c d:Int):u7_0_3 (fun σ=>roundT sh7 false (.tmp 37) (runM Pg (E7_0g q r e s g h i t vq44) sh7 ca7_0_36) (runM Pg (E7_0g q r e s g h i t vq44) sh7 c7_0_36) [38,39] td7_36 Kn K (xIP.ex w) σ) a b j l m c d=S7_0_1g e g h i α w c d (fun c d=>u7_0_3 Kn a b j l m c d) (fun o p=>u7_0_3 (K .normal) a b j l m o p) (fun o p=>u7_0_3 (K .ret) a b 0 0 8 o p):=by kernel_rfl
theorem r7_0_1 (α:Type)(K:KT α)(Kn:SK α)(i:Int × Int × Int)(a b:Rows)(e g h c d:Int):u7_0_3 (fun σ=>roundT sh7 false (.tmp 37) (runM Pg E7_0 sh7 ca7_0_36) (runM Pg E7_0 sh7 c7_0_36) [38,39] td7_36 Kn K (xIP.ex i) σ) a b e g h c d=S7_0_1 α i c d (fun c d=>u7_0_3 Kn a b e g h c d) (fun j l=>u7_0_3 (K .normal) a b e g h j l) (fun j l=>u7_0_3 (K .ret) a b 0 0 8 j l):=r7_0_1g f16_0 f17_0 f18_0 f19_0 f20_0 f21_0 f22_0 f23_0 q44 α K Kn i a b e g h c d
theorem t7_0_1 (α:Type)(K:KT α):∀ (ys:List (Int × Int × Int)) (a b:Rows) (h i j c d:Int),V7_0_1 α (fun e g=>u7_0_3 (K .normal) a b h i j e g) (fun e g=>u7_0_3 (K .ret) a b 0 0 8 e g) ys c d=u7_0_3 (roundsK sh7 false (.tmp 37) (runM Pg E7_0 sh7 ca7_0_36) (runM Pg E7_0 sh7 c7_0_36) [38,39] td7_36 K (ys.map xIP.ex)) a b h i j c d:=by
 intro ys
 induction ys with
 | nil=>intros;rfl
 | cons l ys ih=>intro a b h i j c d;exact (congrArg (fun kn=>S7_0_1 α l c d kn (fun e g=>u7_0_3 (K .normal) a b h i j e g) (fun e g=>u7_0_3 (K .ret) a b 0 0 8 e g)) (funext fun c=>funext fun d=>ih a b h i j c d)).trans (r7_0_1 α K (roundsK sh7 false (.tmp 37) (runM Pg E7_0 sh7 ca7_0_36) (runM Pg E7_0 sh7 c7_0_36) [38,39] td7_36 K (ys.map xIP.ex)) l a b h i j c d).symm
theorem m7_0_1:∀ (α:Type) (K:KT α) (ys:List (Int × Int × Int)),F7_0_1 V7_0_1 α K ys=p7_0_3.unc fun σ=>roundsK sh7 false (.tmp 37) (runM Pg E7_0 sh7 ca7_0_36) (runM Pg E7_0 sh7 c7_0_36) [38,39] td7_36 K (ys.map xIP.ex) σ:=fun α K ys=>by funext a b c d e g h;exact t7_0_1 α K ys a b c d e g h
def c7_0_13g:MCode:=MCode.sub [1,1,0,1,0,0] (emb ac7)
def c7_0_13:MCode:=c7_0_13g
def S7_0_0g (e:Tf17_0)(α:Type)(b:Int)(c:Rows)(a:Int)(kn:Int->Op α)(k1:Int->Op α)(k2:Int->Bool->Op α):Op α:=
 cK (decide (a < b))
 (ixK c a 2
 (ldK c (Int.toNat a) 0 [.int .i64,.int .i64]
 (fun g h=>e α g h
 (fun d=>cK (d != 0)
 (k1 d)
 (kn (w64 (a+1)))))))
 (k2 a (decide (a < b)))
def S7_0_0 (α:Type)(a:Int)(b:Rows)(c:Int)(kn:Int->Op α)(k1:Int->Op α)(k2:Int->Bool->Op α):Op α:=S7_0_0g f17_0 α a b c kn k1 k2
def R7_0_0 (α:Type)(a:Int)(b:Rows)(k1:Int->Op α)(k2:Int->Bool->Op α):Nat->Int->Op α
 | 0,_=>none
 | n+1,c=>S7_0_0 α a b c (R7_0_0 α a b k1 k2 n) k1 k2
def L7_0_0 (α:Type)(a:Int)(b:Rows)(k1:Int->Op α)(k2:Int->Bool->Op α)(c:Int):Op α:=R7_0_0 α a b k1 k2 fuel c
abbrev TL7_0_0:Type 1:=(α:Type)->Int->Rows->(Int->Op α)->(Int->Bool->Op α)->Int->Op α
def F7_0_0 (v:TL7_0_0)(α:Type)(K:KT α):Rows->Int->Int->Int->Int->Int->Int->Int->Rows->Op α:=fun d b e g h i j l c=>v α b c (fun a=>u7_0_1 (K .ret) 0 0 a) (fun a m=>u7_0_2 (K (.exit 0)) d b a m g h i j l c) e
theorem r7_0_0g (o:Tf16_0)(m:Tf17_0)(p:Tf18_0)(q:Tf19_0)(r:Tf20_0)(s:Tf21_0)(t:Tf22_0)(w:Tf23_0)(vq44:Tq44)(α:Type)(K:KT α)(Kn:SK α)(d:Rows)(a b e g h i j:Int)(c:Rows):u7_0_0 (fun σ=>runM Pg (E7_0g o m p q r s t w vq44) sh7 (c7_0_13g ) (thenK (fun σ=>tidyK td7_13 σ Kn) K) σ) d a b e g h i j c=S7_0_0g m α a c b (fun b=>u7_0_0 Kn d a b e g h i j c) (fun l=>u7_0_1 (K .ret) 0 0 l) (fun l z=>u7_0_2 (K (.exit 0)) d a l z e g h i j c):=by kernel_rfl
theorem r7_0_0 (α:Type)(K:KT α)(Kn:SK α)(d:Rows)(a b e g h i j:Int)(c:Rows):u7_0_0 (fun σ=>runM Pg E7_0 sh7 c7_0_13 (thenK (fun σ=>tidyK td7_13 σ Kn) K) σ) d a b e g h i j c=S7_0_0 α a c b (fun b=>u7_0_0 Kn d a b e g h i j c) (fun l=>u7_0_1 (K .ret) 0 0 l) (fun l m=>u7_0_2 (K (.exit 0)) d a l m e g h i j c):=r7_0_0g f16_0 f17_0 f18_0 f19_0 f20_0 f21_0 f22_0 f23_0 q44 α K Kn d a b e g h i j c
theorem t7_0_0 (α:Type)(K:KT α):∀ (n:Nat) (e:Rows) (a c g h i j l:Int) (b:Rows),R7_0_0 α a b (fun d=>u7_0_1 (K .ret) 0 0 d) (fun d m=>u7_0_2 (K (.exit 0)) e a d m g h i j l b) n c=u7_0_0 (loopT (runM Pg E7_0 sh7 c7_0_13) td7_13 K n) e a c g h i j l b:=by
 intro n
 induction n with
 | zero=>intros;rfl
 | succ n ih=>intro e a c g h i j l b;exact (congrArg (fun kn=>S7_0_0 α a b c kn (fun d=>u7_0_1 (K .ret) 0 0 d) (fun d m=>u7_0_2 (K (.exit 0)) e a d m g h i j l b)) (funext fun c=>ih e a c g h i j l b)).trans (r7_0_0 α K (loopT (runM Pg E7_0 sh7 c7_0_13) td7_13 K n) e a c g h i j l b).symm
theorem m7_0_0:∀ (α:Type) (K:KT α),F7_0_0 L7_0_0 α K=p7_0_0.unc fun σ=>loopT (runM Pg E7_0 sh7 c7_0_13) td7_13 K fuel σ:=fun α K=>by funext a b c d e g h i j;exact t7_0_0 α K fuel a b c d e g h i j
abbrev Tf7_0:Type 1:=(α:Type)->Rows->Int->Int->(Int->Int->Int->Op α)->Op α
def f7_0g (e:TL7_0_0)(vV7_0_1:TV7_0_1)(g:Tf16_0)(h:Tf18_0)(i:Tf19_0)(j:Tf23_0)(vq44:Tq44)(α:Type)(c:Rows)(a b:Int)(k1:Int->Int->Int->Op α):Op α:=
 cK (decide (40 < ((List.length c:Nat):Int)))
 (k1 0 0 8)
 (g α c
 (fun d=>gK (apOkC 2 16 d [[DC.v (.int .i64 a),DC.v (.int .i64 b)]]) (e α ((List.length (d++[[DC.v (.int .i64 a),DC.v (.int .i64 b)]]):Nat):Int) (d++[[DC.v (.int .i64 a),DC.v (.int .i64 b)]])
 (fun l=>k1 0 0 l)
 (fun q r=>h α
 (i α
 (qK (vq44 c) xIP fun m=>vV7_0_1 α
 (fun o p=>j α
 (k1 o p 0))
 (fun s t=>k1 0 0 8) m a b))) 0)))
def f7_0 (α:Type)(a:Rows)(b c:Int)(k1:Int->Int->Int->Op α):Op α:=f7_0g L7_0_0 V7_0_1 f16_0 f18_0 f19_0 f23_0 q44 α a b c k1
def pa7_0:PT (List DV):=pA [pV false [dL],pV true [(dI .i64),(dI .i64)]]
def Fn7_0 (v:Tf7_0)(α:Type)(k:RT α):Rows->Int->Int->Op α:=fun a b c=>v α a b c (fun d e g=>ur7_0_0 k d e g)
def cm7_0g (a:TL7_0_0)(vV7_0_1:TV7_0_1):MCode:=(MCode.put (.m [⟨p7_0_0,F7_0_0 a⟩]) [1,1,0,1,0] (MCode.put (.r [⟨false,xIP,p7_0_3,F7_0_1 vV7_0_1⟩]) [1,1,1,1,0,1,0] (emb ac7)))
def cm7_0:MCode:=cm7_0g L7_0_0 V7_0_1
theorem gm7_0:cm7_0.Good Pg E7_0 sh7:=(put_loop (td:=td7_13) (by kernel_rfl) (put_rng (td:=td7_36) (g:=(.tmp 37)) (ps:=[38,39]) (by kernel_rfl) (emb_good ac7) ⟨m7_0_1,TT⟩) ⟨m7_0_0,TT⟩)
theorem em7_0:cm7_0.erase=ac7:=((put_erase _ _).trans ((put_erase _ _).trans (emb_erase _)))
theorem fm7_0g (a:Tf16_0)(g:Tf17_0)(b:Tf18_0)(c:Tf19_0)(h:Tf20_0)(i:Tf21_0)(j:Tf22_0)(d:Tf23_0)(vq44:Tq44)(e:TL7_0_0)(vV7_0_1:TV7_0_1)(α:Type)(k:RT α):Fn7_0 (f7_0g e vV7_0_1 a b c d vq44) α k=pa7_0.unc fun ds=>fnM Pg (E7_0g a g b c h i j d vq44) sh7 (cm7_0g e vV7_0_1) rs7 k ds:=by kernel_rfl
theorem fm7_0:∀ (α:Type) (k:RT α),Fn7_0 f7_0 α k=pa7_0.unc fun ds=>fnM Pg E7_0 sh7 cm7_0 rs7 k ds:=fm7_0g f16_0 f17_0 f18_0 f19_0 f20_0 f21_0 f22_0 f23_0 q44 L7_0_0 V7_0_1
theorem is7:FnIs Pg 7 nt7 tr7 tl7 ac7 rs7:=codeF_is Tryz.func7 (by kernel_rfl)
theorem io7_0:InstOk Pg 7 nt7 ⟨pa7_0,Fn7_0 f7_0⟩:=inst_ok eo7_0 followsTry is7 ⟨⟨sh7,cm7_0,em7_0,gm7_0,fm7_0⟩⟩
abbrev nt32:Nat:=31
def sh32:SG:=[(8,[.cpx .f64,.int .i64]),(16,iS 3),(19,iT),(21,iT),(25,iT),(27,iT)]
def tr32:TG:=[tT 0 [1,2],tT 1 [2,4,5],tT 2 [2,4,5,13],tT 3 [2,3],tT 4 [2,6],tT 5 [2,3]]
def tl32:TG:=[]
def ac32:ACode:=codeF Pg Tryz.f32 tr32 tl32
def rs32:List AResV:=resF Pg Tryz.f32
def pr32_0_0:PT (List RV):=pRs [pR true [rD (dI .i64),rD (dI .i64)],wI]
def ur32_0_0 {β:Type}(g:List RV->β):Int->Int->Int->β:=pr32_0_0.unc g
def E32_0g (a:Tf61_0)(b:Tf62_0)(c:Tf63_0)(d:Tf64_0):EnvK:=EnvK.of [⟨61,nt61,[⟨pa61_0,Fn61_0 a⟩]⟩,⟨62,nt62,[⟨pa62_0,Fn62_0 b⟩]⟩,⟨63,nt63,[⟨pa63_0,Fn63_0 c⟩]⟩,⟨64,nt64,[⟨pa64_0,Fn64_0 d⟩]⟩] noSeq
def E32_0:EnvK:=E32_0g f61_0 f62_0 f63_0 f64_0
theorem eo32_0:E32_0.Ok Pg:=EnvK.of_ok noSeq_ok ⟨⟨io61_0,TT⟩,⟨io62_0,TT⟩,⟨io63_0,TT⟩,⟨io64_0,TT⟩,TT⟩
abbrev Tf32_0:Type 1:=(α:Type)->Nat->Nat->Int->(Int->Int->Int->Op α)->Op α
def f32_0g (e:Tf61_0)(g:Tf62_0)(h:Tf63_0)(i:Tf64_0)(α:Type)(j l:Nat)(a:Int)(k1:Int->Int->Int->Op α):Op α:=
 e α j l a
 (fun m o b=>cK (b != 0)
 (k1 0 0 b)
 (g α m o a
 (fun c d=>h α (w64 (c*c)) 1048576
 (fun p=>i α (w64 (d*d)) 1048576
 (fun q=>k1 p q 0)))))
def f32_0 (α:Type)(a b:Nat)(c:Int)(k1:Int->Int->Int->Op α):Op α:=f32_0g f61_0 f62_0 f63_0 f64_0 α a b c k1
def pa32_0:PT (List DV):=pA [pV true [(dX .f64),(dI .i64)]]
def Fn32_0 (v:Tf32_0)(α:Type)(k:RT α):Nat->Nat->Int->Op α:=fun a b c=>v α a b c (fun d e g=>ur32_0_0 k d e g)
def cm32_0g:MCode:=(emb ac32)
def cm32_0:MCode:=cm32_0g
theorem gm32_0:cm32_0.Good Pg E32_0 sh32:=(emb_good ac32)
theorem em32_0:cm32_0.erase=ac32:=(emb_erase _)
theorem fm32_0g (a:Tf61_0)(b:Tf62_0)(c:Tf63_0)(d:Tf64_0)(α:Type)(k:RT α):Fn32_0 (f32_0g a b c d) α k=pa32_0.unc fun ds=>fnM Pg (E32_0g a b c d) sh32 (cm32_0g ) rs32 k ds:=by kernel_rfl
theorem fm32_0:∀ (α:Type) (k:RT α),Fn32_0 f32_0 α k=pa32_0.unc fun ds=>fnM Pg E32_0 sh32 cm32_0 rs32 k ds:=fm32_0g f61_0 f62_0 f63_0 f64_0
theorem is32:FnIs Pg 32 nt32 tr32 tl32 ac32 rs32:=codeF_is Tryz.func32 (by kernel_rfl)
theorem io32_0:InstOk Pg 32 nt32 ⟨pa32_0,Fn32_0 f32_0⟩:=inst_ok eo32_0 followsTry is32 ⟨⟨sh32,cm32_0,em32_0,gm32_0,fm32_0⟩⟩
abbrev nt139:Nat:=54
def sh139:SG:=[(21,iT),(27,iT),(50,iS 3)]
def tr139:TG:=[tT 0 [0,1,4],tT 1 [0,1,4,6],tT 2 [0,1,4,6,7],tT 3 [0,1,4,6,7,8],tT 4 [0,1,4,6,8,10],tT 5 [0,1,4,12],tT 6 [4,12,48],tT 7 [4,12],tT 8 [4,5]]
def tl139:TG:=[]
def ac139:ACode:=codeF Pg Tryz.f139 tr139 tl139
def rs139:List AResV:=resF Pg Tryz.f139
def p139_0_0:PT St:=pS [sI 0,sI 1,sP 4,sP 12] [eBox 4 [(cD (dX .f64)),xI],eBox 12 (xs 3)]
def u139_0_0 {β:Type}(g:St->β):Int->Int->Nat->Nat->I4 β:=p139_0_0.unc g
def p139_0_1:PT St:=pS [sP 4,sP 12] [eBox 4 [(cD (dX .f64)),xI],eBox 12 (xs 3)]
def u139_0_1 {β:Type}(g:St->β):Nat->Nat->I4 β:=p139_0_1.unc g
def p139_0_2:PT St:=pS [sP 4,sP 12,sY 48 dB] [eBox 4 [(cD (dX .f64)),xI],eBox 12 (xs 3)]
def u139_0_2 {β:Type}(g:St->β):Bool->Nat->Nat->I4 β:=p139_0_2.unc g
def pr139_0_0:PT (List RV):=pRs [pR true [rD (dX .f64),rD (dI .i64)],wI]
def ur139_0_0 {β:Type}(g:List RV->β):Nat->Nat->Int->Int->β:=pr139_0_0.unc g
def E139_0g (a:Tf63_0)(b:Tf149_0)(c:Tf116_0)(d:Tf64_0)(e:Tf127_0):EnvK:=EnvK.of [⟨63,nt63,[⟨pa63_0,Fn63_0 a⟩]⟩,⟨149,nt149,[⟨pa149_0,Fn149_0 b⟩]⟩,⟨116,nt116,[⟨pa116_0,Fn116_0 c⟩]⟩,⟨64,nt64,[⟨pa64_0,Fn64_0 d⟩]⟩,⟨127,nt127,[⟨pa127_0,Fn127_0 e⟩]⟩] noSeq
def E139_0:EnvK:=E139_0g f63_0 f149_0 f116_0 f64_0 f127_0
theorem eo139_0:E139_0.Ok Pg:=EnvK.of_ok noSeq_ok ⟨⟨io63_0,TT⟩,⟨io149_0,TT⟩,⟨io116_0,TT⟩,⟨io64_0,TT⟩,⟨io127_0,TT⟩,TT⟩
def c139_0_13g:MCode:=MCode.sub [1,1,1,1,1,1,0] (emb ac139)
def c139_0_13:MCode:=c139_0_13g
abbrev TJ139_0_0:Type 1:=(α:Type)->Int->Int->(Op α)->(Bool->Op α)->Op α
def J139_0_0g (α:Type)(a b:Int)(k1:Op α)(k2:Bool->Op α):Op α:=
 cK (a == b)
 (cK ((Int.tmod a 1048576) == 0)
 (k1)
 (k2 ((Int.tmod a 1048576) == 0)))
 (k2 false)
def J139_0_0 (α:Type)(a b:Int)(k1:Op α)(k2:Bool->Op α):Op α:=J139_0_0g α a b k1 k2
def F139_0_0 (v:TJ139_0_0)(α:Type)(K:KT α):Int->Int->Nat->Nat->I4 (Op α):=fun g h a b c d e i=>v α g h (u139_0_1 (K .normal) a b c d e 0) (fun j=>u139_0_2 (K .normal) j a b c d e i)
theorem m139_0_0g (a:Tf63_0)(b:Tf149_0)(c:Tf116_0)(d:Tf64_0)(e:Tf127_0)(α:Type)(K:KT α):F139_0_0 (J139_0_0g ) α K=p139_0_0.unc fun σ=>runM Pg (E139_0g a b c d e) sh139 (c139_0_13g ) K σ:=by kernel_rfl
theorem m139_0_0:∀ (α:Type) (K:KT α),F139_0_0 J139_0_0 α K=p139_0_0.unc fun σ=>runM Pg E139_0 sh139 c139_0_13 K σ:=m139_0_0g f63_0 f149_0 f116_0 f64_0 f127_0
abbrev Tf139_0:Type 1:=(α:Type)->Int->Int->(Nat->Nat->Int->Int->Op α)->Op α
def f139_0g (i:TJ139_0_0)(b:Tf116_0)(c:Tf127_0)(j:Tf149_0)(l:Tf63_0)(m:Tf64_0)(α:Type)(d a:Int)(k1:Nat->Nat->Int->Int->Op α):Op α:=
 l α (w64 (d+a)) 2
 (fun e=>j α e
 (fun o p=>b α o 64
 (fun g D=>b α p 64
 (fun h F=>m α (w64 (11*(w64 (a - e)))) 7
 (fun q=>i α d a
 (c α g h 0
 (fun r s t w=>k1 r s t w))
 (fun G=>c α g h (w64 (2+q))
 (fun z A B C=>k1 z A B C)))))))
def f139_0 (α:Type)(a b:Int)(k1:Nat->Nat->Int->Int->Op α):Op α:=f139_0g J139_0_0 f116_0 f127_0 f149_0 f63_0 f64_0 α a b k1
def pa139_0:PT (List DV):=pA [vI,vI]
def Fn139_0 (v:Tf139_0)(α:Type)(k:RT α):Int->Int->Op α:=fun a b=>v α a b (fun c d e g=>ur139_0_0 k c d e g)
def cm139_0g (a:TJ139_0_0):MCode:=(MCode.put (.m [⟨p139_0_0,F139_0_0 a⟩]) [1,1,1,1,1,1] (emb ac139))
def cm139_0:MCode:=cm139_0g J139_0_0
theorem gm139_0:cm139_0.Good Pg E139_0 sh139:=(put_seq (by kernel_rfl) (emb_good ac139) ⟨m139_0_0,TT⟩)
theorem em139_0:cm139_0.erase=ac139:=((put_erase _ _).trans (emb_erase _))
theorem fm139_0g (a:Tf63_0)(b:Tf149_0)(c:Tf116_0)(d:Tf64_0)(e:Tf127_0)(g:TJ139_0_0)(α:Type)(k:RT α):Fn139_0 (f139_0g g c e b a d) α k=pa139_0.unc fun ds=>fnM Pg (E139_0g a b c d e) sh139 (cm139_0g g) rs139 k ds:=by kernel_rfl
theorem fm139_0:∀ (α:Type) (k:RT α),Fn139_0 f139_0 α k=pa139_0.unc fun ds=>fnM Pg E139_0 sh139 cm139_0 rs139 k ds:=fm139_0g f63_0 f149_0 f116_0 f64_0 f127_0 J139_0_0
theorem is139:FnIs Pg 139 nt139 tr139 tl139 ac139 rs139:=codeF_is Tryz.func139 (by kernel_rfl)
theorem io139_0:InstOk Pg 139 nt139 ⟨pa139_0,Fn139_0 f139_0⟩:=inst_ok eo139_0 followsTry is139 ⟨⟨sh139,cm139_0,em139_0,gm139_0,fm139_0⟩⟩
abbrev nt142:Nat:=12
def sh142:SG:=[(7,iS 3),(8,iS 3)]
def tr142:TG:=[tT 0 [1,2,3,4],tT 1 [4,5]]
def tl142:TG:=[]
def ac142:ACode:=codeF Pg Tryz.f142 tr142 tl142
def rs142:List AResV:=resF Pg Tryz.f142
def pr142_0_0:PT (List RV):=pRs [pR true [rD (dI .i64),rD (dI .i64),rD (dI .i64)],wI]
def ur142_0_0 {β:Type}(g:List RV->β):I4 β:=pr142_0_0.unc g
def E142_0g (a:Tf112_0):EnvK:=EnvK.of [⟨112,nt112,[⟨pa112_0,Fn112_0 a⟩]⟩] noSeq
def E142_0:EnvK:=E142_0g f112_0
theorem eo142_0:E142_0.Ok Pg:=EnvK.of_ok noSeq_ok ⟨⟨io112_0,TT⟩,TT⟩
abbrev Tf142_0:Type 1:=(α:Type)->Int->Int->Int->Int->Int->Int->(Int->Int->Int->Op α)->Op α
def f142_0g (a:Tf112_0)(α:Type)(b c d e g h:Int)(k1:Int->Int->Int->Op α):Op α:=
 a α e g h b c d
 (fun i j l=>k1 i j l)
def f142_0 (α:Type)(a b c d e g:Int)(k1:Int->Int->Int->Op α):Op α:=f142_0g f112_0 α a b c d e g k1
def pa142_0:PT (List DV):=pA [pV true [(dI .i64),(dI .i64),(dI .i64)],pV false [(dP [(dFn 112 [])] 0)],pV false [(dP [(dI .i64),(dI .i64),(dI .i64)] 0)]]
def Fn142_0 (v:Tf142_0)(α:Type)(k:RT α):I6 (Op α):=fun a b c d e g=>v α a b c d e g (fun h i j=>ur142_0_0 k h i j 0)
def cm142_0g:MCode:=(emb ac142)
def cm142_0:MCode:=cm142_0g
theorem gm142_0:cm142_0.Good Pg E142_0 sh142:=(emb_good ac142)
theorem em142_0:cm142_0.erase=ac142:=(emb_erase _)
theorem fm142_0g (a:Tf112_0)(α:Type)(k:RT α):Fn142_0 (f142_0g a) α k=pa142_0.unc fun ds=>fnM Pg (E142_0g a) sh142 (cm142_0g ) rs142 k ds:=by kernel_rfl
theorem fm142_0:∀ (α:Type) (k:RT α),Fn142_0 f142_0 α k=pa142_0.unc fun ds=>fnM Pg E142_0 sh142 cm142_0 rs142 k ds:=fm142_0g f112_0
theorem is142:FnIs Pg 142 nt142 tr142 tl142 ac142 rs142:=codeF_is Tryz.func142 (by kernel_rfl)
theorem io142_0:InstOk Pg 142 nt142 ⟨pa142_0,Fn142_0 f142_0⟩:=inst_ok eo142_0 followsTry is142 ⟨⟨sh142,cm142_0,em142_0,gm142_0,fm142_0⟩⟩
def pr142_1_0:PT (List RV):=pRs [pR true [rD (dI .i64),rD (dI .i64),rD (dI .i64)],wI]
def ur142_1_0 {β:Type}(g:List RV->β):I4 β:=pr142_1_0.unc g
def E142_1g (a:Tf114_0):EnvK:=EnvK.of [⟨114,nt114,[⟨pa114_0,Fn114_0 a⟩]⟩] noSeq
def E142_1:EnvK:=E142_1g f114_0
theorem eo142_1:E142_1.Ok Pg:=EnvK.of_ok noSeq_ok ⟨⟨io114_0,TT⟩,TT⟩
abbrev Tf142_1:Type 1:=(α:Type)->Int->Int->Int->Int->Int->Int->(Int->Int->Int->Op α)->Op α
def f142_1g (a:Tf114_0)(α:Type)(b c d e g h:Int)(k1:Int->Int->Int->Op α):Op α:=
 a α e g h b c d
 (fun i j l=>k1 i j l)
def f142_1 (α:Type)(a b c d e g:Int)(k1:Int->Int->Int->Op α):Op α:=f142_1g f114_0 α a b c d e g k1
def pa142_1:PT (List DV):=pA [pV true [(dI .i64),(dI .i64),(dI .i64)],pV false [(dP [(dFn 114 [])] 0)],pV false [(dP [(dI .i64),(dI .i64),(dI .i64)] 0)]]
def Fn142_1 (v:Tf142_1)(α:Type)(k:RT α):I6 (Op α):=fun a b c d e g=>v α a b c d e g (fun h i j=>ur142_1_0 k h i j 0)
def cm142_1g:MCode:=(emb ac142)
def cm142_1:MCode:=cm142_1g
theorem gm142_1:cm142_1.Good Pg E142_1 sh142:=(emb_good ac142)
theorem em142_1:cm142_1.erase=ac142:=(emb_erase _)
theorem fm142_1g (a:Tf114_0)(α:Type)(k:RT α):Fn142_1 (f142_1g a) α k=pa142_1.unc fun ds=>fnM Pg (E142_1g a) sh142 (cm142_1g ) rs142 k ds:=by kernel_rfl
theorem fm142_1:∀ (α:Type) (k:RT α),Fn142_1 f142_1 α k=pa142_1.unc fun ds=>fnM Pg E142_1 sh142 cm142_1 rs142 k ds:=fm142_1g f114_0
theorem io142_1:InstOk Pg 142 nt142 ⟨pa142_1,Fn142_1 f142_1⟩:=inst_ok eo142_1 followsTry is142 ⟨⟨sh142,cm142_1,em142_1,gm142_1,fm142_1⟩⟩
def pr142_2_0:PT (List RV):=pRs [pR true [rD (dI .i64),rD (dI .i64),rD (dI .i64)],wI]
def ur142_2_0 {β:Type}(g:List RV->β):I4 β:=pr142_2_0.unc g
def E142_2g (a:Tf122_0):EnvK:=EnvK.of [⟨122,nt122,[⟨pa122_0,Fn122_0 a⟩]⟩] noSeq
def E142_2:EnvK:=E142_2g f122_0
theorem eo142_2:E142_2.Ok Pg:=EnvK.of_ok noSeq_ok ⟨⟨io122_0,TT⟩,TT⟩
abbrev Tf142_2:Type 1:=(α:Type)->Int->Int->Int->Int->Int->Int->(Int->Int->Int->Op α)->Op α
def f142_2g (a:Tf122_0)(α:Type)(b c d e g h:Int)(k1:Int->Int->Int->Op α):Op α:=
 a α e g h b c d
 (fun i j l=>k1 i j l)
def f142_2 (α:Type)(a b c d e g:Int)(k1:Int->Int->Int->Op α):Op α:=f142_2g f122_0 α a b c d e g k1
def pa142_2:PT (List DV):=pA [pV true [(dI .i64),(dI .i64),(dI .i64)],pV false [(dP [(dFn 122 [])] 0)],pV false [(dP [(dI .i64),(dI .i64),(dI .i64)] 0)]]
def Fn142_2 (v:Tf142_2)(α:Type)(k:RT α):I6 (Op α):=fun a b c d e g=>v α a b c d e g (fun h i j=>ur142_2_0 k h i j 0)
def cm142_2g:MCode:=(emb ac142)
def cm142_2:MCode:=cm142_2g
theorem gm142_2:cm142_2.Good Pg E142_2 sh142:=(emb_good ac142)
theorem em142_2:cm142_2.erase=ac142:=(emb_erase _)
theorem fm142_2g (a:Tf122_0)(α:Type)(k:RT α):Fn142_2 (f142_2g a) α k=pa142_2.unc fun ds=>fnM Pg (E142_2g a) sh142 (cm142_2g ) rs142 k ds:=by kernel_rfl
theorem fm142_2:∀ (α:Type) (k:RT α),Fn142_2 f142_2 α k=pa142_2.unc fun ds=>fnM Pg E142_2 sh142 cm142_2 rs142 k ds:=fm142_2g f122_0
theorem io142_2:InstOk Pg 142 nt142 ⟨pa142_2,Fn142_2 f142_2⟩:=inst_ok eo142_2 followsTry is142 ⟨⟨sh142,cm142_2,em142_2,gm142_2,fm142_2⟩⟩
def pr142_3_0:PT (List RV):=pRs [pR true [rD (dI .i64),rD (dI .i64),rD (dI .i64)],wI]
def ur142_3_0 {β:Type}(g:List RV->β):I4 β:=pr142_3_0.unc g
def E142_3g (a:Tf118_0):EnvK:=EnvK.of [⟨118,nt118,[⟨pa118_0,Fn118_0 a⟩]⟩] noSeq
def E142_3:EnvK:=E142_3g f118_0
theorem eo142_3:E142_3.Ok Pg:=EnvK.of_ok noSeq_ok ⟨⟨io118_0,TT⟩,TT⟩
abbrev Tf142_3:Type 1:=(α:Type)->Int->Int->Int->Int->Int->Int->(I4 (Op α))->Op α
def f142_3g (a:Tf118_0)(α:Type)(b c d e g h:Int)(k1:I4 (Op α)):Op α:=
 a α e g h b c d
 (fun i j l m=>k1 i j l m)
def f142_3 (α:Type)(a b c d e g:Int)(k1:I4 (Op α)):Op α:=f142_3g f118_0 α a b c d e g k1
def pa142_3:PT (List DV):=pA [pV true [(dI .i64),(dI .i64),(dI .i64)],pV false [(dP [(dFn 118 [])] 0)],pV false [(dP [(dI .i64),(dI .i64),(dI .i64)] 0)]]
def Fn142_3 (v:Tf142_3)(α:Type)(k:RT α):I6 (Op α):=fun a b c d e g=>v α a b c d e g (fun h i j l=>ur142_3_0 k h i j l)
def cm142_3g:MCode:=(emb ac142)
def cm142_3:MCode:=cm142_3g
theorem gm142_3:cm142_3.Good Pg E142_3 sh142:=(emb_good ac142)
theorem em142_3:cm142_3.erase=ac142:=(emb_erase _)
theorem fm142_3g (a:Tf118_0)(α:Type)(k:RT α):Fn142_3 (f142_3g a) α k=pa142_3.unc fun ds=>fnM Pg (E142_3g a) sh142 (cm142_3g ) rs142 k ds:=by kernel_rfl
theorem fm142_3:∀ (α:Type) (k:RT α),Fn142_3 f142_3 α k=pa142_3.unc fun ds=>fnM Pg E142_3 sh142 cm142_3 rs142 k ds:=fm142_3g f118_0
theorem io142_3:InstOk Pg 142 nt142 ⟨pa142_3,Fn142_3 f142_3⟩:=inst_ok eo142_3 followsTry is142 ⟨⟨sh142,cm142_3,em142_3,gm142_3,fm142_3⟩⟩
abbrev nt54:Nat:=28
def sh54:SG:=[(8,[.cpx .f64,.int .i64]),(20,iT),(25,iT)]
def tr54:TG:=[tT 0 [1,2],tT 1 [2,4,5],tT 2 [2,4,5,13],tT 3 [2,3],tT 4 [2,4,6],tT 5 [2,3]]
def tl54:TG:=[]
def ac54:ACode:=codeF Pg Tryz.f54 tr54 tl54
def rs54:List AResV:=resF Pg Tryz.f54
def pr54_0_0:PT (List RV):=pRs [pR true [rD (dI .i64),rD (dI .i64),rD (dI .i64),rD (dI .i64)],wI]
def ur54_0_0 {β:Type}(g:List RV->β):I5 β:=pr54_0_0.unc g
def E54_0g (a:Tf61_0)(b:Tf87_0):EnvK:=EnvK.of [⟨61,nt61,[⟨pa61_0,Fn61_0 a⟩]⟩,⟨87,nt87,[⟨pa87_0,Fn87_0 b⟩]⟩] noSeq
def E54_0:EnvK:=E54_0g f61_0 f87_0
theorem eo54_0:E54_0.Ok Pg:=EnvK.of_ok noSeq_ok ⟨⟨io61_0,TT⟩,⟨io87_0,TT⟩,TT⟩
abbrev Tf54_0:Type 1:=(α:Type)->Nat->Nat->Int->(I5 (Op α))->Op α
def f54_0g (d:Tf61_0)(b:Tf87_0)(α:Type)(e g:Nat)(a:Int)(k1:I5 (Op α)):Op α:=
 d α e g a
 (fun h i c=>cK (c != 0)
 (k1 0 0 0 0 c)
 (b α h a
 (fun j l=>b α i a
 (fun m o=>k1 j l m o 0))))
def f54_0 (α:Type)(a b:Nat)(c:Int)(k1:I5 (Op α)):Op α:=f54_0g f61_0 f87_0 α a b c k1
def pa54_0:PT (List DV):=pA [pV true [(dX .f64),(dI .i64)]]
def Fn54_0 (v:Tf54_0)(α:Type)(k:RT α):Nat->Nat->Int->Op α:=fun a b c=>v α a b c (fun d e g h i=>ur54_0_0 k d e g h i)
def cm54_0g:MCode:=(emb ac54)
def cm54_0:MCode:=cm54_0g
theorem gm54_0:cm54_0.Good Pg E54_0 sh54:=(emb_good ac54)
theorem em54_0:cm54_0.erase=ac54:=(emb_erase _)
theorem fm54_0g (a:Tf61_0)(b:Tf87_0)(α:Type)(k:RT α):Fn54_0 (f54_0g a b) α k=pa54_0.unc fun ds=>fnM Pg (E54_0g a b) sh54 (cm54_0g ) rs54 k ds:=by kernel_rfl
theorem fm54_0:∀ (α:Type) (k:RT α),Fn54_0 f54_0 α k=pa54_0.unc fun ds=>fnM Pg E54_0 sh54 cm54_0 rs54 k ds:=fm54_0g f61_0 f87_0
theorem is54:FnIs Pg 54 nt54 tr54 tl54 ac54 rs54:=codeF_is Tryz.func54 (by kernel_rfl)
theorem io54_0:InstOk Pg 54 nt54 ⟨pa54_0,Fn54_0 f54_0⟩:=inst_ok eo54_0 followsTry is54 ⟨⟨sh54,cm54_0,em54_0,gm54_0,fm54_0⟩⟩
abbrev nt109:Nat:=18
def sh109:SG:=[(5,iS 2),(12,iT),(14,iT)]
def tr109:TG:=[tT 0 [1,2],tT 1 [1,2,4],tT 2 [1,2,4,8],tT 3 [2,3],tT 4 [2,3]]
def tl109:TG:=[]
def ac109:ACode:=codeF Pg Tryz.f109 tr109 tl109
def rs109:List AResV:=resF Pg Tryz.f109
def pr109_0_0:PT (List RV):=pRs [pR true [rD (dX .f64),rD (dI .i64)],wI]
def ur109_0_0 {β:Type}(g:List RV->β):Nat->Nat->Int->Int->β:=pr109_0_0.unc g
def E109_0g (a:Tf138_0)(b:Tf139_0):EnvK:=EnvK.of [⟨138,nt138,[⟨pa138_0,Fn138_0 a⟩]⟩,⟨139,nt139,[⟨pa139_0,Fn139_0 b⟩]⟩] noSeq
def E109_0:EnvK:=E109_0g f138_0 f139_0
theorem eo109_0:E109_0.Ok Pg:=EnvK.of_ok noSeq_ok ⟨⟨io138_0,TT⟩,⟨io139_0,TT⟩,TT⟩
abbrev Tf109_0:Type 1:=(α:Type)->Int->Int->(Nat->Nat->Int->Int->Op α)->Op α
def f109_0g (d:Tf138_0)(e:Tf139_0)(α:Type)(a b:Int)(k1:Nat->Nat->Int->Int->Op α):Op α:=
 d α a b (-1099511627776)
 (fun c=>cK (c != 0)
 (k1 0 0 0 c)
 (e α a b
 (fun g h i j=>k1 g h i j)))
def f109_0 (α:Type)(a b:Int)(k1:Nat->Nat->Int->Int->Op α):Op α:=f109_0g f138_0 f139_0 α a b k1
def pa109_0:PT (List DV):=pA [pV true [(dI .i64),(dI .i64)]]
def Fn109_0 (v:Tf109_0)(α:Type)(k:RT α):Int->Int->Op α:=fun a b=>v α a b (fun c d e g=>ur109_0_0 k c d e g)
def cm109_0g:MCode:=(emb ac109)
def cm109_0:MCode:=cm109_0g
theorem gm109_0:cm109_0.Good Pg E109_0 sh109:=(emb_good ac109)
theorem em109_0:cm109_0.erase=ac109:=(emb_erase _)
theorem fm109_0g (a:Tf138_0)(b:Tf139_0)(α:Type)(k:RT α):Fn109_0 (f109_0g a b) α k=pa109_0.unc fun ds=>fnM Pg (E109_0g a b) sh109 (cm109_0g ) rs109 k ds:=by kernel_rfl
theorem fm109_0:∀ (α:Type) (k:RT α),Fn109_0 f109_0 α k=pa109_0.unc fun ds=>fnM Pg E109_0 sh109 cm109_0 rs109 k ds:=fm109_0g f138_0 f139_0
theorem is109:FnIs Pg 109 nt109 tr109 tl109 ac109 rs109:=codeF_is Tryz.func109 (by kernel_rfl)
theorem io109_0:InstOk Pg 109 nt109 ⟨pa109_0,Fn109_0 f109_0⟩:=inst_ok eo109_0 followsTry is109 ⟨⟨sh109,cm109_0,em109_0,gm109_0,fm109_0⟩⟩
abbrev nt91:Nat:=31
def sh91:SG:=[(9,[.cpx .f64,.int .i64]),(19,iS 3),(27,iS 3)]
def tr91:TG:=[tT 0 [1,2,4],tT 1 [1,4,6,7],tT 2 [1,4,6,7,14],tT 3 [4,5],tT 4 [4,6,7],tT 5 [4,6,7,24],tT 6 [4,5],tT 7 [4,5]]
def tl91:TG:=[]
def ac91:ACode:=codeF Pg Tryz.f91 tr91 tl91
def rs91:List AResV:=resF Pg Tryz.f91
def pr91_0_0:PT (List RV):=pRs [pR true [rD (dX .f64),rD (dI .i64)],wI]
def ur91_0_0 {β:Type}(g:List RV->β):Nat->Nat->Int->Int->β:=pr91_0_0.unc g
def E91_0g (a:Tf61_0)(b:Tf125_0)(c:Tf127_0):EnvK:=EnvK.of [⟨61,nt61,[⟨pa61_0,Fn61_0 a⟩]⟩,⟨125,nt125,[⟨pa125_0,Fn125_0 b⟩]⟩,⟨127,nt127,[⟨pa127_0,Fn127_0 c⟩]⟩] noSeq
def E91_0:EnvK:=E91_0g f61_0 f125_0 f127_0
theorem eo91_0:E91_0.Ok Pg:=EnvK.of_ok noSeq_ok ⟨⟨io61_0,TT⟩,⟨io125_0,TT⟩,⟨io127_0,TT⟩,TT⟩
abbrev Tf91_0:Type 1:=(α:Type)->Nat->Nat->Int->Int->(Nat->Nat->Int->Int->Op α)->Op α
def f91_0g (d:Tf125_0)(e:Tf127_0)(g:Tf61_0)(α:Type)(h i:Nat)(a j:Int)(k1:Nat->Nat->Int->Int->Op α):Op α:=
 g α h i a
 (fun l m b=>cK (b != 0)
 (k1 0 0 0 b)
 (d α l m j
 (fun o p c=>cK (c != 0)
 (k1 0 0 0 c)
 (e α o p a
 (fun q r s t=>k1 q r s t)))))
def f91_0 (α:Type)(a b:Nat)(c d:Int)(k1:Nat->Nat->Int->Int->Op α):Op α:=f91_0g f125_0 f127_0 f61_0 α a b c d k1
def pa91_0:PT (List DV):=pA [pV true [(dX .f64),(dI .i64)],pV false [(dFn 125 [(dP [(dI .i64)] 0)])]]
def Fn91_0 (v:Tf91_0)(α:Type)(k:RT α):Nat->Nat->Int->Int->Op α:=fun a b c d=>v α a b c d (fun e g h i=>ur91_0_0 k e g h i)
def cm91_0g:MCode:=(emb ac91)
def cm91_0:MCode:=cm91_0g
theorem gm91_0:cm91_0.Good Pg E91_0 sh91:=(emb_good ac91)
theorem em91_0:cm91_0.erase=ac91:=(emb_erase _)
theorem fm91_0g (a:Tf61_0)(b:Tf125_0)(c:Tf127_0)(α:Type)(k:RT α):Fn91_0 (f91_0g b c a) α k=pa91_0.unc fun ds=>fnM Pg (E91_0g a b c) sh91 (cm91_0g ) rs91 k ds:=by kernel_rfl
theorem fm91_0:∀ (α:Type) (k:RT α),Fn91_0 f91_0 α k=pa91_0.unc fun ds=>fnM Pg E91_0 sh91 cm91_0 rs91 k ds:=fm91_0g f61_0 f125_0 f127_0
theorem is91:FnIs Pg 91 nt91 tr91 tl91 ac91 rs91:=codeF_is Tryz.func91 (by kernel_rfl)
theorem io91_0:InstOk Pg 91 nt91 ⟨pa91_0,Fn91_0 f91_0⟩:=inst_ok eo91_0 followsTry is91 ⟨⟨sh91,cm91_0,em91_0,gm91_0,fm91_0⟩⟩
def pr91_1_0:PT (List RV):=pRs [pR true [rD (dX .f64),rD (dI .i64)],wI]
def ur91_1_0 {β:Type}(g:List RV->β):Nat->Nat->Int->Int->β:=pr91_1_0.unc g
def E91_1g (a:Tf61_0)(b:Tf142_0)(c:Tf127_0):EnvK:=EnvK.of [⟨61,nt61,[⟨pa61_0,Fn61_0 a⟩]⟩,⟨142,nt142,[⟨pa142_0,Fn142_0 b⟩]⟩,⟨127,nt127,[⟨pa127_0,Fn127_0 c⟩]⟩] noSeq
def E91_1:EnvK:=E91_1g f61_0 f142_0 f127_0
theorem eo91_1:E91_1.Ok Pg:=EnvK.of_ok noSeq_ok ⟨⟨io61_0,TT⟩,⟨io142_0,TT⟩,⟨io127_0,TT⟩,TT⟩
abbrev Tf91_1:Type 1:=(α:Type)->Nat->Nat->Int->Int->Int->Int->(Nat->Nat->Int->Int->Op α)->Op α
def f91_1g (c:Tf127_0)(d:Tf142_0)(e:Tf61_0)(α:Type)(g h:Nat)(a i j l:Int)(k1:Nat->Nat->Int->Int->Op α):Op α:=
 e α g h a
 (fun m o b=>cK (b != 0)
 (k1 0 0 0 b)
 (d α m o a i j l
 (fun p q r=>c α p q r
 (fun s t w z=>k1 s t w z))))
def f91_1 (α:Type)(a b:Nat)(c d e g:Int)(k1:Nat->Nat->Int->Int->Op α):Op α:=f91_1g f127_0 f142_0 f61_0 α a b c d e g k1
def pa91_1:PT (List DV):=pA [pV true [(dX .f64),(dI .i64)],pV false [(dFn 142 [(dP [(dFn 112 [])] 0),(dP [(dI .i64),(dI .i64),(dI .i64)] 0)])]]
def Fn91_1 (v:Tf91_1)(α:Type)(k:RT α):Nat->Nat->I4 (Op α):=fun a b c d e g=>v α a b c d e g (fun h i j l=>ur91_1_0 k h i j l)
def cm91_1g:MCode:=(emb ac91)
def cm91_1:MCode:=cm91_1g
theorem gm91_1:cm91_1.Good Pg E91_1 sh91:=(emb_good ac91)
theorem em91_1:cm91_1.erase=ac91:=(emb_erase _)
theorem fm91_1g (a:Tf61_0)(b:Tf142_0)(c:Tf127_0)(α:Type)(k:RT α):Fn91_1 (f91_1g c b a) α k=pa91_1.unc fun ds=>fnM Pg (E91_1g a b c) sh91 (cm91_1g ) rs91 k ds:=by kernel_rfl
theorem fm91_1:∀ (α:Type) (k:RT α),Fn91_1 f91_1 α k=pa91_1.unc fun ds=>fnM Pg E91_1 sh91 cm91_1 rs91 k ds:=fm91_1g f61_0 f142_0 f127_0
theorem io91_1:InstOk Pg 91 nt91 ⟨pa91_1,Fn91_1 f91_1⟩:=inst_ok eo91_1 followsTry is91 ⟨⟨sh91,cm91_1,em91_1,gm91_1,fm91_1⟩⟩
def pr91_2_0:PT (List RV):=pRs [pR true [rD (dX .f64),rD (dI .i64)],wI]
def ur91_2_0 {β:Type}(g:List RV->β):Nat->Nat->Int->Int->β:=pr91_2_0.unc g
def E91_2g (a:Tf61_0)(b:Tf142_1)(c:Tf127_0):EnvK:=EnvK.of [⟨61,nt61,[⟨pa61_0,Fn61_0 a⟩]⟩,⟨142,nt142,[⟨pa142_1,Fn142_1 b⟩]⟩,⟨127,nt127,[⟨pa127_0,Fn127_0 c⟩]⟩] noSeq
def E91_2:EnvK:=E91_2g f61_0 f142_1 f127_0
theorem eo91_2:E91_2.Ok Pg:=EnvK.of_ok noSeq_ok ⟨⟨io61_0,TT⟩,⟨io142_1,TT⟩,⟨io127_0,TT⟩,TT⟩
abbrev Tf91_2:Type 1:=(α:Type)->Nat->Nat->Int->Int->Int->Int->(Nat->Nat->Int->Int->Op α)->Op α
def f91_2g (c:Tf127_0)(d:Tf142_1)(e:Tf61_0)(α:Type)(g h:Nat)(a i j l:Int)(k1:Nat->Nat->Int->Int->Op α):Op α:=
 e α g h a
 (fun m o b=>cK (b != 0)
 (k1 0 0 0 b)
 (d α m o a i j l
 (fun p q r=>c α p q r
 (fun s t w z=>k1 s t w z))))
def f91_2 (α:Type)(a b:Nat)(c d e g:Int)(k1:Nat->Nat->Int->Int->Op α):Op α:=f91_2g f127_0 f142_1 f61_0 α a b c d e g k1
def pa91_2:PT (List DV):=pA [pV true [(dX .f64),(dI .i64)],pV false [(dFn 142 [(dP [(dFn 114 [])] 0),(dP [(dI .i64),(dI .i64),(dI .i64)] 0)])]]
def Fn91_2 (v:Tf91_2)(α:Type)(k:RT α):Nat->Nat->I4 (Op α):=fun a b c d e g=>v α a b c d e g (fun h i j l=>ur91_2_0 k h i j l)
def cm91_2g:MCode:=(emb ac91)
def cm91_2:MCode:=cm91_2g
theorem gm91_2:cm91_2.Good Pg E91_2 sh91:=(emb_good ac91)
theorem em91_2:cm91_2.erase=ac91:=(emb_erase _)
theorem fm91_2g (a:Tf61_0)(b:Tf142_1)(c:Tf127_0)(α:Type)(k:RT α):Fn91_2 (f91_2g c b a) α k=pa91_2.unc fun ds=>fnM Pg (E91_2g a b c) sh91 (cm91_2g ) rs91 k ds:=by kernel_rfl
theorem fm91_2:∀ (α:Type) (k:RT α),Fn91_2 f91_2 α k=pa91_2.unc fun ds=>fnM Pg E91_2 sh91 cm91_2 rs91 k ds:=fm91_2g f61_0 f142_1 f127_0
theorem io91_2:InstOk Pg 91 nt91 ⟨pa91_2,Fn91_2 f91_2⟩:=inst_ok eo91_2 followsTry is91 ⟨⟨sh91,cm91_2,em91_2,gm91_2,fm91_2⟩⟩
def pr91_3_0:PT (List RV):=pRs [pR true [rD (dX .f64),rD (dI .i64)],wI]
def ur91_3_0 {β:Type}(g:List RV->β):Nat->Nat->Int->Int->β:=pr91_3_0.unc g
def E91_3g (a:Tf61_0)(b:Tf142_2)(c:Tf127_0):EnvK:=EnvK.of [⟨61,nt61,[⟨pa61_0,Fn61_0 a⟩]⟩,⟨142,nt142,[⟨pa142_2,Fn142_2 b⟩]⟩,⟨127,nt127,[⟨pa127_0,Fn127_0 c⟩]⟩] noSeq
def E91_3:EnvK:=E91_3g f61_0 f142_2 f127_0
theorem eo91_3:E91_3.Ok Pg:=EnvK.of_ok noSeq_ok ⟨⟨io61_0,TT⟩,⟨io142_2,TT⟩,⟨io127_0,TT⟩,TT⟩
abbrev Tf91_3:Type 1:=(α:Type)->Nat->Nat->Int->Int->Int->Int->(Nat->Nat->Int->Int->Op α)->Op α
def f91_3g (c:Tf127_0)(d:Tf142_2)(e:Tf61_0)(α:Type)(g h:Nat)(a i j l:Int)(k1:Nat->Nat->Int->Int->Op α):Op α:=
 e α g h a
 (fun m o b=>cK (b != 0)
 (k1 0 0 0 b)
 (d α m o a i j l
 (fun p q r=>c α p q r
 (fun s t w z=>k1 s t w z))))
def f91_3 (α:Type)(a b:Nat)(c d e g:Int)(k1:Nat->Nat->Int->Int->Op α):Op α:=f91_3g f127_0 f142_2 f61_0 α a b c d e g k1
def pa91_3:PT (List DV):=pA [pV true [(dX .f64),(dI .i64)],pV false [(dFn 142 [(dP [(dFn 122 [])] 0),(dP [(dI .i64),(dI .i64),(dI .i64)] 0)])]]
def Fn91_3 (v:Tf91_3)(α:Type)(k:RT α):Nat->Nat->I4 (Op α):=fun a b c d e g=>v α a b c d e g (fun h i j l=>ur91_3_0 k h i j l)
def cm91_3g:MCode:=(emb ac91)
def cm91_3:MCode:=cm91_3g
theorem gm91_3:cm91_3.Good Pg E91_3 sh91:=(emb_good ac91)
theorem em91_3:cm91_3.erase=ac91:=(emb_erase _)
theorem fm91_3g (a:Tf61_0)(b:Tf142_2)(c:Tf127_0)(α:Type)(k:RT α):Fn91_3 (f91_3g c b a) α k=pa91_3.unc fun ds=>fnM Pg (E91_3g a b c) sh91 (cm91_3g ) rs91 k ds:=by kernel_rfl
theorem fm91_3:∀ (α:Type) (k:RT α),Fn91_3 f91_3 α k=pa91_3.unc fun ds=>fnM Pg E91_3 sh91 cm91_3 rs91 k ds:=fm91_3g f61_0 f142_2 f127_0
theorem io91_3:InstOk Pg 91 nt91 ⟨pa91_3,Fn91_3 f91_3⟩:=inst_ok eo91_3 followsTry is91 ⟨⟨sh91,cm91_3,em91_3,gm91_3,fm91_3⟩⟩
def pr91_4_0:PT (List RV):=pRs [pR true [rD (dX .f64),rD (dI .i64)],wI]
def ur91_4_0 {β:Type}(g:List RV->β):Nat->Nat->Int->Int->β:=pr91_4_0.unc g
def E91_4g (a:Tf61_0)(b:Tf92_0)(c:Tf127_0):EnvK:=EnvK.of [⟨61,nt61,[⟨pa61_0,Fn61_0 a⟩]⟩,⟨92,nt92,[⟨pa92_0,Fn92_0 b⟩]⟩,⟨127,nt127,[⟨pa127_0,Fn127_0 c⟩]⟩] noSeq
def E91_4:EnvK:=E91_4g f61_0 f92_0 f127_0
theorem eo91_4:E91_4.Ok Pg:=EnvK.of_ok noSeq_ok ⟨⟨io61_0,TT⟩,⟨io92_0,TT⟩,⟨io127_0,TT⟩,TT⟩
abbrev Tf91_4:Type 1:=(α:Type)->Nat->Nat->Int->(Nat->Nat->Int->Int->Op α)->Op α
def f91_4g (d:Tf127_0)(e:Tf61_0)(g:Tf92_0)(α:Type)(h i:Nat)(a:Int)(k1:Nat->Nat->Int->Int->Op α):Op α:=
 e α h i a
 (fun j l b=>cK (b != 0)
 (k1 0 0 0 b)
 (g α j l a
 (fun m o p c=>cK (c != 0)
 (k1 0 0 0 c)
 (d α m o p
 (fun q r s t=>k1 q r s t)))))
def f91_4 (α:Type)(a b:Nat)(c:Int)(k1:Nat->Nat->Int->Int->Op α):Op α:=f91_4g f127_0 f61_0 f92_0 α a b c k1
def pa91_4:PT (List DV):=pA [pV true [(dX .f64),(dI .i64)],pV false [(dFn 92 [])]]
def Fn91_4 (v:Tf91_4)(α:Type)(k:RT α):Nat->Nat->Int->Op α:=fun a b c=>v α a b c (fun d e g h=>ur91_4_0 k d e g h)
def cm91_4g:MCode:=(emb ac91)
def cm91_4:MCode:=cm91_4g
theorem gm91_4:cm91_4.Good Pg E91_4 sh91:=(emb_good ac91)
theorem em91_4:cm91_4.erase=ac91:=(emb_erase _)
theorem fm91_4g (a:Tf61_0)(b:Tf92_0)(c:Tf127_0)(α:Type)(k:RT α):Fn91_4 (f91_4g c a b) α k=pa91_4.unc fun ds=>fnM Pg (E91_4g a b c) sh91 (cm91_4g ) rs91 k ds:=by kernel_rfl
theorem fm91_4:∀ (α:Type) (k:RT α),Fn91_4 f91_4 α k=pa91_4.unc fun ds=>fnM Pg E91_4 sh91 cm91_4 rs91 k ds:=fm91_4g f61_0 f92_0 f127_0
theorem io91_4:InstOk Pg 91 nt91 ⟨pa91_4,Fn91_4 f91_4⟩:=inst_ok eo91_4 followsTry is91 ⟨⟨sh91,cm91_4,em91_4,gm91_4,fm91_4⟩⟩
def pr91_5_0:PT (List RV):=pRs [pR true [rD (dX .f64),rD (dI .i64)],wI]
def ur91_5_0 {β:Type}(g:List RV->β):Nat->Nat->Int->Int->β:=pr91_5_0.unc g
def E91_5g (a:Tf61_0)(b:Tf142_3)(c:Tf127_0):EnvK:=EnvK.of [⟨61,nt61,[⟨pa61_0,Fn61_0 a⟩]⟩,⟨142,nt142,[⟨pa142_3,Fn142_3 b⟩]⟩,⟨127,nt127,[⟨pa127_0,Fn127_0 c⟩]⟩] noSeq
def E91_5:EnvK:=E91_5g f61_0 f142_3 f127_0
theorem eo91_5:E91_5.Ok Pg:=EnvK.of_ok noSeq_ok ⟨⟨io61_0,TT⟩,⟨io142_3,TT⟩,⟨io127_0,TT⟩,TT⟩
abbrev Tf91_5:Type 1:=(α:Type)->Nat->Nat->Int->Int->Int->Int->(Nat->Nat->Int->Int->Op α)->Op α
def f91_5g (d:Tf127_0)(e:Tf142_3)(g:Tf61_0)(α:Type)(h i:Nat)(a j l m:Int)(k1:Nat->Nat->Int->Int->Op α):Op α:=
 g α h i a
 (fun o p b=>cK (b != 0)
 (k1 0 0 0 b)
 (e α o p a j l m
 (fun q r s c=>cK (c != 0)
 (k1 0 0 0 c)
 (d α q r s
 (fun t w z A=>k1 t w z A)))))
def f91_5 (α:Type)(a b:Nat)(c d e g:Int)(k1:Nat->Nat->Int->Int->Op α):Op α:=f91_5g f127_0 f142_3 f61_0 α a b c d e g k1
def pa91_5:PT (List DV):=pA [pV true [(dX .f64),(dI .i64)],pV false [(dFn 142 [(dP [(dFn 118 [])] 0),(dP [(dI .i64),(dI .i64),(dI .i64)] 0)])]]
def Fn91_5 (v:Tf91_5)(α:Type)(k:RT α):Nat->Nat->I4 (Op α):=fun a b c d e g=>v α a b c d e g (fun h i j l=>ur91_5_0 k h i j l)
def cm91_5g:MCode:=(emb ac91)
def cm91_5:MCode:=cm91_5g
theorem gm91_5:cm91_5.Good Pg E91_5 sh91:=(emb_good ac91)
theorem em91_5:cm91_5.erase=ac91:=(emb_erase _)
theorem fm91_5g (a:Tf61_0)(b:Tf142_3)(c:Tf127_0)(α:Type)(k:RT α):Fn91_5 (f91_5g c b a) α k=pa91_5.unc fun ds=>fnM Pg (E91_5g a b c) sh91 (cm91_5g ) rs91 k ds:=by kernel_rfl
theorem fm91_5:∀ (α:Type) (k:RT α),Fn91_5 f91_5 α k=pa91_5.unc fun ds=>fnM Pg E91_5 sh91 cm91_5 rs91 k ds:=fm91_5g f61_0 f142_3 f127_0
theorem io91_5:InstOk Pg 91 nt91 ⟨pa91_5,Fn91_5 f91_5⟩:=inst_ok eo91_5 followsTry is91 ⟨⟨sh91,cm91_5,em91_5,gm91_5,fm91_5⟩⟩
abbrev nt29:Nat:=21
def sh29:SG:=[(9,iT),(14,[.cpx .f64,.int .i64]),(20,iS 4)]
def tr29:TG:=[tT 0 [0,3,4],tT 1 [0,3,4,10],tT 2 [0,4],tT 3 [0,3,4,5],tT 4 [0,4,5],tT 5 [0,4]]
def tl29:TG:=[]
def ac29:ACode:=codeF Pg Tryz.f29 tr29 tl29
def rs29:List AResV:=resF Pg Tryz.f29
def pr29_0_0:PT (List RV):=pRs [pR true [rD (dI .i64),rD (dI .i64),rD (dI .i64),rD (dI .i64)],pR true [rD (dI .i64),rD (dI .i64),rD (dI .i64),rD (dI .i64),rD (dI .i64),rD (dI .i64),rD (dI .i64),rD dL,rD (dI .i64),rD (dI .i64)]]
def ur29_0_0 {β:Type}(g:List RV->β):Int->Int->Int->Int->Int->Int->Int->Int->Int->Int->Int->Rows->Int->Int->β:=pr29_0_0.unc g
def E29_0g (a:Tf54_0):EnvK:=EnvK.of [⟨54,nt54,[⟨pa54_0,Fn54_0 a⟩]⟩] noSeq
def E29_0:EnvK:=E29_0g f54_0
theorem eo29_0:E29_0.Ok Pg:=EnvK.of_ok noSeq_ok ⟨⟨io54_0,TT⟩,TT⟩
abbrev Tf29_0:Type 1:=(α:Type)->Int->Nat->Nat->Int->(I5 (Op α))->Op α
def f29_0g (b:Tf54_0)(α:Type)(a:Int)(c d:Nat)(e:Int)(k1:I5 (Op α)):Op α:=
 cK (a != 0)
 (k1 0 0 0 0 a)
 (b α c d e
 (fun g h i j l=>k1 g h i j l))
def f29_0 (α:Type)(a:Int)(b c:Nat)(d:Int)(k1:I5 (Op α)):Op α:=f29_0g f54_0 α a b c d k1
def pa29_0:PT (List DV):=pA [pV false [(dMr [(dI .i64),(dI .i64),(dI .i64),(dI .i64),(dI .i64),(dI .i64),(dI .i64),dL,(dI .i64),(dI .i64)] 0)],pV true [(dX .f64),(dI .i64)]]
def Fn29_0 (v:Tf29_0)(α:Type)(k:RT α):Int->Int->Int->Int->Int->Int->Int->Rows->Int->Int->Nat->Nat->Int->Op α:=fun a b c d e g h i j l m o p=>v α a m o p (fun q r s t w=>ur29_0_0 k q r s t w b c d e g h i j l)
def cm29_0g:MCode:=(emb ac29)
def cm29_0:MCode:=cm29_0g
theorem gm29_0:cm29_0.Good Pg E29_0 sh29:=(emb_good ac29)
theorem em29_0:cm29_0.erase=ac29:=(emb_erase _)
theorem fm29_0g (a:Tf54_0)(α:Type)(k:RT α):Fn29_0 (f29_0g a) α k=pa29_0.unc fun ds=>fnM Pg (E29_0g a) sh29 (cm29_0g ) rs29 k ds:=by kernel_rfl
theorem fm29_0:∀ (α:Type) (k:RT α),Fn29_0 f29_0 α k=pa29_0.unc fun ds=>fnM Pg E29_0 sh29 cm29_0 rs29 k ds:=fm29_0g f54_0
theorem is29:FnIs Pg 29 nt29 tr29 tl29 ac29 rs29:=codeF_is Tryz.func29 (by kernel_rfl)
theorem io29_0:InstOk Pg 29 nt29 ⟨pa29_0,Fn29_0 f29_0⟩:=inst_ok eo29_0 followsTry is29 ⟨⟨sh29,cm29_0,em29_0,gm29_0,fm29_0⟩⟩
end
end Go.AM.K
