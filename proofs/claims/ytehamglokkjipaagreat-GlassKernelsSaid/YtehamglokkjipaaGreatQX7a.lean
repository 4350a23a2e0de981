/- Printed by KGen. -/
import Derived.Test.YtehamglokkjipaaGreatQGAcX
import Derived.Test.YtehamglokkjipaaGreatKMa
namespace Go.AM.K
open Go.Proofs
set_option maxRecDepth 100000
set_option linter.unusedVariables false
noncomputable section
abbrev Pg:=Tryz.prog
abbrev nt71:Nat:=21
def sh71:SG:=[]
def r71_2:LA:=[oO 4 (.mv (.const (.bool false)))]
def r71_4:LA:=[oM 5 0,oO 6 (.pure (oB (.call { callee:=.builtin .real,args:=#[(.tmp 5)],argTypes:=#[43] }) 117)),oO 7 (.pure (oB (.call { callee:=.value (.func 110),args:=#[(.tmp 6)],argTypes:=#[117] }) 164)),oM 8 1,oO 9 (.pure (oB (.call { callee:=.builtin .real,args:=#[(.tmp 8)],argTypes:=#[43] }) 117)),oO 10 (.pure (oB (.call { callee:=.value (.func 110),args:=#[(.tmp 9)],argTypes:=#[117] }) 164)),oO 11 (.bin .eql 164 (.tmp 7) (.tmp 10)),oM 12 11,oG 13 (.mv (.tmp 0)) 12 true,oG 14 (.pure (oB (.call { callee:=.builtin .imag,args:=#[(.tmp 13)],argTypes:=#[43] }) 117)) 12 true,oG 15 (.pure (oB (.call { callee:=.value (.func 110),args:=#[(.tmp 14)],argTypes:=#[117] }) 164)) 12 true,oG 16 (.mv (.tmp 1)) 12 true,oG 17 (.pure (oB (.call { callee:=.builtin .imag,args:=#[(.tmp 16)],argTypes:=#[43] }) 117)) 12 true,oG 18 (.pure (oB (.call { callee:=.value (.func 110),args:=#[(.tmp 17)],argTypes:=#[117] }) 164)) 12 true,oG 19 (.bin .eql 164 (.tmp 15) (.tmp 18)) 12 true,oO 20 (.pick (.tmp 12) (.tmp 19) (.const (.bool false))),oM 4 20]
def tr71:TG:=[tT 0 [0,1],tT 1 [4]]
def tl71:TG:=[]
def rs71:List AResV:=[.tmp 4]
def pr71_0_0:PT (List RV):=pRs [pR false [rD dB]]
def ur71_0_0 {β:Type}(g:List RV->β):Bool->β:=pr71_0_0.unc g
def E71_0g:EnvK:=EnvK.of [] noSeq
def E71_0:EnvK:=E71_0g
theorem eo71_0:E71_0.Ok Pg:=EnvK.of_ok noSeq_ok trivial
abbrev Tf71_0:Type 1:=(α:Type)->Nat->Nat->Nat->Nat->(Bool->Op α)->Op α
def f71_0g (α:Type)(a b c d:Nat)(k1:Bool->Op α):Op α:=
 cK (((a:Nat):Int) == ((c:Nat):Int))
 (k1 (((b:Nat):Int) == ((d:Nat):Int)))
 (k1 false)
def f71_0 (α:Type)(a b c d:Nat)(k1:Bool->Op α):Op α:=f71_0g α a b c d k1
def pa71_0:PT (List DV):=pA [pV false [(dX .f64)],pV false [(dX .f64)]]
def Fn71_0 (v:Tf71_0)(α:Type)(k:RT α):Nat->Nat->Nat->Nat->Op α:=fun a b c d=>v α a b c d (fun e=>ur71_0_0 k e)
def cm71_0g:MCode:=(.seq (.region r71_2 [] (tO [0,1])) (.seq (.region r71_4 [] (tO [4])) .ret))
def cm71_0:MCode:=cm71_0g
theorem gm71_0:cm71_0.Good Pg E71_0 sh71:=⟨trivial,trivial,trivial⟩
theorem fm71_0g (α:Type)(k:RT α):Fn71_0 (f71_0g ) α k=pa71_0.unc fun ds=>fnM Pg (E71_0g ) sh71 (cm71_0g ) rs71 k ds:=by kernel_rfl
theorem fm71_0:∀ (α:Type) (k:RT α),Fn71_0 f71_0 α k=pa71_0.unc fun ds=>fnM Pg E71_0 sh71 cm71_0 rs71 k ds:=fm71_0g
theorem is71:FnIs Pg 71 nt71 tr71 tl71 cm71_0.erase rs71:=⟨Tryz.f71,Tryz.func71,rfl,by kernel_rfl,by kernel_rfl,by kernel_rfl⟩
theorem io71_0:InstOk Pg 71 nt71 ⟨pa71_0,Fn71_0 f71_0⟩:=inst_ok eo71_0 followsTry is71 ⟨⟨sh71,cm71_0,by kernel_rfl,gm71_0,fm71_0⟩⟩
abbrev nt126:Nat:=24
def sh126:SG:=[(8,iT),(10,iT),(13,iT),(15,iT)]
def r126_2:LA:=[oO 2 (.box (.tmp 0)),oO 3 (.box (.tmp 1)),mK 4 0]
def r126_4:LA:=[fA 7 0 2,lD 8 7,fA 9 0 3,lD 10 9,bT 11 .sub 8 10,fA 12 1 2,lD 13 12,fA 14 1 3,lD 15 14,bT 16 .sub 13 15,oM 5 11,oM 6 16]
def r126_6:LA:=[oM 17 5,oM 18 5,bT 19 .mul 17 18,oM 20 6,oM 21 6,bT 22 .mul 20 21,bT 23 .add 19 22,oM 4 23]
def tr126:TG:=[tT 0 [2,3],tT 1 [5,6],tT 2 [4]]
def tl126:TG:=[]
def rs126:List AResV:=[.tmp 4]
def pr126_0_0:PT (List RV):=pRs [wI]
def ur126_0_0 {β:Type}(g:List RV->β):Int->β:=pr126_0_0.unc g
def E126_0g:EnvK:=EnvK.of [] noSeq
def E126_0:EnvK:=E126_0g
theorem eo126_0:E126_0.Ok Pg:=EnvK.of_ok noSeq_ok trivial
abbrev Tf126_0:Type 1:=(α:Type)->Int->Int->Int->Int->(Int->Op α)->Op α
def f126_0g (α:Type)(a b c d:Int)(k1:Int->Op α):Op α:=
 k1 (w64 ((w64 ((w64 (a - c))*(w64 (a - c))))+(w64 ((w64 (b - d))*(w64 (b - d))))))
def f126_0 (α:Type)(a b c d:Int)(k1:Int->Op α):Op α:=f126_0g α a b c d k1
def pa126_0:PT (List DV):=pA [pV true [(dI .i64),(dI .i64),(dI .i64)],pV true [(dI .i64),(dI .i64),(dI .i64)]]
def Fn126_0 (v:Tf126_0)(α:Type)(k:RT α):I6 (Op α):=fun a b g c d h=>v α a b c d (fun e=>ur126_0_0 k e)
def cm126_0g:MCode:=(.seq (.region r126_2 [] (tO [2,3])) (.seq (.region r126_4 [] (tO [5,6])) (.seq (.region r126_6 [] (tO [4])) .ret)))
def cm126_0:MCode:=cm126_0g
theorem gm126_0:cm126_0.Good Pg E126_0 sh126:=⟨trivial,trivial,trivial,trivial⟩
theorem fm126_0g (α:Type)(k:RT α):Fn126_0 (f126_0g ) α k=pa126_0.unc fun ds=>fnM Pg (E126_0g ) sh126 (cm126_0g ) rs126 k ds:=by kernel_rfl
theorem fm126_0:∀ (α:Type) (k:RT α),Fn126_0 f126_0 α k=pa126_0.unc fun ds=>fnM Pg E126_0 sh126 cm126_0 rs126 k ds:=fm126_0g
theorem is126:FnIs Pg 126 nt126 tr126 tl126 cm126_0.erase rs126:=⟨Tryz.f126,Tryz.func126,rfl,by kernel_rfl,by kernel_rfl,by kernel_rfl⟩
theorem io126_0:InstOk Pg 126 nt126 ⟨pa126_0,Fn126_0 f126_0⟩:=inst_ok eo126_0 followsTry is126 ⟨⟨sh126,cm126_0,by kernel_rfl,gm126_0,fm126_0⟩⟩
abbrev nt149:Nat:=4
def sh149:SG:=[]
def r149_2:LA:=[mK 2 0]
def r149_5:LA:=[oM 3 0]
def r149_8:LA:=[mK 2 1]
def r149_10:LA:=[mK 2 0]
def tr149:TG:=[tT 0 [0],tT 1 [3],tT 2 [2],tT 3 [2]]
def tl149:TG:=[]
def rs149:List AResV:=[.tmp 2]
def pr149_0_0:PT (List RV):=pRs [wI]
def ur149_0_0 {β:Type}(g:List RV->β):Int->β:=pr149_0_0.unc g
def E149_0g:EnvK:=EnvK.of [] noSeq
def E149_0:EnvK:=E149_0g
theorem eo149_0:E149_0.Ok Pg:=EnvK.of_ok noSeq_ok trivial
abbrev Tf149_0:Type 1:=(α:Type)->Bool->(Int->Op α)->Op α
def f149_0g (α:Type)(a:Bool)(k1:Int->Op α):Op α:=
 cK a
 (k1 1)
 (k1 0)
def f149_0 (α:Type)(a:Bool)(k1:Int->Op α):Op α:=f149_0g α a k1
def pa149_0:PT (List DV):=pA [pV false [dB]]
def Fn149_0 (v:Tf149_0)(α:Type)(k:RT α):Bool->Op α:=fun a=>v α a (fun b=>ur149_0_0 k b)
def cm149_0g:MCode:=(.seq (.region r149_2 [] (tO [0])) (.seq (.seq (.region r149_5 [] (tO [3])) (.cond (.tmp 3) (.seq (.region r149_8 [] (tO [2])) .ret) .skip)) (.seq (.region r149_10 [] (tO [2])) .ret)))
def cm149_0:MCode:=cm149_0g
theorem gm149_0:cm149_0.Good Pg E149_0 sh149:=⟨trivial,⟨trivial,⟨trivial,trivial⟩,trivial⟩,trivial,trivial⟩
theorem fm149_0g (α:Type)(k:RT α):Fn149_0 (f149_0g ) α k=pa149_0.unc fun ds=>fnM Pg (E149_0g ) sh149 (cm149_0g ) rs149 k ds:=by kernel_rfl
theorem fm149_0:∀ (α:Type) (k:RT α),Fn149_0 f149_0 α k=pa149_0.unc fun ds=>fnM Pg E149_0 sh149 cm149_0 rs149 k ds:=fm149_0g
theorem is149:FnIs Pg 149 nt149 tr149 tl149 cm149_0.erase rs149:=⟨Tryz.f149,Tryz.func149,rfl,by kernel_rfl,by kernel_rfl,by kernel_rfl⟩
theorem io149_0:InstOk Pg 149 nt149 ⟨pa149_0,Fn149_0 f149_0⟩:=inst_ok eo149_0 followsTry is149 ⟨⟨sh149,cm149_0,by kernel_rfl,gm149_0,fm149_0⟩⟩
abbrev nt171:Nat:=22
def sh171:SG:=[]
def r171_2:LA:=[mK 2 0]
def r171_4:LA:=[mK 3 0,mK 4 1073741824]
def td171_7:OT:=(tO [0,3,4])
def r171_10:LA:=[oM 5 4,bK 6 .gtr 5 0]
def r171_15:LA:=[oM 7 3,oM 8 4,bT 9 .add 7 8,oM 10 3,oM 11 4,bT 12 .add 10 11,bT 13 .mul 9 12,oM 14 0,bT 15 .leq 13 14]
def r171_17:LA:=[oM 16 3,oM 17 4,bT 18 .add 16 17,oM 3 18]
def r171_18:LA:=[oM 19 4,bK 20 .quo 19 2,oM 4 20]
def r171_20:LA:=[oM 21 3,oM 2 21]
def tr171:TG:=[tT 0 [0],tT 1 [0,3,4],tT 2 [0,3,4,6],tT 3 [0,3,4,15],tT 4 [0,3,4],tT 5 [0,3,4],tT 6 [2]]
def tl171:TG:=[tT 2 [0,3,4]]
def rs171:List AResV:=[.tmp 2]
def p171_0_0:PT St:=pS [sI 0,sI 3,sI 4] []
def u171_0_0 {β:Type}(g:St->β):Int->Int->Int->β:=p171_0_0.unc g
def p171_0_1:PT St:=pS [sI 0,sI 3,sI 4,sl 6 (aV false [(cD dB)])] []
def u171_0_1 {β:Type}(g:St->β):Int->Int->Int->Bool->β:=p171_0_1.unc g
def pr171_0_0:PT (List RV):=pRs [wI]
def ur171_0_0 {β:Type}(g:List RV->β):Int->β:=pr171_0_0.unc g
def E171_0g:EnvK:=EnvK.of [] noSeq
def E171_0:EnvK:=E171_0g
theorem eo171_0:E171_0.Ok Pg:=EnvK.of_ok noSeq_ok trivial
def c171_0_7g:MCode:=(.seq (.seq (.region r171_10 [] (tO [0,3,4,6])) (.cond (.tmp 6) .skip (.exit 0))) (.block 1 (.seq (.seq (.region r171_15 [] (tO [0,3,4,15])) (.cond (.tmp 15) (.region r171_17 [] (tO [0,3,4])) .skip)) (.region r171_18 [] (tO [0,3,4])))))
def c171_0_7:MCode:=c171_0_7g
theorem g171_0_7:c171_0_7.Good Pg E171_0 sh171:=⟨⟨trivial,trivial,trivial⟩,⟨trivial,trivial,trivial⟩,trivial⟩
def S171_0_0g (α:Type)(c b a:Int)(kn:Int->Int->Op α)(k1:Int->Int->Bool->Op α):Op α:=
 cK (decide (0 < a))
 (cK (decide ((w64 ((w64 (b+a))*(w64 (b+a))))<=c))
 (kn (w64 (b+a)) (w64 (Int.tdiv a 2)))
 (kn b (w64 (Int.tdiv a 2))))
 (k1 b a (decide (0 < a)))
def S171_0_0 (α:Type)(a b c:Int)(kn:Int->Int->Op α)(k1:Int->Int->Bool->Op α):Op α:=S171_0_0g α a b c kn k1
def R171_0_0 (α:Type)(a:Int)(k1:Int->Int->Bool->Op α):Nat->Int->Int->Op α
 | 0,_,_=>none
 | n+1,b,c=>S171_0_0 α a b c (R171_0_0 α a k1 n) k1
def L171_0_0 (α:Type)(a:Int)(k1:Int->Int->Bool->Op α)(b c:Int):Op α:=R171_0_0 α a k1 fuel b c
abbrev TL171_0_0:Type 1:=(α:Type)->Int->(Int->Int->Bool->Op α)->Int->Int->Op α
def F171_0_0 (v:TL171_0_0)(α:Type)(K:KT α):Int->Int->Int->Op α:=fun a b c=>v α a (fun d e g=>u171_0_1 (K (.exit 0)) a d e g) b c
theorem r171_0_0g (α:Type)(K:KT α)(Kn:SK α)(a b c:Int):u171_0_0 (fun σ=>runM Pg (E171_0g ) sh171 (c171_0_7g ) (thenK (fun σ=>tidyK td171_7 σ Kn) K) σ) a b c=S171_0_0g α a b c (fun b c=>u171_0_0 Kn a b c) (fun d e g=>u171_0_1 (K (.exit 0)) a d e g):=by kernel_rfl
theorem r171_0_0 (α:Type)(K:KT α)(Kn:SK α)(a b c:Int):u171_0_0 (fun σ=>runM Pg E171_0 sh171 c171_0_7 (thenK (fun σ=>tidyK td171_7 σ Kn) K) σ) a b c=S171_0_0 α a b c (fun b c=>u171_0_0 Kn a b c) (fun d e g=>u171_0_1 (K (.exit 0)) a d e g):=r171_0_0g α K Kn a b c
theorem t171_0_0 (α:Type)(K:KT α):∀ (n:Nat) (a b c:Int),R171_0_0 α a (fun d e g=>u171_0_1 (K (.exit 0)) a d e g) n b c=u171_0_0 (loopT (runM Pg E171_0 sh171 c171_0_7) td171_7 K n) a b c:=by
 intro n
 induction n with
 | zero=>intros;rfl
 | succ n ih=>intro a b c;exact (congrArg (fun kn=>S171_0_0 α a b c kn (fun d e g=>u171_0_1 (K (.exit 0)) a d e g)) (funext fun b=>funext fun c=>ih a b c)).trans (r171_0_0 α K (loopT (runM Pg E171_0 sh171 c171_0_7) td171_7 K n) a b c).symm
theorem m171_0_0:∀ (α:Type) (K:KT α),F171_0_0 L171_0_0 α K=p171_0_0.unc fun σ=>loopT (runM Pg E171_0 sh171 c171_0_7) td171_7 K fuel σ:=fun α K=>by funext a b c;exact t171_0_0 α K fuel a b c
abbrev Tf171_0:Type 1:=(α:Type)->Int->(Int->Op α)->Op α
def f171_0g (a:TL171_0_0)(α:Type)(b:Int)(k1:Int->Op α):Op α:=
 a α b
 (fun c d e=>k1 c) 0 1073741824
def f171_0 (α:Type)(a:Int)(k1:Int->Op α):Op α:=f171_0g L171_0_0 α a k1
def pa171_0:PT (List DV):=pA [vI]
def Fn171_0 (v:Tf171_0)(α:Type)(k:RT α):Int->Op α:=fun a=>v α a (fun b=>ur171_0_0 k b)
def cm171_0g (a:TL171_0_0):MCode:=(.seq (.region r171_2 [] (tO [0])) (.seq (.region r171_4 [] (tO [0,3,4])) (.seq (.block 0 (.loop td171_7 [⟨p171_0_0,F171_0_0 a⟩] c171_0_7)) (.seq (.region r171_20 [] (tO [2])) .ret))))
def cm171_0:MCode:=cm171_0g L171_0_0
theorem gm171_0:cm171_0.Good Pg E171_0 sh171:=⟨trivial,trivial,⟨g171_0_7,m171_0_0,trivial⟩,trivial,trivial⟩
theorem fm171_0g (a:TL171_0_0)(α:Type)(k:RT α):Fn171_0 (f171_0g a) α k=pa171_0.unc fun ds=>fnM Pg (E171_0g ) sh171 (cm171_0g a) rs171 k ds:=by kernel_rfl
theorem fm171_0:∀ (α:Type) (k:RT α),Fn171_0 f171_0 α k=pa171_0.unc fun ds=>fnM Pg E171_0 sh171 cm171_0 rs171 k ds:=fm171_0g L171_0_0
theorem is171:FnIs Pg 171 nt171 tr171 tl171 cm171_0.erase rs171:=⟨Tryz.f171,Tryz.func171,rfl,by kernel_rfl,by kernel_rfl,by kernel_rfl⟩
theorem io171_0:InstOk Pg 171 nt171 ⟨pa171_0,Fn171_0 f171_0⟩:=inst_ok eo171_0 followsTry is171 ⟨⟨sh171,cm171_0,by kernel_rfl,gm171_0,fm171_0⟩⟩
abbrev nt91:Nat:=14
def sh91:SG:=[]
def r91_2:LA:=[mK 4 0]
def r91_4:LA:=[oM 5 0,oM 6 1,bT 7 .rem 5 6,oM 0 7]
def r91_7:LA:=[oM 8 0,bK 9 .lss 8 0]
def r91_9:LA:=[oM 10 0,oM 11 1,bT 12 .add 10 11,oM 0 12]
def r91_11:LA:=[oM 13 0,oM 4 13]
def tr91:TG:=[tT 0 [0,1],tT 1 [0,1],tT 2 [0,1,9],tT 3 [0],tT 4 [4]]
def tl91:TG:=[]
def rs91:List AResV:=[.tmp 4]
def pr91_0_0:PT (List RV):=pRs [wI]
def ur91_0_0 {β:Type}(g:List RV->β):Int->β:=pr91_0_0.unc g
def E91_0g:EnvK:=EnvK.of [] noSeq
def E91_0:EnvK:=E91_0g
theorem eo91_0:E91_0.Ok Pg:=EnvK.of_ok noSeq_ok trivial
abbrev Tf91_0:Type 1:=(α:Type)->Int->Int->(Int->Op α)->Op α
def f91_0g (α:Type)(b a:Int)(k1:Int->Op α):Op α:=
 gK (a != 0) (cK (decide ((Int.tmod b a) < 0))
 (k1 (w64 ((Int.tmod b a)+a)))
 (k1 (Int.tmod b a)))
def f91_0 (α:Type)(a b:Int)(k1:Int->Op α):Op α:=f91_0g α a b k1
def pa91_0:PT (List DV):=pA [vI,vI]
def Fn91_0 (v:Tf91_0)(α:Type)(k:RT α):Int->Int->Op α:=fun a b=>v α a b (fun c=>ur91_0_0 k c)
def cm91_0g:MCode:=(.seq (.region r91_2 [] (tO [0,1])) (.seq (.region r91_4 [] (tO [0,1])) (.seq (.seq (.region r91_7 [] (tO [0,1,9])) (.cond (.tmp 9) (.region r91_9 [] (tO [0])) .skip)) (.seq (.region r91_11 [] (tO [4])) .ret))))
def cm91_0:MCode:=cm91_0g
theorem gm91_0:cm91_0.Good Pg E91_0 sh91:=⟨trivial,trivial,⟨trivial,trivial,trivial⟩,trivial,trivial⟩
theorem fm91_0g (α:Type)(k:RT α):Fn91_0 (f91_0g ) α k=pa91_0.unc fun ds=>fnM Pg (E91_0g ) sh91 (cm91_0g ) rs91 k ds:=by kernel_rfl
theorem fm91_0:∀ (α:Type) (k:RT α),Fn91_0 f91_0 α k=pa91_0.unc fun ds=>fnM Pg E91_0 sh91 cm91_0 rs91 k ds:=fm91_0g
theorem is91:FnIs Pg 91 nt91 tr91 tl91 cm91_0.erase rs91:=⟨Tryz.f91,Tryz.func91,rfl,by kernel_rfl,by kernel_rfl,by kernel_rfl⟩
theorem io91_0:InstOk Pg 91 nt91 ⟨pa91_0,Fn91_0 f91_0⟩:=inst_ok eo91_0 followsTry is91 ⟨⟨sh91,cm91_0,by kernel_rfl,gm91_0,fm91_0⟩⟩
abbrev nt76:Nat:=16
def sh76:SG:=[]
def r76_2:LA:=[mK 4 0]
def r76_4:LA:=[oM 6 0,oM 7 1,bT 8 .quo 6 7,oM 5 8]
def r76_7:LA:=[oM 9 0,oM 10 1,bT 11 .rem 9 10,bK 12 .lss 11 0]
def r76_9:LA:=[oM 13 5,bK 14 .sub 13 1,oM 5 14]
def r76_11:LA:=[oM 15 5,oM 4 15]
def tr76:TG:=[tT 0 [0,1],tT 1 [0,1,5],tT 2 [5,12],tT 3 [5],tT 4 [4]]
def tl76:TG:=[]
def rs76:List AResV:=[.tmp 4]
def pr76_0_0:PT (List RV):=pRs [wI]
def ur76_0_0 {β:Type}(g:List RV->β):Int->β:=pr76_0_0.unc g
def E76_0g:EnvK:=EnvK.of [] noSeq
def E76_0:EnvK:=E76_0g
theorem eo76_0:E76_0.Ok Pg:=EnvK.of_ok noSeq_ok trivial
abbrev Tf76_0:Type 1:=(α:Type)->Int->Int->(Int->Op α)->Op α
def f76_0g (α:Type)(b a:Int)(k1:Int->Op α):Op α:=
 gK (a != 0) (gK (a != 0) (cK (decide ((Int.tmod b a) < 0))
 (k1 (w64 ((w64 (Int.tdiv b a)) - 1)))
 (k1 (w64 (Int.tdiv b a)))))
def f76_0 (α:Type)(a b:Int)(k1:Int->Op α):Op α:=f76_0g α a b k1
def pa76_0:PT (List DV):=pA [vI,vI]
def Fn76_0 (v:Tf76_0)(α:Type)(k:RT α):Int->Int->Op α:=fun a b=>v α a b (fun c=>ur76_0_0 k c)
def cm76_0g:MCode:=(.seq (.region r76_2 [] (tO [0,1])) (.seq (.region r76_4 [] (tO [0,1,5])) (.seq (.seq (.region r76_7 [] (tO [5,12])) (.cond (.tmp 12) (.region r76_9 [] (tO [5])) .skip)) (.seq (.region r76_11 [] (tO [4])) .ret))))
def cm76_0:MCode:=cm76_0g
theorem gm76_0:cm76_0.Good Pg E76_0 sh76:=⟨trivial,trivial,⟨trivial,trivial,trivial⟩,trivial,trivial⟩
theorem fm76_0g (α:Type)(k:RT α):Fn76_0 (f76_0g ) α k=pa76_0.unc fun ds=>fnM Pg (E76_0g ) sh76 (cm76_0g ) rs76 k ds:=by kernel_rfl
theorem fm76_0:∀ (α:Type) (k:RT α),Fn76_0 f76_0 α k=pa76_0.unc fun ds=>fnM Pg E76_0 sh76 cm76_0 rs76 k ds:=fm76_0g
theorem is76:FnIs Pg 76 nt76 tr76 tl76 cm76_0.erase rs76:=⟨Tryz.f76,Tryz.func76,rfl,by kernel_rfl,by kernel_rfl,by kernel_rfl⟩
theorem io76_0:InstOk Pg 76 nt76 ⟨pa76_0,Fn76_0 f76_0⟩:=inst_ok eo76_0 followsTry is76 ⟨⟨sh76,cm76_0,by kernel_rfl,gm76_0,fm76_0⟩⟩
abbrev nt124:Nat:=10
def sh124:SG:=[]
def r124_2:LA:=[mK 2 0,mK 3 0]
def r124_4:LA:=[oM 4 0,oO 5 (.pure (oB (.call { callee:=.builtin .real,args:=#[(.tmp 4)],argTypes:=#[43] }) 117)),oO 6 (.pure (oB (.convert 117 3 (.tmp 5)) 3)),oM 7 0,oO 8 (.pure (oB (.call { callee:=.builtin .imag,args:=#[(.tmp 7)],argTypes:=#[43] }) 117)),oO 9 (.pure (oB (.convert 117 3 (.tmp 8)) 3)),oM 2 6,oM 3 9]
def tr124:TG:=[tT 0 [0],tT 1 [2,3]]
def tl124:TG:=[]
def rs124:List AResV:=[.tmp 2,.tmp 3]
def pr124_0_0:PT (List RV):=pRs [wI,wI]
def ur124_0_0 {β:Type}(g:List RV->β):Int->Int->β:=pr124_0_0.unc g
def E124_0g:EnvK:=EnvK.of [] noSeq
def E124_0:EnvK:=E124_0g
theorem eo124_0:E124_0.Ok Pg:=EnvK.of_ok noSeq_ok trivial
abbrev Tf124_0:Type 1:=(α:Type)->Nat->Nat->(Int->Int->Op α)->Op α
def f124_0g (α:Type)(a b:Nat)(k1:Int->Int->Op α):Op α:=
 ivK (f2i .f64 a .i64)
 (fun c=>ivK (f2i .f64 b .i64)
 (fun d=>k1 c d))
def f124_0 (α:Type)(a b:Nat)(k1:Int->Int->Op α):Op α:=f124_0g α a b k1
def pa124_0:PT (List DV):=pA [pV false [(dX .f64)]]
def Fn124_0 (v:Tf124_0)(α:Type)(k:RT α):Nat->Nat->Op α:=fun a b=>v α a b (fun c d=>ur124_0_0 k c d)
def cm124_0g:MCode:=(.seq (.region r124_2 [] (tO [0])) (.seq (.region r124_4 [] (tO [2,3])) .ret))
def cm124_0:MCode:=cm124_0g
theorem gm124_0:cm124_0.Good Pg E124_0 sh124:=⟨trivial,trivial,trivial⟩
theorem fm124_0g (α:Type)(k:RT α):Fn124_0 (f124_0g ) α k=pa124_0.unc fun ds=>fnM Pg (E124_0g ) sh124 (cm124_0g ) rs124 k ds:=by kernel_rfl
theorem fm124_0:∀ (α:Type) (k:RT α),Fn124_0 f124_0 α k=pa124_0.unc fun ds=>fnM Pg E124_0 sh124 cm124_0 rs124 k ds:=fm124_0g
theorem is124:FnIs Pg 124 nt124 tr124 tl124 cm124_0.erase rs124:=⟨Tryz.f124,Tryz.func124,rfl,by kernel_rfl,by kernel_rfl,by kernel_rfl⟩
theorem io124_0:InstOk Pg 124 nt124 ⟨pa124_0,Fn124_0 f124_0⟩:=inst_ok eo124_0 followsTry is124 ⟨⟨sh124,cm124_0,by kernel_rfl,gm124_0,fm124_0⟩⟩
abbrev nt57:Nat:=15
def sh57:SG:=[]
def r57_2:LA:=[oO 6 (.mv (.const (.bool false)))]
def r57_4:LA:=[oM 7 1,oM 8 0,bT 9 .leq 7 8,oM 10 9,oG 11 (.mv (.tmp 0)) 10 true,oG 12 (.mv (.tmp 2)) 10 true,oG 13 (.bin .leq 3 (.tmp 11) (.tmp 12)) 10 true,oO 14 (.pick (.tmp 10) (.tmp 13) (.const (.bool false))),oM 6 14]
def tr57:TG:=[tT 0 [0,1,2],tT 1 [6]]
def tl57:TG:=[]
def rs57:List AResV:=[.tmp 6]
def pr57_0_0:PT (List RV):=pRs [pR false [rD dB]]
def ur57_0_0 {β:Type}(g:List RV->β):Bool->β:=pr57_0_0.unc g
def E57_0g:EnvK:=EnvK.of [] noSeq
def E57_0:EnvK:=E57_0g
theorem eo57_0:E57_0.Ok Pg:=EnvK.of_ok noSeq_ok trivial
abbrev Tf57_0:Type 1:=(α:Type)->Int->Int->Int->(Bool->Op α)->Op α
def f57_0g (α:Type)(a b c:Int)(k1:Bool->Op α):Op α:=
 cK (decide (b<=a))
 (k1 (decide (a<=c)))
 (k1 false)
def f57_0 (α:Type)(a b c:Int)(k1:Bool->Op α):Op α:=f57_0g α a b c k1
def pa57_0:PT (List DV):=pA [vI,vI,vI]
def Fn57_0 (v:Tf57_0)(α:Type)(k:RT α):Int->Int->Int->Op α:=fun a b c=>v α a b c (fun d=>ur57_0_0 k d)
def cm57_0g:MCode:=(.seq (.region r57_2 [] (tO [0,1,2])) (.seq (.region r57_4 [] (tO [6])) .ret))
def cm57_0:MCode:=cm57_0g
theorem gm57_0:cm57_0.Good Pg E57_0 sh57:=⟨trivial,trivial,trivial⟩
theorem fm57_0g (α:Type)(k:RT α):Fn57_0 (f57_0g ) α k=pa57_0.unc fun ds=>fnM Pg (E57_0g ) sh57 (cm57_0g ) rs57 k ds:=by kernel_rfl
theorem fm57_0:∀ (α:Type) (k:RT α),Fn57_0 f57_0 α k=pa57_0.unc fun ds=>fnM Pg E57_0 sh57 cm57_0 rs57 k ds:=fm57_0g
theorem is57:FnIs Pg 57 nt57 tr57 tl57 cm57_0.erase rs57:=⟨Tryz.f57,Tryz.func57,rfl,by kernel_rfl,by kernel_rfl,by kernel_rfl⟩
theorem io57_0:InstOk Pg 57 nt57 ⟨pa57_0,Fn57_0 f57_0⟩:=inst_ok eo57_0 followsTry is57 ⟨⟨sh57,cm57_0,by kernel_rfl,gm57_0,fm57_0⟩⟩
abbrev nt69:Nat:=24
def sh69:SG:=[]
def r69_2:LA:=[oO 2 (.mv (.const (.bool false)))]
def r69_5:LA:=[oM 3 0,oM 4 0,oO 5 (.bin .neq 117 (.tmp 3) (.tmp 4)),oM 6 5,oG 7 (.mv (.tmp 0)) 6 false,oG 8 (.mv (.tmp 0)) 6 false,oG 9 (.bin .sub 117 (.tmp 7) (.tmp 8)) 6 false,oG 10 (.bin .neq 117 (.tmp 9) (.const (.float Go.FloatKind.f64 0))) 6 false,oO 11 (.pick (.tmp 6) (.const (.bool true)) (.tmp 10))]
def r69_8:LA:=[oO 2 (.mv (.const (.bool false)))]
def r69_11:LA:=[oM 12 0,oO 13 (.bin .geq 117 (.tmp 12) (.const (.float Go.FloatKind.f64 14069741636278059008))),oM 14 13,oG 15 (.mv (.tmp 0)) 14 true,oG 16 (.bin .leq 117 (.tmp 15) (.const (.float Go.FloatKind.f64 4846369599423283200))) 14 true,oO 17 (.pick (.tmp 14) (.tmp 16) (.const (.bool false))),oO 18 (.pure (oB (.unOp .not 4 (.tmp 17)) 4))]
def r69_14:LA:=[oO 2 (.mv (.const (.bool true)))]
def r69_16:LA:=[oM 19 0,oO 20 (.pure (oB (.convert 117 3 (.tmp 19)) 3)),oO 21 (.pure (oB (.convert 3 117 (.tmp 20)) 117)),oM 22 0,oO 23 (.bin .eql 117 (.tmp 21) (.tmp 22)),oM 2 23]
def tr69:TG:=[tT 0 [0],tT 1 [0,11],tT 2 [2],tT 3 [0,18],tT 4 [2],tT 5 [2]]
def tl69:TG:=[]
def rs69:List AResV:=[.tmp 2]
def pr69_0_0:PT (List RV):=pRs [pR false [rD dB]]
def ur69_0_0 {β:Type}(g:List RV->β):Bool->β:=pr69_0_0.unc g
def E69_0g:EnvK:=EnvK.of [] noSeq
def E69_0:EnvK:=E69_0g
theorem eo69_0:E69_0.Ok Pg:=EnvK.of_ok noSeq_ok trivial
abbrev Tf69_0:Type 1:=(α:Type)->Nat->(Bool->Op α)->Op α
def f69_0g (α:Type)(a:Nat)(k1:Bool->Op α):Op α:=
 cK ((FloatKind.format .f64).order a a != some Ordering.eq)
 (k1 false)
 (flN ((FloatKind.format .f64).sub a a)
 (fun b=>cK ((FloatKind.format .f64).order b 0 != some Ordering.eq)
 (k1 false)
 (cK ((FloatKind.format .f64).order a 14069741636278059008 == some Ordering.gt || (FloatKind.format .f64).order a 14069741636278059008 == some Ordering.eq)
 (cK (!((FloatKind.format .f64).order a 4846369599423283200 == some Ordering.lt || (FloatKind.format .f64).order a 4846369599423283200 == some Ordering.eq))
 (k1 true)
 (ivK (f2i .f64 a .i64)
 (fun c=>k1 ((FloatKind.format .f64).order (FloatKind.nearest .f64 c) a == some Ordering.eq))))
 (k1 true)))
 (k1 false))
def f69_0 (α:Type)(a:Nat)(k1:Bool->Op α):Op α:=f69_0g α a k1
def pa69_0:PT (List DV):=pA [pV false [(dF .f64)]]
def Fn69_0 (v:Tf69_0)(α:Type)(k:RT α):Nat->Op α:=fun a=>v α a (fun b=>ur69_0_0 k b)
def cm69_0g:MCode:=(.seq (.region r69_2 [] (tO [0])) (.seq (.seq (.region r69_5 [] (tO [0,11])) (.cond (.tmp 11) (.seq (.region r69_8 [] (tO [2])) .ret) .skip)) (.seq (.seq (.region r69_11 [] (tO [0,18])) (.cond (.tmp 18) (.seq (.region r69_14 [] (tO [2])) .ret) .skip)) (.seq (.region r69_16 [] (tO [2])) .ret))))
def cm69_0:MCode:=cm69_0g
theorem gm69_0:cm69_0.Good Pg E69_0 sh69:=⟨trivial,⟨trivial,⟨trivial,trivial⟩,trivial⟩,⟨trivial,⟨trivial,trivial⟩,trivial⟩,trivial,trivial⟩
theorem fm69_0g (α:Type)(k:RT α):Fn69_0 (f69_0g ) α k=pa69_0.unc fun ds=>fnM Pg (E69_0g ) sh69 (cm69_0g ) rs69 k ds:=by kernel_rfl
theorem fm69_0:∀ (α:Type) (k:RT α),Fn69_0 f69_0 α k=pa69_0.unc fun ds=>fnM Pg E69_0 sh69 cm69_0 rs69 k ds:=fm69_0g
theorem is69:FnIs Pg 69 nt69 tr69 tl69 cm69_0.erase rs69:=⟨Tryz.f69,Tryz.func69,rfl,by kernel_rfl,by kernel_rfl,by kernel_rfl⟩
theorem io69_0:InstOk Pg 69 nt69 ⟨pa69_0,Fn69_0 f69_0⟩:=inst_ok eo69_0 followsTry is69 ⟨⟨sh69,cm69_0,by kernel_rfl,gm69_0,fm69_0⟩⟩
abbrev nt56:Nat:=11
def sh56:SG:=[]
def r56_2:LA:=[oO 2 (.mv (.const (.bool false)))]
def r56_5:LA:=[mK 3 2]
def td56_7:OT:=(tO [0,3])
def r56_10:LA:=[oM 4 3,bK 5 .leq 4 32]
def r56_15:LA:=[oM 8 0,oM 9 3,bT 10 .eql 8 9]
def r56_18:LA:=[oO 2 (.mv (.const (.bool true)))]
def r56_19:LA:=[oM 6 3,oO 7 (.bin .mul 3 (kI 2) (.tmp 6)),oM 3 7]
def r56_21:LA:=[oO 2 (.mv (.const (.bool false)))]
def tr56:TG:=[tT 0 [0],tT 1 [0,3],tT 2 [0,3,5],tT 4 [0,3,10],tT 5 [2],tT 3 [0,3],tT 6 [2]]
def tl56:TG:=[tT 2 [0,3]]
def rs56:List AResV:=[.tmp 2]
def p56_0_0:PT St:=pS [sI 0,sI 3] []
def u56_0_0 {β:Type}(g:St->β):Int->Int->β:=p56_0_0.unc g
def p56_0_1:PT St:=pS [sl 2 (aV false [(cD dB)])] []
def u56_0_1 {β:Type}(g:St->β):Bool->β:=p56_0_1.unc g
def p56_0_2:PT St:=pS [sI 0,sI 3,sl 5 (aV false [(cD dB)])] []
def u56_0_2 {β:Type}(g:St->β):Int->Int->Bool->β:=p56_0_2.unc g
def pr56_0_0:PT (List RV):=pRs [pR false [rD dB]]
def ur56_0_0 {β:Type}(g:List RV->β):Bool->β:=pr56_0_0.unc g
def E56_0g:EnvK:=EnvK.of [] noSeq
def E56_0:EnvK:=E56_0g
theorem eo56_0:E56_0.Ok Pg:=EnvK.of_ok noSeq_ok trivial
def c56_0_7g:MCode:=(.seq (.seq (.region r56_10 [] (tO [0,3,5])) (.cond (.tmp 5) .skip (.exit 0))) (.seq (.block 1 (.seq (.region r56_15 [] (tO [0,3,10])) (.cond (.tmp 10) (.seq (.region r56_18 [] (tO [2])) .ret) .skip))) (.region r56_19 [] (tO [0,3]))))
def c56_0_7:MCode:=c56_0_7g
theorem g56_0_7:c56_0_7.Good Pg E56_0 sh56:=⟨⟨trivial,trivial,trivial⟩,⟨trivial,⟨trivial,trivial⟩,trivial⟩,trivial⟩
def S56_0_0g (α:Type)(b a:Int)(kn:Int->Op α)(k1:Op α)(k2:Int->Bool->Op α):Op α:=
 cK (decide (a<=32))
 (cK (b == a)
 (k1)
 (kn (w64 (2*a))))
 (k2 a (decide (a<=32)))
def S56_0_0 (α:Type)(a b:Int)(kn:Int->Op α)(k1:Op α)(k2:Int->Bool->Op α):Op α:=S56_0_0g α a b kn k1 k2
def R56_0_0 (α:Type)(a:Int)(k1:Op α)(k2:Int->Bool->Op α):Nat->Int->Op α
 | 0,_=>none
 | n+1,b=>S56_0_0 α a b (R56_0_0 α a k1 k2 n) k1 k2
def L56_0_0 (α:Type)(a:Int)(k1:Op α)(k2:Int->Bool->Op α)(b:Int):Op α:=R56_0_0 α a k1 k2 fuel b
abbrev TL56_0_0:Type 1:=(α:Type)->Int->(Op α)->(Int->Bool->Op α)->Int->Op α
def F56_0_0 (v:TL56_0_0)(α:Type)(K:KT α):Int->Int->Op α:=fun a b=>v α a (u56_0_1 (K .ret) true) (fun c d=>u56_0_2 (K (.exit 0)) a c d) b
theorem r56_0_0g (α:Type)(K:KT α)(Kn:SK α)(a b:Int):u56_0_0 (fun σ=>runM Pg (E56_0g ) sh56 (c56_0_7g ) (thenK (fun σ=>tidyK td56_7 σ Kn) K) σ) a b=S56_0_0g α a b (fun b=>u56_0_0 Kn a b) (u56_0_1 (K .ret) true) (fun c d=>u56_0_2 (K (.exit 0)) a c d):=by kernel_rfl
theorem r56_0_0 (α:Type)(K:KT α)(Kn:SK α)(a b:Int):u56_0_0 (fun σ=>runM Pg E56_0 sh56 c56_0_7 (thenK (fun σ=>tidyK td56_7 σ Kn) K) σ) a b=S56_0_0 α a b (fun b=>u56_0_0 Kn a b) (u56_0_1 (K .ret) true) (fun c d=>u56_0_2 (K (.exit 0)) a c d):=r56_0_0g α K Kn a b
theorem t56_0_0 (α:Type)(K:KT α):∀ (n:Nat) (a b:Int),R56_0_0 α a (u56_0_1 (K .ret) true) (fun c d=>u56_0_2 (K (.exit 0)) a c d) n b=u56_0_0 (loopT (runM Pg E56_0 sh56 c56_0_7) td56_7 K n) a b:=by
 intro n
 induction n with
 | zero=>intros;rfl
 | succ n ih=>intro a b;exact (congrArg (fun kn=>S56_0_0 α a b kn (u56_0_1 (K .ret) true) (fun c d=>u56_0_2 (K (.exit 0)) a c d)) (funext fun b=>ih a b)).trans (r56_0_0 α K (loopT (runM Pg E56_0 sh56 c56_0_7) td56_7 K n) a b).symm
theorem m56_0_0:∀ (α:Type) (K:KT α),F56_0_0 L56_0_0 α K=p56_0_0.unc fun σ=>loopT (runM Pg E56_0 sh56 c56_0_7) td56_7 K fuel σ:=fun α K=>funext fun a=>funext fun b=>t56_0_0 α K fuel a b
abbrev Tf56_0:Type 1:=(α:Type)->Int->(Bool->Op α)->Op α
def f56_0g (a:TL56_0_0)(α:Type)(b:Int)(k1:Bool->Op α):Op α:=
 a α b
 (k1 true)
 (fun c d=>k1 false) 2
def f56_0 (α:Type)(a:Int)(k1:Bool->Op α):Op α:=f56_0g L56_0_0 α a k1
def pa56_0:PT (List DV):=pA [vI]
def Fn56_0 (v:Tf56_0)(α:Type)(k:RT α):Int->Op α:=fun a=>v α a (fun b=>ur56_0_0 k b)
def cm56_0g (a:TL56_0_0):MCode:=(.seq (.region r56_2 [] (tO [0])) (.seq (.seq (.region r56_5 [] (tO [0,3])) (.block 0 (.loop td56_7 [⟨p56_0_0,F56_0_0 a⟩] c56_0_7))) (.seq (.region r56_21 [] (tO [2])) .ret)))
def cm56_0:MCode:=cm56_0g L56_0_0
theorem gm56_0:cm56_0.Good Pg E56_0 sh56:=⟨trivial,⟨trivial,g56_0_7,m56_0_0,trivial⟩,trivial,trivial⟩
theorem fm56_0g (a:TL56_0_0)(α:Type)(k:RT α):Fn56_0 (f56_0g a) α k=pa56_0.unc fun ds=>fnM Pg (E56_0g ) sh56 (cm56_0g a) rs56 k ds:=by kernel_rfl
theorem fm56_0:∀ (α:Type) (k:RT α),Fn56_0 f56_0 α k=pa56_0.unc fun ds=>fnM Pg E56_0 sh56 cm56_0 rs56 k ds:=fm56_0g L56_0_0
theorem is56:FnIs Pg 56 nt56 tr56 tl56 cm56_0.erase rs56:=⟨Tryz.f56,Tryz.func56,rfl,by kernel_rfl,by kernel_rfl,by kernel_rfl⟩
theorem io56_0:InstOk Pg 56 nt56 ⟨pa56_0,Fn56_0 f56_0⟩:=inst_ok eo56_0 followsTry is56 ⟨⟨sh56,cm56_0,by kernel_rfl,gm56_0,fm56_0⟩⟩
abbrev nt123:Nat:=16
def sh123:SG:=[(6,iT),(8,iT),(11,iT),(13,iT)]
def r123_2:LA:=[oO 2 (.box (.tmp 0)),oO 3 (.box (.tmp 1)),oO 4 (.alloc [(cI 0),(cI 0)])]
def r123_4:LA:=[fA 5 0 2,lD 6 5,fA 7 0 3,lD 8 7,bT 9 .sub 6 8,fA 10 1 2,lD 11 10,fA 12 1 3,lD 13 12,bT 14 .sub 11 13,oO 15 (.build [(cI 0),(cI 0)] [(0,1,(.tmp 9)),(1,1,(.tmp 14))]),sD 2 4 15]
def tr123:TG:=[tT 0 [2,3,4],tT 1 [4]]
def tl123:TG:=[]
def rs123:List AResV:=[.cell 4 true 2]
def pr123_0_0:PT (List RV):=pRs [pR true [rD (dI .i64),rD (dI .i64)]]
def ur123_0_0 {β:Type}(g:List RV->β):Int->Int->β:=pr123_0_0.unc g
def E123_0g:EnvK:=EnvK.of [] noSeq
def E123_0:EnvK:=E123_0g
theorem eo123_0:E123_0.Ok Pg:=EnvK.of_ok noSeq_ok trivial
abbrev Tf123_0:Type 1:=(α:Type)->Int->Int->Int->Int->(Int->Int->Op α)->Op α
def f123_0g (α:Type)(a b c d:Int)(k1:Int->Int->Op α):Op α:=
 k1 (w64 (a - c)) (w64 (b - d))
def f123_0 (α:Type)(a b c d:Int)(k1:Int->Int->Op α):Op α:=f123_0g α a b c d k1
def pa123_0:PT (List DV):=pA [pV true [(dI .i64),(dI .i64)],pV true [(dI .i64),(dI .i64)]]
def Fn123_0 (v:Tf123_0)(α:Type)(k:RT α):I4 (Op α):=fun a b c d=>v α a b c d (fun e g=>ur123_0_0 k e g)
def cm123_0g:MCode:=(.seq (.region r123_2 [] (tO [2,3,4])) (.seq (.region r123_4 [] (tO [4])) .ret))
def cm123_0:MCode:=cm123_0g
theorem gm123_0:cm123_0.Good Pg E123_0 sh123:=⟨trivial,trivial,trivial⟩
theorem fm123_0g (α:Type)(k:RT α):Fn123_0 (f123_0g ) α k=pa123_0.unc fun ds=>fnM Pg (E123_0g ) sh123 (cm123_0g ) rs123 k ds:=by kernel_rfl
theorem fm123_0:∀ (α:Type) (k:RT α),Fn123_0 f123_0 α k=pa123_0.unc fun ds=>fnM Pg E123_0 sh123 cm123_0 rs123 k ds:=fm123_0g
theorem is123:FnIs Pg 123 nt123 tr123 tl123 cm123_0.erase rs123:=⟨Tryz.f123,Tryz.func123,rfl,by kernel_rfl,by kernel_rfl,by kernel_rfl⟩
theorem io123_0:InstOk Pg 123 nt123 ⟨pa123_0,Fn123_0 f123_0⟩:=inst_ok eo123_0 followsTry is123 ⟨⟨sh123,cm123_0,by kernel_rfl,gm123_0,fm123_0⟩⟩
abbrev nt108:Nat:=18
def sh108:SG:=[(5,iT),(7,iT),(10,iT),(12,iT)]
def r108_2:LA:=[oO 1 (.box (.tmp 0)),mK 2 0]
def r108_4:LA:=[fA 4 0 1,lD 5 4,fA 6 1 1,lD 7 6,bT 8 .quo 5 7,oM 3 8]
def r108_7:LA:=[fA 9 0 1,lD 10 9,fA 11 1 1,lD 12 11,bT 13 .rem 10 12,bK 14 .lss 13 0]
def r108_9:LA:=[oM 15 3,bK 16 .sub 15 1,oM 3 16]
def r108_11:LA:=[oM 17 3,oM 2 17]
def tr108:TG:=[tT 0 [1],tT 1 [1,3],tT 2 [3,14],tT 3 [3],tT 4 [2]]
def tl108:TG:=[]
def rs108:List AResV:=[.tmp 2]
def pr108_0_0:PT (List RV):=pRs [wI]
def ur108_0_0 {β:Type}(g:List RV->β):Int->β:=pr108_0_0.unc g
def E108_0g:EnvK:=EnvK.of [] noSeq
def E108_0:EnvK:=E108_0g
theorem eo108_0:E108_0.Ok Pg:=EnvK.of_ok noSeq_ok trivial
abbrev Tf108_0:Type 1:=(α:Type)->Int->Int->(Int->Op α)->Op α
def f108_0g (α:Type)(b a:Int)(k1:Int->Op α):Op α:=
 gK (a != 0) (gK (a != 0) (cK (decide ((Int.tmod b a) < 0))
 (k1 (w64 ((w64 (Int.tdiv b a)) - 1)))
 (k1 (w64 (Int.tdiv b a)))))
def f108_0 (α:Type)(a b:Int)(k1:Int->Op α):Op α:=f108_0g α a b k1
def pa108_0:PT (List DV):=pA [pV true [(dI .i64),(dI .i64)]]
def Fn108_0 (v:Tf108_0)(α:Type)(k:RT α):Int->Int->Op α:=fun a b=>v α a b (fun c=>ur108_0_0 k c)
def cm108_0g:MCode:=(.seq (.region r108_2 [] (tO [1])) (.seq (.region r108_4 [] (tO [1,3])) (.seq (.seq (.region r108_7 [] (tO [3,14])) (.cond (.tmp 14) (.region r108_9 [] (tO [3])) .skip)) (.seq (.region r108_11 [] (tO [2])) .ret))))
def cm108_0:MCode:=cm108_0g
theorem gm108_0:cm108_0.Good Pg E108_0 sh108:=⟨trivial,trivial,⟨trivial,trivial,trivial⟩,trivial,trivial⟩
theorem fm108_0g (α:Type)(k:RT α):Fn108_0 (f108_0g ) α k=pa108_0.unc fun ds=>fnM Pg (E108_0g ) sh108 (cm108_0g ) rs108 k ds:=by kernel_rfl
theorem fm108_0:∀ (α:Type) (k:RT α),Fn108_0 f108_0 α k=pa108_0.unc fun ds=>fnM Pg E108_0 sh108 cm108_0 rs108 k ds:=fm108_0g
theorem is108:FnIs Pg 108 nt108 tr108 tl108 cm108_0.erase rs108:=⟨Tryz.f108,Tryz.func108,rfl,by kernel_rfl,by kernel_rfl,by kernel_rfl⟩
theorem io108_0:InstOk Pg 108 nt108 ⟨pa108_0,Fn108_0 f108_0⟩:=inst_ok eo108_0 followsTry is108 ⟨⟨sh108,cm108_0,by kernel_rfl,gm108_0,fm108_0⟩⟩
abbrev nt120:Nat:=4
def sh120:SG:=[]
def r120_2:LA:=[mK 2 0]
def r120_5:LA:=[oM 3 0]
def r120_8:LA:=[mK 2 1]
def r120_10:LA:=[mK 2 0]
def tr120:TG:=[tT 0 [0],tT 1 [3],tT 2 [2],tT 3 [2]]
def tl120:TG:=[]
def rs120:List AResV:=[.tmp 2]
def pr120_0_0:PT (List RV):=pRs [wI]
def ur120_0_0 {β:Type}(g:List RV->β):Int->β:=pr120_0_0.unc g
def E120_0g:EnvK:=EnvK.of [] noSeq
def E120_0:EnvK:=E120_0g
theorem eo120_0:E120_0.Ok Pg:=EnvK.of_ok noSeq_ok trivial
abbrev Tf120_0:Type 1:=(α:Type)->Bool->(Int->Op α)->Op α
def f120_0g (α:Type)(a:Bool)(k1:Int->Op α):Op α:=
 cK a
 (k1 1)
 (k1 0)
def f120_0 (α:Type)(a:Bool)(k1:Int->Op α):Op α:=f120_0g α a k1
def pa120_0:PT (List DV):=pA [pV false [dB]]
def Fn120_0 (v:Tf120_0)(α:Type)(k:RT α):Bool->Op α:=fun a=>v α a (fun b=>ur120_0_0 k b)
def cm120_0g:MCode:=(.seq (.region r120_2 [] (tO [0])) (.seq (.seq (.region r120_5 [] (tO [3])) (.cond (.tmp 3) (.seq (.region r120_8 [] (tO [2])) .ret) .skip)) (.seq (.region r120_10 [] (tO [2])) .ret)))
def cm120_0:MCode:=cm120_0g
theorem gm120_0:cm120_0.Good Pg E120_0 sh120:=⟨trivial,⟨trivial,⟨trivial,trivial⟩,trivial⟩,trivial,trivial⟩
theorem fm120_0g (α:Type)(k:RT α):Fn120_0 (f120_0g ) α k=pa120_0.unc fun ds=>fnM Pg (E120_0g ) sh120 (cm120_0g ) rs120 k ds:=by kernel_rfl
theorem fm120_0:∀ (α:Type) (k:RT α),Fn120_0 f120_0 α k=pa120_0.unc fun ds=>fnM Pg E120_0 sh120 cm120_0 rs120 k ds:=fm120_0g
theorem is120:FnIs Pg 120 nt120 tr120 tl120 cm120_0.erase rs120:=⟨Tryz.f120,Tryz.func120,rfl,by kernel_rfl,by kernel_rfl,by kernel_rfl⟩
theorem io120_0:InstOk Pg 120 nt120 ⟨pa120_0,Fn120_0 f120_0⟩:=inst_ok eo120_0 followsTry is120 ⟨⟨sh120,cm120_0,by kernel_rfl,gm120_0,fm120_0⟩⟩
abbrev nt116:Nat:=28
def sh116:SG:=[(6,iT),(8,iT),(11,iT),(13,iT),(17,iT),(19,iT),(22,iT),(24,iT)]
def r116_2:LA:=[oO 2 (.box (.tmp 0)),oO 3 (.box (.tmp 1)),oO 4 (.alloc [(cI 0),(cI 0)])]
def r116_4:LA:=[fA 5 0 2,lD 6 5,fA 7 0 3,lD 8 7,bT 9 .mul 6 8,fA 10 1 2,lD 11 10,fA 12 1 3,lD 13 12,bT 14 .mul 11 13,bT 15 .sub 9 14,fA 16 0 2,lD 17 16,fA 18 1 3,lD 19 18,bT 20 .mul 17 19,fA 21 1 2,lD 22 21,fA 23 0 3,lD 24 23,bT 25 .mul 22 24,bT 26 .add 20 25,oO 27 (.build [(cI 0),(cI 0)] [(0,1,(.tmp 15)),(1,1,(.tmp 26))]),sD 2 4 27]
def tr116:TG:=[tT 0 [2,3,4],tT 1 [4]]
def tl116:TG:=[]
def rs116:List AResV:=[.cell 4 true 2]
def pr116_0_0:PT (List RV):=pRs [pR true [rD (dI .i64),rD (dI .i64)]]
def ur116_0_0 {β:Type}(g:List RV->β):Int->Int->β:=pr116_0_0.unc g
def E116_0g:EnvK:=EnvK.of [] noSeq
def E116_0:EnvK:=E116_0g
theorem eo116_0:E116_0.Ok Pg:=EnvK.of_ok noSeq_ok trivial
abbrev Tf116_0:Type 1:=(α:Type)->Int->Int->Int->Int->(Int->Int->Op α)->Op α
def f116_0g (α:Type)(a b c d:Int)(k1:Int->Int->Op α):Op α:=
 k1 (w64 ((w64 (a*c)) - (w64 (b*d)))) (w64 ((w64 (a*d))+(w64 (b*c))))
def f116_0 (α:Type)(a b c d:Int)(k1:Int->Int->Op α):Op α:=f116_0g α a b c d k1
def pa116_0:PT (List DV):=pA [pV true [(dI .i64),(dI .i64)],pV true [(dI .i64),(dI .i64)]]
def Fn116_0 (v:Tf116_0)(α:Type)(k:RT α):I4 (Op α):=fun a b c d=>v α a b c d (fun e g=>ur116_0_0 k e g)
def cm116_0g:MCode:=(.seq (.region r116_2 [] (tO [2,3,4])) (.seq (.region r116_4 [] (tO [4])) .ret))
def cm116_0:MCode:=cm116_0g
theorem gm116_0:cm116_0.Good Pg E116_0 sh116:=⟨trivial,trivial,trivial⟩
theorem fm116_0g (α:Type)(k:RT α):Fn116_0 (f116_0g ) α k=pa116_0.unc fun ds=>fnM Pg (E116_0g ) sh116 (cm116_0g ) rs116 k ds:=by kernel_rfl
theorem fm116_0:∀ (α:Type) (k:RT α),Fn116_0 f116_0 α k=pa116_0.unc fun ds=>fnM Pg E116_0 sh116 cm116_0 rs116 k ds:=fm116_0g
theorem is116:FnIs Pg 116 nt116 tr116 tl116 cm116_0.erase rs116:=⟨Tryz.f116,Tryz.func116,rfl,by kernel_rfl,by kernel_rfl,by kernel_rfl⟩
theorem io116_0:InstOk Pg 116 nt116 ⟨pa116_0,Fn116_0 f116_0⟩:=inst_ok eo116_0 followsTry is116 ⟨⟨sh116,cm116_0,by kernel_rfl,gm116_0,fm116_0⟩⟩
abbrev nt45:Nat:=10
def sh45:SG:=[]
def r45_2:LA:=[oO 4 (.mv (.const (.complex Go.FloatKind.f64 0 0)))]
def r45_4:LA:=[oM 5 0,oO 6 (.pure (oB (.convert 3 117 (.tmp 5)) 117)),oM 7 1,oO 8 (.pure (oB (.convert 3 117 (.tmp 7)) 117)),oO 9 (.pure (oB (.call { callee:=.builtin .complex,args:=#[(.tmp 6),(.tmp 8)],argTypes:=#[117,117] }) 43)),oM 4 9]
def tr45:TG:=[tT 0 [0,1],tT 1 [4]]
def tl45:TG:=[]
def rs45:List AResV:=[.tmp 4]
def pr45_0_0:PT (List RV):=pRs [pR false [rD (dX .f64)]]
def ur45_0_0 {β:Type}(g:List RV->β):Nat->Nat->β:=pr45_0_0.unc g
def E45_0g:EnvK:=EnvK.of [] noSeq
def E45_0:EnvK:=E45_0g
theorem eo45_0:E45_0.Ok Pg:=EnvK.of_ok noSeq_ok trivial
abbrev Tf45_0:Type 1:=(α:Type)->Int->Int->(Nat->Nat->Op α)->Op α
def f45_0g (α:Type)(a b:Int)(k1:Nat->Nat->Op α):Op α:=
 k1 (FloatKind.nearest .f64 a) (FloatKind.nearest .f64 b)
def f45_0 (α:Type)(a b:Int)(k1:Nat->Nat->Op α):Op α:=f45_0g α a b k1
def pa45_0:PT (List DV):=pA [vI,vI]
def Fn45_0 (v:Tf45_0)(α:Type)(k:RT α):Int->Int->Op α:=fun a b=>v α a b (fun c d=>ur45_0_0 k c d)
def cm45_0g:MCode:=(.seq (.region r45_2 [] (tO [0,1])) (.seq (.region r45_4 [] (tO [4])) .ret))
def cm45_0:MCode:=cm45_0g
theorem gm45_0:cm45_0.Good Pg E45_0 sh45:=⟨trivial,trivial,trivial⟩
theorem fm45_0g (α:Type)(k:RT α):Fn45_0 (f45_0g ) α k=pa45_0.unc fun ds=>fnM Pg (E45_0g ) sh45 (cm45_0g ) rs45 k ds:=by kernel_rfl
theorem fm45_0:∀ (α:Type) (k:RT α),Fn45_0 f45_0 α k=pa45_0.unc fun ds=>fnM Pg E45_0 sh45 cm45_0 rs45 k ds:=fm45_0g
theorem is45:FnIs Pg 45 nt45 tr45 tl45 cm45_0.erase rs45:=⟨Tryz.f45,Tryz.func45,rfl,by kernel_rfl,by kernel_rfl,by kernel_rfl⟩
theorem io45_0:InstOk Pg 45 nt45 ⟨pa45_0,Fn45_0 f45_0⟩:=inst_ok eo45_0 followsTry is45 ⟨⟨sh45,cm45_0,by kernel_rfl,gm45_0,fm45_0⟩⟩
abbrev nt10:Nat:=13
def sh10:SG:=[]
def r10_2:LA:=[oO 2 (.mv (.const (.bool false)))]
def r10_4:LA:=[oM 3 0,bK 4 .leq 3 16,oM 5 4,oG 6 (.mv (.tmp 0)) 5 false,oG 7 (.bin .gtr 3 (.tmp 6) (kI 32)) 5 false,oG 8 (.mv (.tmp 7)) 5 false,oG 9 (.mv (.tmp 0)) 8 true,oG 10 (.bin .leq 3 (.tmp 9) (kI 34)) 8 true,oG 11 (.pick (.tmp 8) (.tmp 10) (.const (.bool false))) 5 false,oO 12 (.pick (.tmp 5) (.const (.bool true)) (.tmp 11)),oM 2 12]
def tr10:TG:=[tT 0 [0],tT 1 [2]]
def tl10:TG:=[]
def rs10:List AResV:=[.tmp 2]
def pr10_0_0:PT (List RV):=pRs [pR false [rD dB]]
def ur10_0_0 {β:Type}(g:List RV->β):Bool->β:=pr10_0_0.unc g
def E10_0g:EnvK:=EnvK.of [] noSeq
def E10_0:EnvK:=E10_0g
theorem eo10_0:E10_0.Ok Pg:=EnvK.of_ok noSeq_ok trivial
abbrev Tf10_0:Type 1:=(α:Type)->Int->(Bool->Op α)->Op α
def f10_0g (α:Type)(a:Int)(k1:Bool->Op α):Op α:=
 cK (decide (a<=16))
 (k1 true)
 (cK (decide (32 < a))
 (k1 (decide (a<=34)))
 (k1 false))
def f10_0 (α:Type)(a:Int)(k1:Bool->Op α):Op α:=f10_0g α a k1
def pa10_0:PT (List DV):=pA [vI]
def Fn10_0 (v:Tf10_0)(α:Type)(k:RT α):Int->Op α:=fun a=>v α a (fun b=>ur10_0_0 k b)
def cm10_0g:MCode:=(.seq (.region r10_2 [] (tO [0])) (.seq (.region r10_4 [] (tO [2])) .ret))
def cm10_0:MCode:=cm10_0g
theorem gm10_0:cm10_0.Good Pg E10_0 sh10:=⟨trivial,trivial,trivial⟩
theorem fm10_0g (α:Type)(k:RT α):Fn10_0 (f10_0g ) α k=pa10_0.unc fun ds=>fnM Pg (E10_0g ) sh10 (cm10_0g ) rs10 k ds:=by kernel_rfl
theorem fm10_0:∀ (α:Type) (k:RT α),Fn10_0 f10_0 α k=pa10_0.unc fun ds=>fnM Pg E10_0 sh10 cm10_0 rs10 k ds:=fm10_0g
theorem is10:FnIs Pg 10 nt10 tr10 tl10 cm10_0.erase rs10:=⟨Tryz.f10,Tryz.func10,rfl,by kernel_rfl,by kernel_rfl,by kernel_rfl⟩
theorem io10_0:InstOk Pg 10 nt10 ⟨pa10_0,Fn10_0 f10_0⟩:=inst_ok eo10_0 followsTry is10 ⟨⟨sh10,cm10_0,by kernel_rfl,gm10_0,fm10_0⟩⟩
abbrev nt130:Nat:=10
def sh130:SG:=[]
def r130_2:LA:=[oO 2 (.alloc [(cI 0),(cI 0)])]
def r130_4:LA:=[oM 3 0,oO 4 (.pure (oB (.call { callee:=.builtin .real,args:=#[(.tmp 3)],argTypes:=#[43] }) 117)),oO 5 (.pure (oB (.convert 117 3 (.tmp 4)) 3)),oM 6 0,oO 7 (.pure (oB (.call { callee:=.builtin .imag,args:=#[(.tmp 6)],argTypes:=#[43] }) 117)),oO 8 (.pure (oB (.convert 117 3 (.tmp 7)) 3)),oO 9 (.build [(cI 0),(cI 0)] [(0,1,(.tmp 5)),(1,1,(.tmp 8))]),sD 2 2 9]
def tr130:TG:=[tT 0 [0,2],tT 1 [2]]
def tl130:TG:=[]
def rs130:List AResV:=[.cell 2 true 2]
def pr130_0_0:PT (List RV):=pRs [pR true [rD (dI .i64),rD (dI .i64)]]
def ur130_0_0 {β:Type}(g:List RV->β):Int->Int->β:=pr130_0_0.unc g
def E130_0g:EnvK:=EnvK.of [] noSeq
def E130_0:EnvK:=E130_0g
theorem eo130_0:E130_0.Ok Pg:=EnvK.of_ok noSeq_ok trivial
abbrev Tf130_0:Type 1:=(α:Type)->Nat->Nat->(Int->Int->Op α)->Op α
def f130_0g (α:Type)(a b:Nat)(k1:Int->Int->Op α):Op α:=
 ivK (f2i .f64 a .i64)
 (fun c=>ivK (f2i .f64 b .i64)
 (fun d=>k1 c d))
def f130_0 (α:Type)(a b:Nat)(k1:Int->Int->Op α):Op α:=f130_0g α a b k1
def pa130_0:PT (List DV):=pA [pV false [(dX .f64)]]
def Fn130_0 (v:Tf130_0)(α:Type)(k:RT α):Nat->Nat->Op α:=fun a b=>v α a b (fun c d=>ur130_0_0 k c d)
def cm130_0g:MCode:=(.seq (.region r130_2 [] (tO [0,2])) (.seq (.region r130_4 [] (tO [2])) .ret))
def cm130_0:MCode:=cm130_0g
theorem gm130_0:cm130_0.Good Pg E130_0 sh130:=⟨trivial,trivial,trivial⟩
theorem fm130_0g (α:Type)(k:RT α):Fn130_0 (f130_0g ) α k=pa130_0.unc fun ds=>fnM Pg (E130_0g ) sh130 (cm130_0g ) rs130 k ds:=by kernel_rfl
theorem fm130_0:∀ (α:Type) (k:RT α),Fn130_0 f130_0 α k=pa130_0.unc fun ds=>fnM Pg E130_0 sh130 cm130_0 rs130 k ds:=fm130_0g
theorem is130:FnIs Pg 130 nt130 tr130 tl130 cm130_0.erase rs130:=⟨Tryz.f130,Tryz.func130,rfl,by kernel_rfl,by kernel_rfl,by kernel_rfl⟩
theorem io130_0:InstOk Pg 130 nt130 ⟨pa130_0,Fn130_0 f130_0⟩:=inst_ok eo130_0 followsTry is130 ⟨⟨sh130,cm130_0,by kernel_rfl,gm130_0,fm130_0⟩⟩
abbrev nt129:Nat:=7
def sh129:SG:=[]
def r129_2:LA:=[oO 2 (.mv (.const (.float Go.FloatKind.f64 0)))]
def r129_4:LA:=[oM 3 0,oO 4 (.pure (oB (.call { callee:=.value (.func 110),args:=#[(.tmp 3)],argTypes:=#[117] }) 164)),oO 5 (.bin .andNot 164 (.tmp 4) (.const (.int .u64 9223372036854775808))),oO 6 (.pure (oB (.call { callee:=.value (.func 152),args:=#[(.tmp 5)],argTypes:=#[164] }) 117)),oM 2 6]
def tr129:TG:=[tT 0 [0],tT 1 [2]]
def tl129:TG:=[]
def rs129:List AResV:=[.tmp 2]
def pr129_0_0:PT (List RV):=pRs [pR false [rD (dF .f64)]]
def ur129_0_0 {β:Type}(g:List RV->β):Nat->β:=pr129_0_0.unc g
def E129_0g:EnvK:=EnvK.of [] noSeq
def E129_0:EnvK:=E129_0g
theorem eo129_0:E129_0.Ok Pg:=EnvK.of_ok noSeq_ok trivial
abbrev Tf129_0:Type 1:=(α:Type)->Nat->(Nat->Op α)->Op α
def f129_0g (α:Type)(a:Nat)(k1:Nat->Op α):Op α:=
 k1 (Int.toNat (iAndNot .u64 ((a:Nat):Int) 9223372036854775808))
def f129_0 (α:Type)(a:Nat)(k1:Nat->Op α):Op α:=f129_0g α a k1
def pa129_0:PT (List DV):=pA [pV false [(dF .f64)]]
def Fn129_0 (v:Tf129_0)(α:Type)(k:RT α):Nat->Op α:=fun a=>v α a (fun b=>ur129_0_0 k b)
def cm129_0g:MCode:=(.seq (.region r129_2 [] (tO [0])) (.seq (.region r129_4 [] (tO [2])) .ret))
def cm129_0:MCode:=cm129_0g
theorem gm129_0:cm129_0.Good Pg E129_0 sh129:=⟨trivial,trivial,trivial⟩
theorem fm129_0g (α:Type)(k:RT α):Fn129_0 (f129_0g ) α k=pa129_0.unc fun ds=>fnM Pg (E129_0g ) sh129 (cm129_0g ) rs129 k ds:=by kernel_rfl
theorem fm129_0:∀ (α:Type) (k:RT α),Fn129_0 f129_0 α k=pa129_0.unc fun ds=>fnM Pg E129_0 sh129 cm129_0 rs129 k ds:=fm129_0g
theorem is129:FnIs Pg 129 nt129 tr129 tl129 cm129_0.erase rs129:=⟨Tryz.f129,Tryz.func129,rfl,by kernel_rfl,by kernel_rfl,by kernel_rfl⟩
theorem io129_0:InstOk Pg 129 nt129 ⟨pa129_0,Fn129_0 f129_0⟩:=inst_ok eo129_0 followsTry is129 ⟨⟨sh129,cm129_0,by kernel_rfl,gm129_0,fm129_0⟩⟩
abbrev nt150:Nat:=7
def sh150:SG:=[]
def r150_2:LA:=[oO 2 (.mv (.const (.float Go.FloatKind.f64 0)))]
def r150_6:LA:=[oM 3 0,oO 4 (.pure (oB (.call { callee:=.value (.func 162),args:=#[(.tmp 3)],argTypes:=#[117] }) 117)),oM 2 4]
def r150_8:LA:=[oM 5 0,oO 6 (.call 163 [.tmp 5]),oM 2 6]
def tr150:TG:=[tT 0 [0],tT 1 [2],tT 2 [2]]
def tl150:TG:=[]
def rs150:List AResV:=[.tmp 2]
def pr150_0_0:PT (List RV):=pRs [pR false [rD (dNan .f64)]]
def ur150_0_0 {β:Type}(g:List RV->β):β:=pr150_0_0.unc g
def pr150_0_1:PT (List RV):=pRs [pR false [rD (dF .f64)]]
def ur150_0_1 {β:Type}(g:List RV->β):Nat->β:=pr150_0_1.unc g
def E150_0g:EnvK:=EnvK.of [] noSeq
def E150_0:EnvK:=E150_0g
theorem eo150_0:E150_0.Ok Pg:=EnvK.of_ok noSeq_ok trivial
abbrev Tf150_0:Type 1:=(α:Type)->Nat->(Op α)->(Nat->Op α)->Op α
def f150_0g (α:Type)(a:Nat)(k1:Op α)(k2:Nat->Op α):Op α:=
 cK (isNaNb .f64 a)
 (k1)
 (k2 (truncF a))
def f150_0 (α:Type)(a:Nat)(k1:Op α)(k2:Nat->Op α):Op α:=f150_0g α a k1 k2
def pa150_0:PT (List DV):=pA [pV false [(dF .f64)]]
def Fn150_0 (v:Tf150_0)(α:Type)(k:RT α):Nat->Op α:=fun a=>v α a (ur150_0_0 k ) (fun b=>ur150_0_1 k b)
def cm150_0g:MCode:=(.seq (.region r150_2 [] (tO [0])) (.seq (.cond (.const (.bool true)) (.seq (.region r150_6 [] (tO [2])) .ret) .skip) (.seq (.region r150_8 [] (tO [2])) .ret)))
def cm150_0:MCode:=cm150_0g
theorem gm150_0:cm150_0.Good Pg E150_0 sh150:=⟨trivial,⟨⟨trivial,trivial⟩,trivial⟩,trivial,trivial⟩
theorem fm150_0g (α:Type)(k:RT α):Fn150_0 (f150_0g ) α k=pa150_0.unc fun ds=>fnM Pg (E150_0g ) sh150 (cm150_0g ) rs150 k ds:=by kernel_rfl
theorem fm150_0:∀ (α:Type) (k:RT α),Fn150_0 f150_0 α k=pa150_0.unc fun ds=>fnM Pg E150_0 sh150 cm150_0 rs150 k ds:=fm150_0g
theorem is150:FnIs Pg 150 nt150 tr150 tl150 cm150_0.erase rs150:=⟨Tryz.f150,Tryz.func150,rfl,by kernel_rfl,by kernel_rfl,by kernel_rfl⟩
theorem io150_0:InstOk Pg 150 nt150 ⟨pa150_0,Fn150_0 f150_0⟩:=inst_ok eo150_0 followsTry is150 ⟨⟨sh150,cm150_0,by kernel_rfl,gm150_0,fm150_0⟩⟩
abbrev nt54:Nat:=27
def sh54:SG:=[(7,[.cpx .f64]),(20,iT)]
def r54_2:LA:=[oO 2 (.box (.tmp 0)),oO 4 (.alloc [(.d (.v (.complex Go.FloatKind.f64 0 0))),(cI 0)])]
def r54_4:LA:=[fA 6 0 2,lD 7 6,oM 8 1,oO 9 (.pure (oB (.convert 3 117 (.tmp 8)) 117)),oO 10 (.pure (oB (.call { callee:=.builtin .complex,args:=#[(.tmp 9),(.const (.float Go.FloatKind.f64 0))],argTypes:=#[117,117] }) 43)),oO 11 (.bin .mul 43 (.tmp 7) (.tmp 10)),oM 5 11]
def r54_6:LA:=[oM 12 5,oO 13 (.pure (oB (.call { callee:=.builtin .real,args:=#[(.tmp 12)],argTypes:=#[43] }) 117)),oO 14 (.bin .add 117 (.tmp 13) (.const (.float Go.FloatKind.f64 0))),oM 15 5,oO 16 (.pure (oB (.call { callee:=.builtin .imag,args:=#[(.tmp 15)],argTypes:=#[43] }) 117)),oO 17 (.bin .add 117 (.tmp 16) (.const (.float Go.FloatKind.f64 0))),oO 18 (.pure (oB (.call { callee:=.builtin .complex,args:=#[(.tmp 14),(.tmp 17)],argTypes:=#[117,117] }) 43)),fA 19 1 2,lD 20 19,oM 21 1,oM 22 1,oO 23 (.pure (oB (.unOp .neg 3 (.tmp 22)) 3)),oO 24 (.pure (oB (.call { callee:=.builtin .max,args:=#[(.tmp 21),(.tmp 23)],argTypes:=#[3,3] }) 3)),bT 25 .mul 20 24,oO 26 (.build [(.d (.v (.complex Go.FloatKind.f64 0 0))),(cI 0)] [(0,1,(.tmp 18)),(1,1,(.tmp 25))]),sD 2 4 26]
def tr54:TG:=[tT 0 [1,2,4],tT 1 [1,2,4,5],tT 2 [4]]
def tl54:TG:=[]
def rs54:List AResV:=[.cell 4 true 2]
def pr54_0_0:PT (List RV):=pRs [pR true [rD (dX .f64),rD (dI .i64)]]
def ur54_0_0 {β:Type}(g:List RV->β):Nat->Nat->Int->β:=pr54_0_0.unc g
def E54_0g:EnvK:=EnvK.of [] noSeq
def E54_0:EnvK:=E54_0g
theorem eo54_0:E54_0.Ok Pg:=EnvK.of_ok noSeq_ok trivial
abbrev Tf54_0:Type 1:=(α:Type)->Nat->Nat->Int->Int->(Nat->Nat->Int->Op α)->Op α
def f54_0g (α:Type)(b c:Nat)(e a:Int)(k1:Nat->Nat->Int->Op α):Op α:=
 flK ((FloatKind.format .f64).mul b (FloatKind.nearest .f64 a))
 (fun g=>flK ((FloatKind.format .f64).mul c 0)
 (fun h=>flK ((FloatKind.format .f64).sub g h)
 (fun i=>flK ((FloatKind.format .f64).mul b 0)
 (fun j=>flK ((FloatKind.format .f64).mul c (FloatKind.nearest .f64 a))
 (fun l=>flK ((FloatKind.format .f64).add j l)
 (fun d=>flN ((FloatKind.format .f64).add i 0)
 (fun m=>flN ((FloatKind.format .f64).add d 0)
 (fun o=>k1 m o (w64 (e*(if (w64 (0 - a)) > a then (w64 (0 - a)) else a))))
 (none))
 (flN ((FloatKind.format .f64).add d 0)
 (fun p=>none)
 (none))))))))
def f54_0 (α:Type)(a b:Nat)(c d:Int)(k1:Nat->Nat->Int->Op α):Op α:=f54_0g α a b c d k1
def pa54_0:PT (List DV):=pA [pV true [(dX .f64),(dI .i64)],vI]
def Fn54_0 (v:Tf54_0)(α:Type)(k:RT α):Nat->Nat->Int->Int->Op α:=fun a b c d=>v α a b c d (fun e g h=>ur54_0_0 k e g h)
def cm54_0g:MCode:=(.seq (.region r54_2 [] (tO [1,2,4])) (.seq (.region r54_4 [] (tO [1,2,4,5])) (.seq (.region r54_6 [] (tO [4])) .ret)))
def cm54_0:MCode:=cm54_0g
theorem gm54_0:cm54_0.Good Pg E54_0 sh54:=⟨trivial,trivial,trivial,trivial⟩
theorem fm54_0g (α:Type)(k:RT α):Fn54_0 (f54_0g ) α k=pa54_0.unc fun ds=>fnM Pg (E54_0g ) sh54 (cm54_0g ) rs54 k ds:=by kernel_rfl
theorem fm54_0:∀ (α:Type) (k:RT α),Fn54_0 f54_0 α k=pa54_0.unc fun ds=>fnM Pg E54_0 sh54 cm54_0 rs54 k ds:=fm54_0g
theorem is54:FnIs Pg 54 nt54 tr54 tl54 cm54_0.erase rs54:=⟨Tryz.f54,Tryz.func54,rfl,by kernel_rfl,by kernel_rfl,by kernel_rfl⟩
theorem io54_0:InstOk Pg 54 nt54 ⟨pa54_0,Fn54_0 f54_0⟩:=inst_ok eo54_0 followsTry is54 ⟨⟨sh54,cm54_0,by kernel_rfl,gm54_0,fm54_0⟩⟩
abbrev nt166:Nat:=10
def sh166:SG:=[(4,iT),(7,iT)]
def r166_2:LA:=[oO 1 (.box (.tmp 0)),oO 2 (.mv (.const (.complex Go.FloatKind.f64 0 0)))]
def r166_4:LA:=[fA 3 0 1,lD 4 3,oO 5 (.pure (oB (.convert 3 117 (.tmp 4)) 117)),fA 6 1 1,lD 7 6,oO 8 (.pure (oB (.convert 3 117 (.tmp 7)) 117)),oO 9 (.pure (oB (.call { callee:=.builtin .complex,args:=#[(.tmp 5),(.tmp 8)],argTypes:=#[117,117] }) 43)),oM 2 9]
def tr166:TG:=[tT 0 [1],tT 1 [2]]
def tl166:TG:=[]
def rs166:List AResV:=[.tmp 2]
def pr166_0_0:PT (List RV):=pRs [pR false [rD (dX .f64)]]
def ur166_0_0 {β:Type}(g:List RV->β):Nat->Nat->β:=pr166_0_0.unc g
def E166_0g:EnvK:=EnvK.of [] noSeq
def E166_0:EnvK:=E166_0g
theorem eo166_0:E166_0.Ok Pg:=EnvK.of_ok noSeq_ok trivial
abbrev Tf166_0:Type 1:=(α:Type)->Int->Int->(Nat->Nat->Op α)->Op α
def f166_0g (α:Type)(a b:Int)(k1:Nat->Nat->Op α):Op α:=
 k1 (FloatKind.nearest .f64 a) (FloatKind.nearest .f64 b)
def f166_0 (α:Type)(a b:Int)(k1:Nat->Nat->Op α):Op α:=f166_0g α a b k1
def pa166_0:PT (List DV):=pA [pV true [(dI .i64),(dI .i64)]]
def Fn166_0 (v:Tf166_0)(α:Type)(k:RT α):Int->Int->Op α:=fun a b=>v α a b (fun c d=>ur166_0_0 k c d)
def cm166_0g:MCode:=(.seq (.region r166_2 [] (tO [1])) (.seq (.region r166_4 [] (tO [2])) .ret))
def cm166_0:MCode:=cm166_0g
theorem gm166_0:cm166_0.Good Pg E166_0 sh166:=⟨trivial,trivial,trivial⟩
theorem fm166_0g (α:Type)(k:RT α):Fn166_0 (f166_0g ) α k=pa166_0.unc fun ds=>fnM Pg (E166_0g ) sh166 (cm166_0g ) rs166 k ds:=by kernel_rfl
theorem fm166_0:∀ (α:Type) (k:RT α),Fn166_0 f166_0 α k=pa166_0.unc fun ds=>fnM Pg E166_0 sh166 cm166_0 rs166 k ds:=fm166_0g
theorem is166:FnIs Pg 166 nt166 tr166 tl166 cm166_0.erase rs166:=⟨Tryz.f166,Tryz.func166,rfl,by kernel_rfl,by kernel_rfl,by kernel_rfl⟩
theorem io166_0:InstOk Pg 166 nt166 ⟨pa166_0,Fn166_0 f166_0⟩:=inst_ok eo166_0 followsTry is166 ⟨⟨sh166,cm166_0,by kernel_rfl,gm166_0,fm166_0⟩⟩
abbrev nt164:Nat:=16
def sh164:SG:=[(9,iT),(12,iT),(15,iS 2)]
def r164_2:LA:=[oO 2 (.box (.tmp 0)),oO 4 (.alloc [(cI 0),(cI 0)])]
def r164_5:LA:=[oM 5 1,mK 6 0]
def td164_7:OT:=(tO [2,4,5,6])
def r164_9:LA:=[bT 7 .lss 6 5]
def r164_14:LA:=[fA 8 1 2,lD 9 8,oO 10 (.pure (oB (.unOp .neg 3 (.tmp 9)) 3)),fA 11 0 2,lD 12 11,oO 13 (.build [(cI 0),(cI 0)] [(0,1,(.tmp 10)),(1,1,(.tmp 12))]),sD 2 2 13]
def r164_15:LA:=[bK 14 .add 6 1,oM 6 14]
def r164_17:LA:=[lA 15 2 2,sD 2 4 15]
def tr164:TG:=[tT 0 [1,2,4],tT 1 [2,4,5,6],tT 2 [2,4,5,6,7],tT 3 [2,4,5,6],tT 4 [2,4,5,6],tT 5 [4]]
def tl164:TG:=[tT 2 [2,4,5,6]]
def rs164:List AResV:=[.cell 4 true 2]
def p164_0_0:PT St:=pS [sP 2,sP 4,sI 5,sI 6] [eBox 2 [xI,xI],eBox 4 [xI,xI]]
def u164_0_0 {β:Type}(g:St->β):I6 β:=p164_0_0.unc g
def p164_0_1:PT St:=pS [sP 2,sP 4,sI 5,sI 6,sl 7 (aV false [(cD dB)])] [eBox 2 [xI,xI],eBox 4 [xI,xI]]
def u164_0_1 {β:Type}(g:St->β):Int->Int->Bool->I4 β:=p164_0_1.unc g
def pr164_0_0:PT (List RV):=pRs [pR true [rD (dI .i64),rD (dI .i64)]]
def ur164_0_0 {β:Type}(g:List RV->β):Int->Int->β:=pr164_0_0.unc g
def E164_0g:EnvK:=EnvK.of [] noSeq
def E164_0:EnvK:=E164_0g
theorem eo164_0:E164_0.Ok Pg:=EnvK.of_ok noSeq_ok trivial
def c164_0_7g:MCode:=(.seq (.region r164_9 [] (tO [2,4,5,6,7])) (.seq (.cond (.tmp 7) .skip (.exit 0)) (.seq (.block 1 (.region r164_14 [] (tO [2,4,5,6]))) (.region r164_15 [] (tO [2,4,5,6])))))
def c164_0_7:MCode:=c164_0_7g
theorem g164_0_7:c164_0_7.Good Pg E164_0 sh164:=⟨trivial,⟨trivial,trivial⟩,trivial,trivial⟩
def S164_0_0g (α:Type)(b a c d:Int)(kn:Int->Int->Int->Op α)(k1:Int->Bool->Int->Int->Op α):Op α:=
 cK (decide (a < b))
 (kn (w64 (a+1)) (w64 (0 - d)) c)
 (k1 a (decide (a < b)) c d)
def S164_0_0 (α:Type)(a b c d:Int)(kn:Int->Int->Int->Op α)(k1:Int->Bool->Int->Int->Op α):Op α:=S164_0_0g α a b c d kn k1
def R164_0_0 (α:Type)(a:Int)(k1:Int->Bool->Int->Int->Op α):Nat->Int->Int->Int->Op α
 | 0,_,_,_=>none
 | n+1,b,c,d=>S164_0_0 α a b c d (R164_0_0 α a k1 n) k1
def L164_0_0 (α:Type)(a:Int)(k1:Int->Bool->Int->Int->Op α)(b c d:Int):Op α:=R164_0_0 α a k1 fuel b c d
abbrev TL164_0_0:Type 1:=(α:Type)->Int->(Int->Bool->Int->Int->Op α)->Int->Int->Int->Op α
def F164_0_0 (v:TL164_0_0)(α:Type)(K:KT α):I6 (Op α):=fun a b c d e g=>v α a (fun h i j l=>u164_0_1 (K (.exit 0)) a h i j l e g) b c d
theorem r164_0_0g (α:Type)(K:KT α)(Kn:SK α)(a b c d e g:Int):u164_0_0 (fun σ=>runM Pg (E164_0g ) sh164 (c164_0_7g ) (thenK (fun σ=>tidyK td164_7 σ Kn) K) σ) a b c d e g=S164_0_0g α a b c d (fun b c d=>u164_0_0 Kn a b c d e g) (fun h i j l=>u164_0_1 (K (.exit 0)) a h i j l e g):=by kernel_rfl
theorem r164_0_0 (α:Type)(K:KT α)(Kn:SK α)(a b c d e g:Int):u164_0_0 (fun σ=>runM Pg E164_0 sh164 c164_0_7 (thenK (fun σ=>tidyK td164_7 σ Kn) K) σ) a b c d e g=S164_0_0 α a b c d (fun b c d=>u164_0_0 Kn a b c d e g) (fun h i j l=>u164_0_1 (K (.exit 0)) a h i j l e g):=r164_0_0g α K Kn a b c d e g
theorem t164_0_0 (α:Type)(K:KT α):∀ (n:Nat) (a b c d e g:Int),R164_0_0 α a (fun h i j l=>u164_0_1 (K (.exit 0)) a h i j l e g) n b c d=u164_0_0 (loopT (runM Pg E164_0 sh164 c164_0_7) td164_7 K n) a b c d e g:=by
 intro n
 induction n with
 | zero=>intros;rfl
 | succ n ih=>intro a b c d e g;exact (congrArg (fun kn=>S164_0_0 α a b c d kn (fun h i j l=>u164_0_1 (K (.exit 0)) a h i j l e g)) (funext fun b=>funext fun c=>funext fun d=>ih a b c d e g)).trans (r164_0_0 α K (loopT (runM Pg E164_0 sh164 c164_0_7) td164_7 K n) a b c d e g).symm
theorem m164_0_0:∀ (α:Type) (K:KT α),F164_0_0 L164_0_0 α K=p164_0_0.unc fun σ=>loopT (runM Pg E164_0 sh164 c164_0_7) td164_7 K fuel σ:=fun α K=>by funext a b c d e g;exact t164_0_0 α K fuel a b c d e g
abbrev Tf164_0:Type 1:=(α:Type)->Int->Int->Int->(Int->Int->Op α)->Op α
def f164_0g (a:TL164_0_0)(α:Type)(b c d:Int)(k1:Int->Int->Op α):Op α:=
 a α d
 (fun h i e g=>k1 e g) 0 b c
def f164_0 (α:Type)(a b c:Int)(k1:Int->Int->Op α):Op α:=f164_0g L164_0_0 α a b c k1
def pa164_0:PT (List DV):=pA [pV true [(dI .i64),(dI .i64)],vI]
def Fn164_0 (v:Tf164_0)(α:Type)(k:RT α):Int->Int->Int->Op α:=fun a b c=>v α a b c (fun d e=>ur164_0_0 k d e)
def cm164_0g (a:TL164_0_0):MCode:=(.seq (.region r164_2 [] (tO [1,2,4])) (.seq (.seq (.region r164_5 [] (tO [2,4,5,6])) (.block 0 (.loop td164_7 [⟨p164_0_0,F164_0_0 a⟩] c164_0_7))) (.seq (.region r164_17 [] (tO [4])) .ret)))
def cm164_0:MCode:=cm164_0g L164_0_0
theorem gm164_0:cm164_0.Good Pg E164_0 sh164:=⟨trivial,⟨trivial,g164_0_7,m164_0_0,trivial⟩,trivial,trivial⟩
theorem fm164_0g (a:TL164_0_0)(α:Type)(k:RT α):Fn164_0 (f164_0g a) α k=pa164_0.unc fun ds=>fnM Pg (E164_0g ) sh164 (cm164_0g a) rs164 k ds:=by kernel_rfl
theorem fm164_0:∀ (α:Type) (k:RT α),Fn164_0 f164_0 α k=pa164_0.unc fun ds=>fnM Pg E164_0 sh164 cm164_0 rs164 k ds:=fm164_0g L164_0_0
theorem is164:FnIs Pg 164 nt164 tr164 tl164 cm164_0.erase rs164:=⟨Tryz.f164,Tryz.func164,rfl,by kernel_rfl,by kernel_rfl,by kernel_rfl⟩
theorem io164_0:InstOk Pg 164 nt164 ⟨pa164_0,Fn164_0 f164_0⟩:=inst_ok eo164_0 followsTry is164 ⟨⟨sh164,cm164_0,by kernel_rfl,gm164_0,fm164_0⟩⟩
abbrev nt131:Nat:=14
def sh131:SG:=[(4,iT),(6,iT),(9,iT),(11,iT)]
def r131_2:LA:=[oO 1 (.box (.tmp 0)),mK 2 0]
def r131_4:LA:=[fA 3 0 1,lD 4 3,fA 5 0 1,lD 6 5,bT 7 .mul 4 6,fA 8 1 1,lD 9 8,fA 10 1 1,lD 11 10,bT 12 .mul 9 11,bT 13 .add 7 12,oM 2 13]
def tr131:TG:=[tT 0 [1],tT 1 [2]]
def tl131:TG:=[]
def rs131:List AResV:=[.tmp 2]
def pr131_0_0:PT (List RV):=pRs [wI]
def ur131_0_0 {β:Type}(g:List RV->β):Int->β:=pr131_0_0.unc g
def E131_0g:EnvK:=EnvK.of [] noSeq
def E131_0:EnvK:=E131_0g
theorem eo131_0:E131_0.Ok Pg:=EnvK.of_ok noSeq_ok trivial
abbrev Tf131_0:Type 1:=(α:Type)->Int->Int->(Int->Op α)->Op α
def f131_0g (α:Type)(a b:Int)(k1:Int->Op α):Op α:=
 k1 (w64 ((w64 (a*a))+(w64 (b*b))))
def f131_0 (α:Type)(a b:Int)(k1:Int->Op α):Op α:=f131_0g α a b k1
def pa131_0:PT (List DV):=pA [pV true [(dI .i64),(dI .i64)]]
def Fn131_0 (v:Tf131_0)(α:Type)(k:RT α):Int->Int->Op α:=fun a b=>v α a b (fun c=>ur131_0_0 k c)
def cm131_0g:MCode:=(.seq (.region r131_2 [] (tO [1])) (.seq (.region r131_4 [] (tO [2])) .ret))
def cm131_0:MCode:=cm131_0g
theorem gm131_0:cm131_0.Good Pg E131_0 sh131:=⟨trivial,trivial,trivial⟩
theorem fm131_0g (α:Type)(k:RT α):Fn131_0 (f131_0g ) α k=pa131_0.unc fun ds=>fnM Pg (E131_0g ) sh131 (cm131_0g ) rs131 k ds:=by kernel_rfl
theorem fm131_0:∀ (α:Type) (k:RT α),Fn131_0 f131_0 α k=pa131_0.unc fun ds=>fnM Pg E131_0 sh131 cm131_0 rs131 k ds:=fm131_0g
theorem is131:FnIs Pg 131 nt131 tr131 tl131 cm131_0.erase rs131:=⟨Tryz.f131,Tryz.func131,rfl,by kernel_rfl,by kernel_rfl,by kernel_rfl⟩
theorem io131_0:InstOk Pg 131 nt131 ⟨pa131_0,Fn131_0 f131_0⟩:=inst_ok eo131_0 followsTry is131 ⟨⟨sh131,cm131_0,by kernel_rfl,gm131_0,fm131_0⟩⟩
abbrev nt155:Nat:=16
def sh155:SG:=[(6,iT),(8,iT),(11,iT),(13,iT)]
def r155_2:LA:=[oO 2 (.box (.tmp 0)),oO 3 (.box (.tmp 1)),oO 4 (.alloc [(cI 0),(cI 0)])]
def r155_4:LA:=[fA 5 0 2,lD 6 5,fA 7 0 3,lD 8 7,bT 9 .add 6 8,fA 10 1 2,lD 11 10,fA 12 1 3,lD 13 12,bT 14 .add 11 13,oO 15 (.build [(cI 0),(cI 0)] [(0,1,(.tmp 9)),(1,1,(.tmp 14))]),sD 2 4 15]
def tr155:TG:=[tT 0 [2,3,4],tT 1 [4]]
def tl155:TG:=[]
def rs155:List AResV:=[.cell 4 true 2]
def pr155_0_0:PT (List RV):=pRs [pR true [rD (dI .i64),rD (dI .i64)]]
def ur155_0_0 {β:Type}(g:List RV->β):Int->Int->β:=pr155_0_0.unc g
def E155_0g:EnvK:=EnvK.of [] noSeq
def E155_0:EnvK:=E155_0g
theorem eo155_0:E155_0.Ok Pg:=EnvK.of_ok noSeq_ok trivial
abbrev Tf155_0:Type 1:=(α:Type)->Int->Int->Int->Int->(Int->Int->Op α)->Op α
def f155_0g (α:Type)(a b c d:Int)(k1:Int->Int->Op α):Op α:=
 k1 (w64 (a+c)) (w64 (b+d))
def f155_0 (α:Type)(a b c d:Int)(k1:Int->Int->Op α):Op α:=f155_0g α a b c d k1
def pa155_0:PT (List DV):=pA [pV true [(dI .i64),(dI .i64)],pV true [(dI .i64),(dI .i64)]]
def Fn155_0 (v:Tf155_0)(α:Type)(k:RT α):I4 (Op α):=fun a b c d=>v α a b c d (fun e g=>ur155_0_0 k e g)
def cm155_0g:MCode:=(.seq (.region r155_2 [] (tO [2,3,4])) (.seq (.region r155_4 [] (tO [4])) .ret))
def cm155_0:MCode:=cm155_0g
theorem gm155_0:cm155_0.Good Pg E155_0 sh155:=⟨trivial,trivial,trivial⟩
theorem fm155_0g (α:Type)(k:RT α):Fn155_0 (f155_0g ) α k=pa155_0.unc fun ds=>fnM Pg (E155_0g ) sh155 (cm155_0g ) rs155 k ds:=by kernel_rfl
theorem fm155_0:∀ (α:Type) (k:RT α),Fn155_0 f155_0 α k=pa155_0.unc fun ds=>fnM Pg E155_0 sh155 cm155_0 rs155 k ds:=fm155_0g
theorem is155:FnIs Pg 155 nt155 tr155 tl155 cm155_0.erase rs155:=⟨Tryz.f155,Tryz.func155,rfl,by kernel_rfl,by kernel_rfl,by kernel_rfl⟩
theorem io155_0:InstOk Pg 155 nt155 ⟨pa155_0,Fn155_0 f155_0⟩:=inst_ok eo155_0 followsTry is155 ⟨⟨sh155,cm155_0,by kernel_rfl,gm155_0,fm155_0⟩⟩
abbrev nt139:Nat:=16
def sh139:SG:=[]
def r139_2:LA:=[mK 4 0]
def r139_4:LA:=[oM 6 0,oM 7 1,bT 8 .quo 6 7,oM 5 8]
def r139_7:LA:=[oM 9 0,oM 10 1,bT 11 .rem 9 10,bK 12 .lss 11 0]
def r139_9:LA:=[oM 13 5,bK 14 .sub 13 1,oM 5 14]
def r139_11:LA:=[oM 15 5,oM 4 15]
def tr139:TG:=[tT 0 [0,1],tT 1 [0,1,5],tT 2 [5,12],tT 3 [5],tT 4 [4]]
def tl139:TG:=[]
def rs139:List AResV:=[.tmp 4]
def pr139_0_0:PT (List RV):=pRs [wI]
def ur139_0_0 {β:Type}(g:List RV->β):Int->β:=pr139_0_0.unc g
def E139_0g:EnvK:=EnvK.of [] noSeq
def E139_0:EnvK:=E139_0g
theorem eo139_0:E139_0.Ok Pg:=EnvK.of_ok noSeq_ok trivial
abbrev Tf139_0:Type 1:=(α:Type)->Int->Int->(Int->Op α)->Op α
def f139_0g (α:Type)(b a:Int)(k1:Int->Op α):Op α:=
 gK (a != 0) (gK (a != 0) (cK (decide ((Int.tmod b a) < 0))
 (k1 (w64 ((w64 (Int.tdiv b a)) - 1)))
 (k1 (w64 (Int.tdiv b a)))))
def f139_0 (α:Type)(a b:Int)(k1:Int->Op α):Op α:=f139_0g α a b k1
def pa139_0:PT (List DV):=pA [vI,vI]
def Fn139_0 (v:Tf139_0)(α:Type)(k:RT α):Int->Int->Op α:=fun a b=>v α a b (fun c=>ur139_0_0 k c)
def cm139_0g:MCode:=(.seq (.region r139_2 [] (tO [0,1])) (.seq (.region r139_4 [] (tO [0,1,5])) (.seq (.seq (.region r139_7 [] (tO [5,12])) (.cond (.tmp 12) (.region r139_9 [] (tO [5])) .skip)) (.seq (.region r139_11 [] (tO [4])) .ret))))
def cm139_0:MCode:=cm139_0g
theorem gm139_0:cm139_0.Good Pg E139_0 sh139:=⟨trivial,trivial,⟨trivial,trivial,trivial⟩,trivial,trivial⟩
theorem fm139_0g (α:Type)(k:RT α):Fn139_0 (f139_0g ) α k=pa139_0.unc fun ds=>fnM Pg (E139_0g ) sh139 (cm139_0g ) rs139 k ds:=by kernel_rfl
theorem fm139_0:∀ (α:Type) (k:RT α),Fn139_0 f139_0 α k=pa139_0.unc fun ds=>fnM Pg E139_0 sh139 cm139_0 rs139 k ds:=fm139_0g
theorem is139:FnIs Pg 139 nt139 tr139 tl139 cm139_0.erase rs139:=⟨Tryz.f139,Tryz.func139,rfl,by kernel_rfl,by kernel_rfl,by kernel_rfl⟩
theorem io139_0:InstOk Pg 139 nt139 ⟨pa139_0,Fn139_0 f139_0⟩:=inst_ok eo139_0 followsTry is139 ⟨⟨sh139,cm139_0,by kernel_rfl,gm139_0,fm139_0⟩⟩
abbrev nt127:Nat:=15
def sh127:SG:=[]
def r127_2:LA:=[oO 6 (.mv (.const (.bool false)))]
def r127_4:LA:=[oM 7 1,oM 8 0,bT 9 .leq 7 8,oM 10 9,oG 11 (.mv (.tmp 0)) 10 true,oG 12 (.mv (.tmp 2)) 10 true,oG 13 (.bin .leq 3 (.tmp 11) (.tmp 12)) 10 true,oO 14 (.pick (.tmp 10) (.tmp 13) (.const (.bool false))),oM 6 14]
def tr127:TG:=[tT 0 [0,1,2],tT 1 [6]]
def tl127:TG:=[]
def rs127:List AResV:=[.tmp 6]
def pr127_0_0:PT (List RV):=pRs [pR false [rD dB]]
def ur127_0_0 {β:Type}(g:List RV->β):Bool->β:=pr127_0_0.unc g
def E127_0g:EnvK:=EnvK.of [] noSeq
def E127_0:EnvK:=E127_0g
theorem eo127_0:E127_0.Ok Pg:=EnvK.of_ok noSeq_ok trivial
abbrev Tf127_0:Type 1:=(α:Type)->Int->Int->Int->(Bool->Op α)->Op α
def f127_0g (α:Type)(a b c:Int)(k1:Bool->Op α):Op α:=
 cK (decide (b<=a))
 (k1 (decide (a<=c)))
 (k1 false)
def f127_0 (α:Type)(a b c:Int)(k1:Bool->Op α):Op α:=f127_0g α a b c k1
def pa127_0:PT (List DV):=pA [vI,vI,vI]
def Fn127_0 (v:Tf127_0)(α:Type)(k:RT α):Int->Int->Int->Op α:=fun a b c=>v α a b c (fun d=>ur127_0_0 k d)
def cm127_0g:MCode:=(.seq (.region r127_2 [] (tO [0,1,2])) (.seq (.region r127_4 [] (tO [6])) .ret))
def cm127_0:MCode:=cm127_0g
theorem gm127_0:cm127_0.Good Pg E127_0 sh127:=⟨trivial,trivial,trivial⟩
theorem fm127_0g (α:Type)(k:RT α):Fn127_0 (f127_0g ) α k=pa127_0.unc fun ds=>fnM Pg (E127_0g ) sh127 (cm127_0g ) rs127 k ds:=by kernel_rfl
theorem fm127_0:∀ (α:Type) (k:RT α),Fn127_0 f127_0 α k=pa127_0.unc fun ds=>fnM Pg E127_0 sh127 cm127_0 rs127 k ds:=fm127_0g
theorem is127:FnIs Pg 127 nt127 tr127 tl127 cm127_0.erase rs127:=⟨Tryz.f127,Tryz.func127,rfl,by kernel_rfl,by kernel_rfl,by kernel_rfl⟩
theorem io127_0:InstOk Pg 127 nt127 ⟨pa127_0,Fn127_0 f127_0⟩:=inst_ok eo127_0 followsTry is127 ⟨⟨sh127,cm127_0,by kernel_rfl,gm127_0,fm127_0⟩⟩
abbrev nt51:Nat:=15
def sh51:SG:=[]
def r51_2:LA:=[oO 6 (.mv (.const (.bool false)))]
def r51_4:LA:=[oM 7 0,oM 8 1,bT 9 .geq 7 8,oM 10 9,oG 11 (.mv (.tmp 0)) 10 true,oG 12 (.mv (.tmp 2)) 10 true,oG 13 (.bin .leq 3 (.tmp 11) (.tmp 12)) 10 true,oO 14 (.pick (.tmp 10) (.tmp 13) (.const (.bool false))),oM 6 14]
def tr51:TG:=[tT 0 [0,1,2],tT 1 [6]]
def tl51:TG:=[]
def rs51:List AResV:=[.tmp 6]
def pr51_0_0:PT (List RV):=pRs [pR false [rD dB]]
def ur51_0_0 {β:Type}(g:List RV->β):Bool->β:=pr51_0_0.unc g
def E51_0g:EnvK:=EnvK.of [] noSeq
def E51_0:EnvK:=E51_0g
theorem eo51_0:E51_0.Ok Pg:=EnvK.of_ok noSeq_ok trivial
abbrev Tf51_0:Type 1:=(α:Type)->Int->Int->Int->(Bool->Op α)->Op α
def f51_0g (α:Type)(a b c:Int)(k1:Bool->Op α):Op α:=
 cK (decide (b<=a))
 (k1 (decide (a<=c)))
 (k1 false)
def f51_0 (α:Type)(a b c:Int)(k1:Bool->Op α):Op α:=f51_0g α a b c k1
def pa51_0:PT (List DV):=pA [vI,vI,vI]
def Fn51_0 (v:Tf51_0)(α:Type)(k:RT α):Int->Int->Int->Op α:=fun a b c=>v α a b c (fun d=>ur51_0_0 k d)
def cm51_0g:MCode:=(.seq (.region r51_2 [] (tO [0,1,2])) (.seq (.region r51_4 [] (tO [6])) .ret))
def cm51_0:MCode:=cm51_0g
theorem gm51_0:cm51_0.Good Pg E51_0 sh51:=⟨trivial,trivial,trivial⟩
theorem fm51_0g (α:Type)(k:RT α):Fn51_0 (f51_0g ) α k=pa51_0.unc fun ds=>fnM Pg (E51_0g ) sh51 (cm51_0g ) rs51 k ds:=by kernel_rfl
theorem fm51_0:∀ (α:Type) (k:RT α),Fn51_0 f51_0 α k=pa51_0.unc fun ds=>fnM Pg E51_0 sh51 cm51_0 rs51 k ds:=fm51_0g
theorem is51:FnIs Pg 51 nt51 tr51 tl51 cm51_0.erase rs51:=⟨Tryz.f51,Tryz.func51,rfl,by kernel_rfl,by kernel_rfl,by kernel_rfl⟩
theorem io51_0:InstOk Pg 51 nt51 ⟨pa51_0,Fn51_0 f51_0⟩:=inst_ok eo51_0 followsTry is51 ⟨⟨sh51,cm51_0,by kernel_rfl,gm51_0,fm51_0⟩⟩
abbrev nt23:Nat:=17
def sh23:SG:=[(6,[.cpx .f64]),(8,[.cpx .f64]),(12,iT),(14,iT)]
def r23_2:LA:=[oO 2 (.box (.tmp 0)),oO 3 (.box (.tmp 1)),oO 4 (.mv (.const (.bool false)))]
def r23_4:LA:=[fA 5 0 2,lD 6 5,fA 7 0 3,lD 8 7,oO 9 (.call 71 [(.tmp 6),(.tmp 8)]),oM 10 9,oG 11 (.faddr 1 (.tmp 2)) 10 true,oG 12 (.load false 1 (.tmp 11)) 10 true,oG 13 (.faddr 1 (.tmp 3)) 10 true,oG 14 (.load false 1 (.tmp 13)) 10 true,oG 15 (.bin .eql 3 (.tmp 12) (.tmp 14)) 10 true,oO 16 (.pick (.tmp 10) (.tmp 15) (.const (.bool false))),oM 4 16]
def tr23:TG:=[tT 0 [2,3],tT 1 [4]]
def tl23:TG:=[]
def rs23:List AResV:=[.tmp 4]
def pr23_0_0:PT (List RV):=pRs [pR false [rD dB]]
def ur23_0_0 {β:Type}(g:List RV->β):Bool->β:=pr23_0_0.unc g
def E23_0g (a:Tf71_0):EnvK:=EnvK.of [⟨71,nt71,[⟨pa71_0,Fn71_0 a⟩]⟩] noSeq
def E23_0:EnvK:=E23_0g f71_0
theorem eo23_0:E23_0.Ok Pg:=EnvK.of_ok noSeq_ok ⟨⟨io71_0,trivial⟩,trivial⟩
abbrev Tf23_0:Type 1:=(α:Type)->Nat->Nat->Int->Nat->Nat->Int->(Bool->Op α)->Op α
def f23_0g (a:Tf71_0)(α:Type)(b c:Nat)(d:Int)(e g:Nat)(h:Int)(k1:Bool->Op α):Op α:=
 a α b c e g
 (fun i=>cK i
 (k1 (d == h))
 (k1 false))
def f23_0 (α:Type)(a b:Nat)(c:Int)(d e:Nat)(g:Int)(k1:Bool->Op α):Op α:=f23_0g f71_0 α a b c d e g k1
def pa23_0:PT (List DV):=pA [pV true [(dX .f64),(dI .i64)],pV true [(dX .f64),(dI .i64)]]
def Fn23_0 (v:Tf23_0)(α:Type)(k:RT α):Nat->Nat->Int->Nat->Nat->Int->Op α:=fun a b c d e g=>v α a b c d e g (fun h=>ur23_0_0 k h)
def cm23_0g:MCode:=(.seq (.region r23_2 [] (tO [2,3])) (.seq (.region r23_4 [] (tO [4])) .ret))
def cm23_0:MCode:=cm23_0g
theorem gm23_0:cm23_0.Good Pg E23_0 sh23:=⟨trivial,trivial,trivial⟩
theorem fm23_0g (a:Tf71_0)(α:Type)(k:RT α):Fn23_0 (f23_0g a) α k=pa23_0.unc fun ds=>fnM Pg (E23_0g a) sh23 (cm23_0g ) rs23 k ds:=by kernel_rfl
theorem fm23_0:∀ (α:Type) (k:RT α),Fn23_0 f23_0 α k=pa23_0.unc fun ds=>fnM Pg E23_0 sh23 cm23_0 rs23 k ds:=fm23_0g f71_0
theorem is23:FnIs Pg 23 nt23 tr23 tl23 cm23_0.erase rs23:=⟨Tryz.f23,Tryz.func23,rfl,by kernel_rfl,by kernel_rfl,by kernel_rfl⟩
theorem io23_0:InstOk Pg 23 nt23 ⟨pa23_0,Fn23_0 f23_0⟩:=inst_ok eo23_0 followsTry is23 ⟨⟨sh23,cm23_0,by kernel_rfl,gm23_0,fm23_0⟩⟩
abbrev nt92:Nat:=18
def sh92:SG:=[(7,iS 3),(13,iT),(15,iT)]
def r92_2:LA:=[oO 3 (.box (.tmp 0)),oO 6 (.mv (.const (.bool false)))]
def r92_4:LA:=[lA 7 3 3,oM 8 1,oM 9 2,oO 10 (.build (zI 3) [(0,1,(.tmp 8)),(1,1,(.tmp 9))]),oO 11 (.call 126 [(.tmp 7),(.tmp 10)]),fA 12 2 3,lD 13 12,fA 14 2 3,lD 15 14,bT 16 .mul 13 15,bT 17 .leq 11 16,oM 6 17]
def tr92:TG:=[tT 0 [1,2,3],tT 1 [6]]
def tl92:TG:=[]
def rs92:List AResV:=[.tmp 6]
def pr92_0_0:PT (List RV):=pRs [pR false [rD dB]]
def ur92_0_0 {β:Type}(g:List RV->β):Bool->β:=pr92_0_0.unc g
def E92_0g (a:Tf126_0):EnvK:=EnvK.of [⟨126,nt126,[⟨pa126_0,Fn126_0 a⟩]⟩] noSeq
def E92_0:EnvK:=E92_0g f126_0
theorem eo92_0:E92_0.Ok Pg:=EnvK.of_ok noSeq_ok ⟨⟨io126_0,trivial⟩,trivial⟩
abbrev Tf92_0:Type 1:=(α:Type)->Int->Int->Int->Int->Int->(Bool->Op α)->Op α
def f92_0g (b:Tf126_0)(α:Type)(c d a e g:Int)(k1:Bool->Op α):Op α:=
 b α c d e g
 (fun h=>k1 (decide (h<=(w64 (a*a)))))
def f92_0 (α:Type)(a b c d e:Int)(k1:Bool->Op α):Op α:=f92_0g f126_0 α a b c d e k1
def pa92_0:PT (List DV):=pA [pV true [(dI .i64),(dI .i64),(dI .i64)],vI,vI]
def Fn92_0 (v:Tf92_0)(α:Type)(k:RT α):I5 (Op α):=fun a b c d e=>v α a b c d e (fun g=>ur92_0_0 k g)
def cm92_0g:MCode:=(.seq (.region r92_2 [] (tO [1,2,3])) (.seq (.region r92_4 [(4,6),(4,8)] (tO [6])) .ret))
def cm92_0:MCode:=cm92_0g
theorem gm92_0:cm92_0.Good Pg E92_0 sh92:=⟨trivial,trivial,trivial⟩
theorem fm92_0g (a:Tf126_0)(α:Type)(k:RT α):Fn92_0 (f92_0g a) α k=pa92_0.unc fun ds=>fnM Pg (E92_0g a) sh92 (cm92_0g ) rs92 k ds:=by kernel_rfl
theorem fm92_0:∀ (α:Type) (k:RT α),Fn92_0 f92_0 α k=pa92_0.unc fun ds=>fnM Pg E92_0 sh92 cm92_0 rs92 k ds:=fm92_0g f126_0
theorem is92:FnIs Pg 92 nt92 tr92 tl92 cm92_0.erase rs92:=⟨Tryz.f92,Tryz.func92,rfl,by kernel_rfl,by kernel_rfl,by kernel_rfl⟩
theorem io92_0:InstOk Pg 92 nt92 ⟨pa92_0,Fn92_0 f92_0⟩:=inst_ok eo92_0 followsTry is92 ⟨⟨sh92,cm92_0,by kernel_rfl,gm92_0,fm92_0⟩⟩
abbrev nt74:Nat:=13
def sh74:SG:=[(4,iT),(7,iT),(10,iT)]
def r74_2:LA:=[oO 1 (.box (.tmp 0)),mK 2 0]
def r74_4:LA:=[fA 3 0 1,lD 4 3,oO 5 (.bin .mul 3 (kI 2) (.tmp 4)),fA 6 1 1,lD 7 6,bT 8 .add 5 7,fA 9 1 1,lD 10 9,oO 11 (.bin .mul 3 (kI 2) (.tmp 10)),oO 12 (.call 76 [(.tmp 8),(.tmp 11)]),oM 2 12]
def tr74:TG:=[tT 0 [1],tT 1 [2]]
def tl74:TG:=[]
def rs74:List AResV:=[.tmp 2]
def pr74_0_0:PT (List RV):=pRs [wI]
def ur74_0_0 {β:Type}(g:List RV->β):Int->β:=pr74_0_0.unc g
def E74_0g (a:Tf76_0):EnvK:=EnvK.of [⟨76,nt76,[⟨pa76_0,Fn76_0 a⟩]⟩] noSeq
def E74_0:EnvK:=E74_0g f76_0
theorem eo74_0:E74_0.Ok Pg:=EnvK.of_ok noSeq_ok ⟨⟨io76_0,trivial⟩,trivial⟩
abbrev Tf74_0:Type 1:=(α:Type)->Int->Int->(Int->Op α)->Op α
def f74_0g (b:Tf76_0)(α:Type)(c a:Int)(k1:Int->Op α):Op α:=
 b α (w64 ((w64 (2*c))+a)) (w64 (2*a))
 (fun d=>k1 d)
def f74_0 (α:Type)(a b:Int)(k1:Int->Op α):Op α:=f74_0g f76_0 α a b k1
def pa74_0:PT (List DV):=pA [pV true [(dI .i64),(dI .i64)]]
def Fn74_0 (v:Tf74_0)(α:Type)(k:RT α):Int->Int->Op α:=fun a b=>v α a b (fun c=>ur74_0_0 k c)
def cm74_0g:MCode:=(.seq (.region r74_2 [] (tO [1])) (.seq (.region r74_4 [] (tO [2])) .ret))
def cm74_0:MCode:=cm74_0g
theorem gm74_0:cm74_0.Good Pg E74_0 sh74:=⟨trivial,trivial,trivial⟩
theorem fm74_0g (a:Tf76_0)(α:Type)(k:RT α):Fn74_0 (f74_0g a) α k=pa74_0.unc fun ds=>fnM Pg (E74_0g a) sh74 (cm74_0g ) rs74 k ds:=by kernel_rfl
theorem fm74_0:∀ (α:Type) (k:RT α),Fn74_0 f74_0 α k=pa74_0.unc fun ds=>fnM Pg E74_0 sh74 cm74_0 rs74 k ds:=fm74_0g f76_0
theorem is74:FnIs Pg 74 nt74 tr74 tl74 cm74_0.erase rs74:=⟨Tryz.f74,Tryz.func74,rfl,by kernel_rfl,by kernel_rfl,by kernel_rfl⟩
theorem io74_0:InstOk Pg 74 nt74 ⟨pa74_0,Fn74_0 f74_0⟩:=inst_ok eo74_0 followsTry is74 ⟨⟨sh74,cm74_0,by kernel_rfl,gm74_0,fm74_0⟩⟩
abbrev nt161:Nat:=14
def sh161:SG:=[]
def r161_2:LA:=[mK 2 0]
def r161_4:LA:=[oM 4 0,oO 5 (.call 171 [.tmp 4]),oM 3 5]
def r161_7:LA:=[oM 6 3,oM 7 3,bT 8 .mul 6 7,oM 9 0,bT 10 .lss 8 9]
def r161_9:LA:=[oM 11 3,bK 12 .add 11 1,oM 3 12]
def r161_11:LA:=[oM 13 3,oM 2 13]
def tr161:TG:=[tT 0 [0],tT 1 [0,3],tT 2 [3,10],tT 3 [3],tT 4 [2]]
def tl161:TG:=[]
def rs161:List AResV:=[.tmp 2]
def pr161_0_0:PT (List RV):=pRs [wI]
def ur161_0_0 {β:Type}(g:List RV->β):Int->β:=pr161_0_0.unc g
def E161_0g (a:Tf171_0):EnvK:=EnvK.of [⟨171,nt171,[⟨pa171_0,Fn171_0 a⟩]⟩] noSeq
def E161_0:EnvK:=E161_0g f171_0
theorem eo161_0:E161_0.Ok Pg:=EnvK.of_ok noSeq_ok ⟨⟨io171_0,trivial⟩,trivial⟩
abbrev Tf161_0:Type 1:=(α:Type)->Int->(Int->Op α)->Op α
def f161_0g (c:Tf171_0)(α:Type)(b:Int)(k1:Int->Op α):Op α:=
 c α b
 (fun a=>cK (decide ((w64 (a*a)) < b))
 (k1 (w64 (a+1)))
 (k1 a))
def f161_0 (α:Type)(a:Int)(k1:Int->Op α):Op α:=f161_0g f171_0 α a k1
def pa161_0:PT (List DV):=pA [vI]
def Fn161_0 (v:Tf161_0)(α:Type)(k:RT α):Int->Op α:=fun a=>v α a (fun b=>ur161_0_0 k b)
def cm161_0g:MCode:=(.seq (.region r161_2 [] (tO [0])) (.seq (.region r161_4 [] (tO [0,3])) (.seq (.seq (.region r161_7 [] (tO [3,10])) (.cond (.tmp 10) (.region r161_9 [] (tO [3])) .skip)) (.seq (.region r161_11 [] (tO [2])) .ret))))
def cm161_0:MCode:=cm161_0g
theorem gm161_0:cm161_0.Good Pg E161_0 sh161:=⟨trivial,trivial,⟨trivial,trivial,trivial⟩,trivial,trivial⟩
theorem fm161_0g (a:Tf171_0)(α:Type)(k:RT α):Fn161_0 (f161_0g a) α k=pa161_0.unc fun ds=>fnM Pg (E161_0g a) sh161 (cm161_0g ) rs161 k ds:=by kernel_rfl
theorem fm161_0:∀ (α:Type) (k:RT α),Fn161_0 f161_0 α k=pa161_0.unc fun ds=>fnM Pg E161_0 sh161 cm161_0 rs161 k ds:=fm161_0g f171_0
theorem is161:FnIs Pg 161 nt161 tr161 tl161 cm161_0.erase rs161:=⟨Tryz.f161,Tryz.func161,rfl,by kernel_rfl,by kernel_rfl,by kernel_rfl⟩
theorem io161_0:InstOk Pg 161 nt161 ⟨pa161_0,Fn161_0 f161_0⟩:=inst_ok eo161_0 followsTry is161 ⟨⟨sh161,cm161_0,by kernel_rfl,gm161_0,fm161_0⟩⟩
abbrev nt107:Nat:=5
def sh107:SG:=[]
def r107_2:LA:=[oO 2 (.mv (.const (.bool false)))]
def r107_4:LA:=[oM 3 0,oO 4 (.call 57 [(.tmp 3),(kI (-67108864)),(kI 67108864)]),oM 2 4]
def tr107:TG:=[tT 0 [0],tT 1 [2]]
def tl107:TG:=[]
def rs107:List AResV:=[.tmp 2]
def pr107_0_0:PT (List RV):=pRs [pR false [rD dB]]
def ur107_0_0 {β:Type}(g:List RV->β):Bool->β:=pr107_0_0.unc g
def E107_0g (a:Tf57_0):EnvK:=EnvK.of [⟨57,nt57,[⟨pa57_0,Fn57_0 a⟩]⟩] noSeq
def E107_0:EnvK:=E107_0g f57_0
theorem eo107_0:E107_0.Ok Pg:=EnvK.of_ok noSeq_ok ⟨⟨io57_0,trivial⟩,trivial⟩
abbrev Tf107_0:Type 1:=(α:Type)->Int->(Bool->Op α)->Op α
def f107_0g (a:Tf57_0)(α:Type)(b:Int)(k1:Bool->Op α):Op α:=
 a α b (-67108864) 67108864
 (fun c=>k1 c)
def f107_0 (α:Type)(a:Int)(k1:Bool->Op α):Op α:=f107_0g f57_0 α a k1
def pa107_0:PT (List DV):=pA [vI]
def Fn107_0 (v:Tf107_0)(α:Type)(k:RT α):Int->Op α:=fun a=>v α a (fun b=>ur107_0_0 k b)
def cm107_0g:MCode:=(.seq (.region r107_2 [] (tO [0])) (.seq (.region r107_4 [] (tO [2])) .ret))
def cm107_0:MCode:=cm107_0g
theorem gm107_0:cm107_0.Good Pg E107_0 sh107:=⟨trivial,trivial,trivial⟩
theorem fm107_0g (a:Tf57_0)(α:Type)(k:RT α):Fn107_0 (f107_0g a) α k=pa107_0.unc fun ds=>fnM Pg (E107_0g a) sh107 (cm107_0g ) rs107 k ds:=by kernel_rfl
theorem fm107_0:∀ (α:Type) (k:RT α),Fn107_0 f107_0 α k=pa107_0.unc fun ds=>fnM Pg E107_0 sh107 cm107_0 rs107 k ds:=fm107_0g f57_0
theorem is107:FnIs Pg 107 nt107 tr107 tl107 cm107_0.erase rs107:=⟨Tryz.f107,Tryz.func107,rfl,by kernel_rfl,by kernel_rfl,by kernel_rfl⟩
theorem io107_0:InstOk Pg 107 nt107 ⟨pa107_0,Fn107_0 f107_0⟩:=inst_ok eo107_0 followsTry is107 ⟨⟨sh107,cm107_0,by kernel_rfl,gm107_0,fm107_0⟩⟩
abbrev nt147:Nat:=26
def sh147:SG:=[]
def r147_2:LA:=[mK 4 0,oO 5 (.mv (.const (.bool false)))]
def r147_4:LA:=[oM 8 0,oM 9 1,oO 10 (.call 76 [(.tmp 8),(.tmp 9)]),oM 6 10]
def r147_6:LA:=[oM 11 0,oM 12 6,oM 13 1,bT 14 .mul 12 13,bT 15 .sub 11 14,oM 7 15]
def r147_9:LA:=[oM 16 7,oM 17 1,oM 18 7,bT 19 .sub 17 18,bT 20 .geq 16 19]
def r147_12:LA:=[oM 21 6,bK 22 .add 21 1,oM 4 22,oO 5 (.mv (.const (.bool true)))]
def r147_14:LA:=[oM 23 6,oM 24 7,bK 25 .neq 24 0,oM 4 23,oM 5 25]
def tr147:TG:=[tT 0 [0,1],tT 1 [0,1,6],tT 2 [1,6,7],tT 3 [6,7,20],tT 4 [4,5],tT 5 [4,5]]
def tl147:TG:=[]
def rs147:List AResV:=[.tmp 4,.tmp 5]
def pr147_0_0:PT (List RV):=pRs [wI,pR false [rD dB]]
def ur147_0_0 {β:Type}(g:List RV->β):Int->Bool->β:=pr147_0_0.unc g
def E147_0g (a:Tf76_0):EnvK:=EnvK.of [⟨76,nt76,[⟨pa76_0,Fn76_0 a⟩]⟩] noSeq
def E147_0:EnvK:=E147_0g f76_0
theorem eo147_0:E147_0.Ok Pg:=EnvK.of_ok noSeq_ok ⟨⟨io76_0,trivial⟩,trivial⟩
abbrev Tf147_0:Type 1:=(α:Type)->Int->Int->(Int->Bool->Op α)->Op α
def f147_0g (d:Tf76_0)(α:Type)(c a:Int)(k1:Int->Bool->Op α):Op α:=
 d α c a
 (fun b=>cK (decide ((w64 (a - (w64 (c - (w64 (b*a))))))<=(w64 (c - (w64 (b*a))))))
 (k1 (w64 (b+1)) true)
 (k1 b ((w64 (c - (w64 (b*a)))) != 0)))
def f147_0 (α:Type)(a b:Int)(k1:Int->Bool->Op α):Op α:=f147_0g f76_0 α a b k1
def pa147_0:PT (List DV):=pA [vI,vI]
def Fn147_0 (v:Tf147_0)(α:Type)(k:RT α):Int->Int->Op α:=fun a b=>v α a b (fun c d=>ur147_0_0 k c d)
def cm147_0g:MCode:=(.seq (.region r147_2 [] (tO [0,1])) (.seq (.region r147_4 [] (tO [0,1,6])) (.seq (.region r147_6 [] (tO [1,6,7])) (.seq (.seq (.region r147_9 [] (tO [6,7,20])) (.cond (.tmp 20) (.seq (.region r147_12 [] (tO [4,5])) .ret) .skip)) (.seq (.region r147_14 [] (tO [4,5])) .ret)))))
def cm147_0:MCode:=cm147_0g
theorem gm147_0:cm147_0.Good Pg E147_0 sh147:=⟨trivial,trivial,trivial,⟨trivial,⟨trivial,trivial⟩,trivial⟩,trivial,trivial⟩
theorem fm147_0g (a:Tf76_0)(α:Type)(k:RT α):Fn147_0 (f147_0g a) α k=pa147_0.unc fun ds=>fnM Pg (E147_0g a) sh147 (cm147_0g ) rs147 k ds:=by kernel_rfl
theorem fm147_0:∀ (α:Type) (k:RT α),Fn147_0 f147_0 α k=pa147_0.unc fun ds=>fnM Pg E147_0 sh147 cm147_0 rs147 k ds:=fm147_0g f76_0
theorem is147:FnIs Pg 147 nt147 tr147 tl147 cm147_0.erase rs147:=⟨Tryz.f147,Tryz.func147,rfl,by kernel_rfl,by kernel_rfl,by kernel_rfl⟩
theorem io147_0:InstOk Pg 147 nt147 ⟨pa147_0,Fn147_0 f147_0⟩:=inst_ok eo147_0 followsTry is147 ⟨⟨sh147,cm147_0,by kernel_rfl,gm147_0,fm147_0⟩⟩
abbrev nt167:Nat:=105
def sh167:SG:=[(24,iT),(27,iT),(36,iT),(39,iT),(47,iT),(49,iT),(58,iS 2),(67,iT),(69,iT),(72,iT),(74,iT),(96,iS 2),(101,iS 2),(103,iS 2),(104,iS 2)]
def r167_2:LA:=[oO 2 (.alloc [(cI 0),(cI 0)])]
def r167_4:LA:=[oM 16 0,oO 17 (.call 91 [(.tmp 16),(kI 4194304)]),oM 0 17]
def r167_7:LA:=[oM 18 0,bK 19 .geq 18 2097152]
def r167_10:LA:=[oM 20 0,bK 21 .sub 20 2097152,oO 22 (.call 167 [.tmp 21]),oO 3 (.alloc [(cI 0),(cI 0)]),sD 2 3 22]
def r167_12:LA:=[oO 23 (.iaddr 1 (some 2) (.tmp 3) (kI 0)),lD 24 23,oO 25 (.pure (oB (.unOp .neg 3 (.tmp 24)) 3)),oO 26 (.iaddr 1 (some 2) (.tmp 3) (kI 1)),lD 27 26,oO 28 (.pure (oB (.unOp .neg 3 (.tmp 27)) 3)),oO 29 (.build [(cI 0),(cI 0)] [(0,1,(.tmp 25)),(1,1,(.tmp 28))]),sD 2 2 29]
def r167_15:LA:=[oM 30 0,bK 31 .geq 30 1048576]
def r167_18:LA:=[oM 32 0,bK 33 .sub 32 1048576,oO 34 (.call 167 [.tmp 33]),oO 4 (.alloc [(cI 0),(cI 0)]),sD 2 4 34]
def r167_20:LA:=[oO 35 (.iaddr 1 (some 2) (.tmp 4) (kI 1)),lD 36 35,oO 37 (.pure (oB (.unOp .neg 3 (.tmp 36)) 3)),oO 38 (.iaddr 1 (some 2) (.tmp 4) (kI 0)),lD 39 38,oO 40 (.build [(cI 0),(cI 0)] [(0,1,(.tmp 37)),(1,1,(.tmp 39))]),sD 2 2 40]
def r167_23:LA:=[oM 41 0,bK 42 .gtr 41 524288]
def r167_26:LA:=[oM 43 0,oO 44 (.bin .sub 3 (kI 1048576) (.tmp 43)),oO 45 (.call 167 [.tmp 44]),oO 5 (.alloc [(cI 0),(cI 0)]),sD 2 5 45]
def r167_28:LA:=[oO 46 (.iaddr 1 (some 2) (.tmp 5) (kI 1)),lD 47 46,oO 48 (.iaddr 1 (some 2) (.tmp 5) (kI 0)),lD 49 48,oO 50 (.build [(cI 0),(cI 0)] [(0,1,(.tmp 47)),(1,1,(.tmp 49))]),sD 2 2 50]
def r167_30:LA:=[oO 51 (.call 171 [(kI 2251799813685248)]),oM 6 51]
def r167_32:LA:=[mK 7 0,mK 8 524288]
def r167_34:LA:=[oO 52 (.build [(cI 0),(cI 0)] [(0,1,(kI 67108864)),(1,1,(kI 0))]),oM 53 6,oM 54 6,oO 55 (.build [(cI 0),(cI 0)] [(0,1,(.tmp 53)),(1,1,(.tmp 54))]),oO 9 (.alloc [(cI 0),(cI 0)]),oO 10 (.alloc [(cI 0),(cI 0)]),sD 2 9 52,sD 2 10 55]
def r167_37:LA:=[oM 56 0,bK 57 .eql 56 0]
def r167_40:LA:=[lA 58 2 9,sD 2 2 58]
def td167_43:OT:=(tO [0,2,7,8,9,10])
def r167_46:LA:=[oM 59 0,oM 60 8,bT 61 .neq 59 60]
def r167_50:LA:=[oM 62 7,oM 63 8,bT 64 .add 62 63,bK 65 .quo 64 2,oM 11 65]
def r167_52:LA:=[oO 66 (.iaddr 1 (some 2) (.tmp 9) (kI 0)),lD 67 66,oO 68 (.iaddr 1 (some 2) (.tmp 10) (kI 0)),lD 69 68,bT 70 .add 67 69,oO 71 (.iaddr 1 (some 2) (.tmp 9) (kI 1)),lD 72 71,oO 73 (.iaddr 1 (some 2) (.tmp 10) (kI 1)),lD 74 73,bT 75 .add 72 74,oM 12 70,oM 13 75]
def r167_54:LA:=[oM 76 12,oM 77 12,bT 78 .mul 76 77,oM 79 13,oM 80 13,bT 81 .mul 79 80,bT 82 .add 78 81,oO 83 (.call 171 [.tmp 82]),oM 14 83]
def r167_56:LA:=[oM 84 12,bK 85 .mul 84 67108864,oM 86 14,bT 87 .quo 85 86,oM 88 13,bK 89 .mul 88 67108864,oM 90 14,bT 91 .quo 89 90,oO 92 (.build [(cI 0),(cI 0)] [(0,1,(.tmp 87)),(1,1,(.tmp 91))]),oO 15 (.alloc [(cI 0),(cI 0)]),sD 2 15 92]
def r167_59:LA:=[oM 93 11,oM 94 0,bT 95 .eql 93 94]
def r167_62:LA:=[lA 96 2 15,sD 2 2 96]
def r167_64:LA:=[oM 97 0,oM 98 11,bT 99 .gtr 97 98]
def r167_66:LA:=[oM 100 11,lA 101 2 15,oM 7 100,sD 2 9 101]
def r167_67:LA:=[oM 102 11,lA 103 2 15,oM 8 102,sD 2 10 103]
def r167_69:LA:=[lA 104 2 10,sD 2 2 104]
def tr167:TG:=[tT 0 [0,2],tT 1 [0,2],tT 2 [0,2,19],tT 3 [2,3],tT 4 [2],tT 5 [0,2,31],tT 6 [2,4],tT 7 [2],tT 8 [0,2,42],tT 9 [2,5],tT 10 [2],tT 11 [0,2,6],tT 12 [0,2,6,7,8],tT 13 [0,2,7,8,9,10],tT 14 [0,2,7,8,9,10,57],tT 15 [2],tT 16 [0,2,7,8,9,10,61],tT 17 [0,2,7,8,9,10,11],tT 18 [0,2,7,8,9,10,11,12,13],tT 19 [0,2,7,8,9,10,11,12,13,14],tT 20 [0,2,7,8,9,10,11,15],tT 21 [0,2,7,8,9,10,11,15,95],tT 22 [2],tT 23 [0,2,7,8,9,10,11,15,99],tT 24 [0,2,7,8,9,10],tT 25 [0,2,7,8,9,10],tT 26 [2]]
def tl167:TG:=[tT 16 [0,2,7,8,9,10]]
def rs167:List AResV:=[.cell 2 true 2]
def p167_3_0:PT St:=pS [sI 0,sP 2,sI 7,sI 8,sP 9,sP 10] [eBox 2 [xI,xI],eBox 9 [xI,xI],eBox 10 [xI,xI]]
def u167_3_0 {β:Type}(g:St->β):I9 β:=p167_3_0.unc g
def p167_3_1:PT St:=pS [sP 2] [eBox 2 [xI,xI]]
def u167_3_1 {β:Type}(g:St->β):Int->Int->β:=p167_3_1.unc g
def p167_3_2:PT St:=pS [sI 0,sP 2,sI 7,sI 8,sP 9,sP 10,sl 61 (aV false [(cD dB)])] [eBox 2 [xI,xI],eBox 9 [xI,xI],eBox 10 [xI,xI]]
def u167_3_2 {β:Type}(g:St->β):Int->Int->Int->Bool->I6 β:=p167_3_2.unc g
def pr167_3_0:PT (List RV):=pRs [pR true [rD (dI .i64),rD (dI .i64)]]
def ur167_3_0 {β:Type}(g:List RV->β):Int->Int->β:=pr167_3_0.unc g
def E167_3g (a:Tf91_0)(b:Tf171_0):EnvK:=EnvK.of [⟨91,nt91,[⟨pa91_0,Fn91_0 a⟩]⟩,⟨171,nt171,[⟨pa171_0,Fn171_0 b⟩]⟩] noSeq
def E167_3:EnvK:=E167_3g f91_0 f171_0
theorem eo167_3:E167_3.Ok Pg:=EnvK.of_ok noSeq_ok ⟨⟨io91_0,trivial⟩,⟨io171_0,trivial⟩,trivial⟩
def c167_3_43g:MCode:=(.seq (.seq (.region r167_46 [] (tO [0,2,7,8,9,10,61])) (.cond (.tmp 61) .skip (.exit 0))) (.block 1 (.seq (.region r167_50 [] (tO [0,2,7,8,9,10,11])) (.seq (.region r167_52 [] (tO [0,2,7,8,9,10,11,12,13])) (.seq (.region r167_54 [] (tO [0,2,7,8,9,10,11,12,13,14])) (.seq (.region r167_56 [] (tO [0,2,7,8,9,10,11,15])) (.seq (.seq (.region r167_59 [] (tO [0,2,7,8,9,10,11,15,95])) (.cond (.tmp 95) (.seq (.region r167_62 [] (tO [2])) .ret) .skip)) (.seq (.region r167_64 [] (tO [0,2,7,8,9,10,11,15,99])) (.cond (.tmp 99) (.region r167_66 [] (tO [0,2,7,8,9,10])) (.region r167_67 [] (tO [0,2,7,8,9,10])))))))))))
def c167_3_43:MCode:=c167_3_43g
theorem g167_3_43:c167_3_43.Good Pg E167_3 sh167:=⟨⟨trivial,trivial,trivial⟩,trivial,trivial,trivial,trivial,⟨trivial,⟨trivial,trivial⟩,trivial⟩,trivial,trivial,trivial⟩
def S167_3_0g (j:Tf171_0)(α:Type)(i h a c d e g:Int)(kn:I6 (Op α))(k1:Int->Int->Op α)(k2:Int->Int->Bool->I4 (Op α)):Op α:=
 cK (i != a)
 (j α (w64 ((w64 ((w64 (c+e))*(w64 (c+e))))+(w64 ((w64 (d+g))*(w64 (d+g))))))
 (fun b=>gK (b != 0) (gK (b != 0) (cK ((w64 (Int.tdiv (w64 (h+a)) 2)) == i)
 (k1 (w64 (Int.tdiv (w64 ((w64 (c+e))*67108864)) b)) (w64 (Int.tdiv (w64 ((w64 (d+g))*67108864)) b)))
 (cK (decide ((w64 (Int.tdiv (w64 (h+a)) 2)) < i))
 (kn (w64 (Int.tdiv (w64 (h+a)) 2)) a (w64 (Int.tdiv (w64 ((w64 (c+e))*67108864)) b)) (w64 (Int.tdiv (w64 ((w64 (d+g))*67108864)) b)) e g)
 (kn h (w64 (Int.tdiv (w64 (h+a)) 2)) c d (w64 (Int.tdiv (w64 ((w64 (c+e))*67108864)) b)) (w64 (Int.tdiv (w64 ((w64 (d+g))*67108864)) b))))))))
 (k2 h a (i != a) c d e g)
def S167_3_0 (α:Type)(a b c d e g h:Int)(kn:I6 (Op α))(k1:Int->Int->Op α)(k2:Int->Int->Bool->I4 (Op α)):Op α:=S167_3_0g f171_0 α a b c d e g h kn k1 k2
def R167_3_0 (α:Type)(a:Int)(k1:Int->Int->Op α)(k2:Int->Int->Bool->I4 (Op α)):Nat->I6 (Op α)
 | 0,_,_,_,_,_,_=>none
 | n+1,b,c,d,e,g,h=>S167_3_0 α a b c d e g h (R167_3_0 α a k1 k2 n) k1 k2
def L167_3_0 (α:Type)(a:Int)(k1:Int->Int->Op α)(k2:Int->Int->Bool->I4 (Op α))(b c d e g h:Int):Op α:=R167_3_0 α a k1 k2 fuel b c d e g h
abbrev TL167_3_0:Type 1:=(α:Type)->Int->(Int->Int->Op α)->(Int->Int->Bool->I4 (Op α))->I6 (Op α)
def F167_3_0 (v:TL167_3_0)(α:Type)(K:KT α):I9 (Op α):=fun c d e g h i j l m=>v α c (fun a b=>u167_3_1 (K .ret) a b) (fun a b o p q r s=>u167_3_2 (K (.exit 0)) c a b o g h p q r s) d e i j l m
theorem r167_3_0g (p:Tf91_0)(o:Tf171_0)(α:Type)(K:KT α)(Kn:SK α)(a b c i j d e g h:Int):u167_3_0 (fun σ=>runM Pg (E167_3g p o) sh167 (c167_3_43g ) (thenK (fun σ=>tidyK td167_43 σ Kn) K) σ) a b c i j d e g h=S167_3_0g o α a b c d e g h (fun b c d e g h=>u167_3_0 Kn a b c i j d e g h) (fun l m=>u167_3_1 (K .ret) l m) (fun l m q r s t w=>u167_3_2 (K (.exit 0)) a l m q i j r s t w):=by kernel_rfl
theorem r167_3_0 (α:Type)(K:KT α)(Kn:SK α)(a b c i j d e g h:Int):u167_3_0 (fun σ=>runM Pg E167_3 sh167 c167_3_43 (thenK (fun σ=>tidyK td167_43 σ Kn) K) σ) a b c i j d e g h=S167_3_0 α a b c d e g h (fun b c d e g h=>u167_3_0 Kn a b c i j d e g h) (fun l m=>u167_3_1 (K .ret) l m) (fun l m o p q r s=>u167_3_2 (K (.exit 0)) a l m o i j p q r s):=r167_3_0g f91_0 f171_0 α K Kn a b c i j d e g h
theorem t167_3_0 (α:Type)(K:KT α):∀ (n:Nat) (a b c l m d e g h:Int),R167_3_0 α a (fun i j=>u167_3_1 (K .ret) i j) (fun i j o p q r s=>u167_3_2 (K (.exit 0)) a i j o l m p q r s) n b c d e g h=u167_3_0 (loopT (runM Pg E167_3 sh167 c167_3_43) td167_43 K n) a b c l m d e g h:=by
 intro n
 induction n with
 | zero=>intros;rfl
 | succ n ih=>intro a b c l m d e g h;exact (congrArg (fun kn=>S167_3_0 α a b c d e g h kn (fun i j=>u167_3_1 (K .ret) i j) (fun i j o p q r s=>u167_3_2 (K (.exit 0)) a i j o l m p q r s)) (funext fun b=>funext fun c=>funext fun d=>funext fun e=>funext fun g=>funext fun h=>ih a b c l m d e g h)).trans (r167_3_0 α K (loopT (runM Pg E167_3 sh167 c167_3_43) td167_43 K n) a b c l m d e g h).symm
theorem m167_3_0:∀ (α:Type) (K:KT α),F167_3_0 L167_3_0 α K=p167_3_0.unc fun σ=>loopT (runM Pg E167_3 sh167 c167_3_43) td167_43 K fuel σ:=fun α K=>by funext a b c d e g h i j;exact t167_3_0 α K fuel a b c d e g h i j
abbrev Tf167_3:Type 1:=(α:Type)->Int->(Int->Int->Op α)->Op α
def f167_3g (c:TL167_3_0)(d:Tf171_0)(e:Tf91_0)(α:Type)(g:Int)(k1:Int->Int->Op α):Op α:=
 e α g 4194304
 (fun a=>cK (decide (2097152<=a))
 (none)
 (cK (decide (1048576<=a))
 (none)
 (cK (decide (524288 < a))
 (none)
 (d α 2251799813685248
 (fun b=>cK (a == 0)
 (k1 67108864 0)
 (c α a
 (fun h i=>k1 h i)
 (fun m o p q r j l=>k1 j l) 0 524288 67108864 0 b b))))))
def f167_3 (α:Type)(a:Int)(k1:Int->Int->Op α):Op α:=f167_3g L167_3_0 f171_0 f91_0 α a k1
def pa167_3:PT (List DV):=pA [vI]
def Fn167_3 (v:Tf167_3)(α:Type)(k:RT α):Int->Op α:=fun a=>v α a (fun b c=>ur167_3_0 k b c)
def cm167_3g (a:TL167_3_0):MCode:=(.seq (.region r167_2 [] (tO [0,2])) (.seq (.region r167_4 [] (tO [0,2])) (.seq (.seq (.region r167_7 [] (tO [0,2,19])) (.cond (.tmp 19) (.seq (.region r167_10 [] (tO [2,3])) (.seq (.region r167_12 [] (tO [2])) .ret)) .skip)) (.seq (.seq (.region r167_15 [] (tO [0,2,31])) (.cond (.tmp 31) (.seq (.region r167_18 [] (tO [2,4])) (.seq (.region r167_20 [] (tO [2])) .ret)) .skip)) (.seq (.seq (.region r167_23 [] (tO [0,2,42])) (.cond (.tmp 42) (.seq (.region r167_26 [] (tO [2,5])) (.seq (.region r167_28 [] (tO [2])) .ret)) .skip)) (.seq (.region r167_30 [] (tO [0,2,6])) (.seq (.region r167_32 [] (tO [0,2,6,7,8])) (.seq (.region r167_34 [] (tO [0,2,7,8,9,10])) (.seq (.seq (.region r167_37 [] (tO [0,2,7,8,9,10,57])) (.cond (.tmp 57) (.seq (.region r167_40 [] (tO [2])) .ret) .skip)) (.seq (.block 0 (.loop td167_43 [⟨p167_3_0,F167_3_0 a⟩] c167_3_43)) (.seq (.region r167_69 [] (tO [2])) .ret)))))))))))
def cm167_3:MCode:=cm167_3g L167_3_0
theorem gm167_3:cm167_3.Good Pg E167_3 sh167:=⟨trivial,trivial,⟨trivial,⟨trivial,trivial,trivial⟩,trivial⟩,⟨trivial,⟨trivial,trivial,trivial⟩,trivial⟩,⟨trivial,⟨trivial,trivial,trivial⟩,trivial⟩,trivial,trivial,trivial,⟨trivial,⟨trivial,trivial⟩,trivial⟩,⟨g167_3_43,m167_3_0,trivial⟩,trivial,trivial⟩
theorem fm167_3g (a:Tf91_0)(b:Tf171_0)(c:TL167_3_0)(α:Type)(k:RT α):Fn167_3 (f167_3g c b a) α k=pa167_3.unc fun ds=>fnM Pg (E167_3g a b) sh167 (cm167_3g c) rs167 k ds:=by kernel_rfl
theorem fm167_3:∀ (α:Type) (k:RT α),Fn167_3 f167_3 α k=pa167_3.unc fun ds=>fnM Pg E167_3 sh167 cm167_3 rs167 k ds:=fm167_3g f91_0 f171_0 L167_3_0
theorem is167:FnIs Pg 167 nt167 tr167 tl167 cm167_3.erase rs167:=⟨Tryz.f167,Tryz.func167,rfl,by kernel_rfl,by kernel_rfl,by kernel_rfl⟩
theorem io167_3:InstOk Pg 167 nt167 ⟨pa167_3,Fn167_3 f167_3⟩:=inst_ok eo167_3 followsTry is167 ⟨⟨sh167,cm167_3,by kernel_rfl,gm167_3,fm167_3⟩⟩
def p167_2_0:PT St:=pS [sI 0,sP 2,sI 7,sI 8,sP 9,sP 10] [eBox 2 [xI,xI],eBox 9 [xI,xI],eBox 10 [xI,xI]]
def u167_2_0 {β:Type}(g:St->β):I9 β:=p167_2_0.unc g
def p167_2_1:PT St:=pS [sP 2] [eBox 2 [xI,xI]]
def u167_2_1 {β:Type}(g:St->β):Int->Int->β:=p167_2_1.unc g
def p167_2_2:PT St:=pS [sI 0,sP 2,sI 7,sI 8,sP 9,sP 10,sl 61 (aV false [(cD dB)])] [eBox 2 [xI,xI],eBox 9 [xI,xI],eBox 10 [xI,xI]]
def u167_2_2 {β:Type}(g:St->β):Int->Int->Int->Bool->I6 β:=p167_2_2.unc g
def pr167_2_0:PT (List RV):=pRs [pR true [rD (dI .i64),rD (dI .i64)]]
def ur167_2_0 {β:Type}(g:List RV->β):Int->Int->β:=pr167_2_0.unc g
def E167_2g (a:Tf91_0)(b:Tf167_3)(c:Tf171_0):EnvK:=EnvK.of [⟨91,nt91,[⟨pa91_0,Fn91_0 a⟩]⟩,⟨167,nt167,[⟨pa167_3,Fn167_3 b⟩]⟩,⟨171,nt171,[⟨pa171_0,Fn171_0 c⟩]⟩] noSeq
def E167_2:EnvK:=E167_2g f91_0 f167_3 f171_0
theorem eo167_2:E167_2.Ok Pg:=EnvK.of_ok noSeq_ok ⟨⟨io91_0,trivial⟩,⟨io167_3,trivial⟩,⟨io171_0,trivial⟩,trivial⟩
def c167_2_43g:MCode:=(.seq (.seq (.region r167_46 [] (tO [0,2,7,8,9,10,61])) (.cond (.tmp 61) .skip (.exit 0))) (.block 1 (.seq (.region r167_50 [] (tO [0,2,7,8,9,10,11])) (.seq (.region r167_52 [] (tO [0,2,7,8,9,10,11,12,13])) (.seq (.region r167_54 [] (tO [0,2,7,8,9,10,11,12,13,14])) (.seq (.region r167_56 [] (tO [0,2,7,8,9,10,11,15])) (.seq (.seq (.region r167_59 [] (tO [0,2,7,8,9,10,11,15,95])) (.cond (.tmp 95) (.seq (.region r167_62 [] (tO [2])) .ret) .skip)) (.seq (.region r167_64 [] (tO [0,2,7,8,9,10,11,15,99])) (.cond (.tmp 99) (.region r167_66 [] (tO [0,2,7,8,9,10])) (.region r167_67 [] (tO [0,2,7,8,9,10])))))))))))
def c167_2_43:MCode:=c167_2_43g
theorem g167_2_43:c167_2_43.Good Pg E167_2 sh167:=⟨⟨trivial,trivial,trivial⟩,trivial,trivial,trivial,trivial,⟨trivial,⟨trivial,trivial⟩,trivial⟩,trivial,trivial,trivial⟩
def S167_2_0g (j:Tf171_0)(α:Type)(i h a c d e g:Int)(kn:I6 (Op α))(k1:Int->Int->Op α)(k2:Int->Int->Bool->I4 (Op α)):Op α:=
 cK (i != a)
 (j α (w64 ((w64 ((w64 (c+e))*(w64 (c+e))))+(w64 ((w64 (d+g))*(w64 (d+g))))))
 (fun b=>gK (b != 0) (gK (b != 0) (cK ((w64 (Int.tdiv (w64 (h+a)) 2)) == i)
 (k1 (w64 (Int.tdiv (w64 ((w64 (c+e))*67108864)) b)) (w64 (Int.tdiv (w64 ((w64 (d+g))*67108864)) b)))
 (cK (decide ((w64 (Int.tdiv (w64 (h+a)) 2)) < i))
 (kn (w64 (Int.tdiv (w64 (h+a)) 2)) a (w64 (Int.tdiv (w64 ((w64 (c+e))*67108864)) b)) (w64 (Int.tdiv (w64 ((w64 (d+g))*67108864)) b)) e g)
 (kn h (w64 (Int.tdiv (w64 (h+a)) 2)) c d (w64 (Int.tdiv (w64 ((w64 (c+e))*67108864)) b)) (w64 (Int.tdiv (w64 ((w64 (d+g))*67108864)) b))))))))
 (k2 h a (i != a) c d e g)
def S167_2_0 (α:Type)(a b c d e g h:Int)(kn:I6 (Op α))(k1:Int->Int->Op α)(k2:Int->Int->Bool->I4 (Op α)):Op α:=S167_2_0g f171_0 α a b c d e g h kn k1 k2
def R167_2_0 (α:Type)(a:Int)(k1:Int->Int->Op α)(k2:Int->Int->Bool->I4 (Op α)):Nat->I6 (Op α)
 | 0,_,_,_,_,_,_=>none
 | n+1,b,c,d,e,g,h=>S167_2_0 α a b c d e g h (R167_2_0 α a k1 k2 n) k1 k2
def L167_2_0 (α:Type)(a:Int)(k1:Int->Int->Op α)(k2:Int->Int->Bool->I4 (Op α))(b c d e g h:Int):Op α:=R167_2_0 α a k1 k2 fuel b c d e g h
abbrev TL167_2_0:Type 1:=(α:Type)->Int->(Int->Int->Op α)->(Int->Int->Bool->I4 (Op α))->I6 (Op α)
def F167_2_0 (v:TL167_2_0)(α:Type)(K:KT α):I9 (Op α):=fun c d e g h i j l m=>v α c (fun a b=>u167_2_1 (K .ret) a b) (fun a b o p q r s=>u167_2_2 (K (.exit 0)) c a b o g h p q r s) d e i j l m
theorem r167_2_0g (p:Tf91_0)(q:Tf167_3)(o:Tf171_0)(α:Type)(K:KT α)(Kn:SK α)(a b c i j d e g h:Int):u167_2_0 (fun σ=>runM Pg (E167_2g p q o) sh167 (c167_2_43g ) (thenK (fun σ=>tidyK td167_43 σ Kn) K) σ) a b c i j d e g h=S167_2_0g o α a b c d e g h (fun b c d e g h=>u167_2_0 Kn a b c i j d e g h) (fun l m=>u167_2_1 (K .ret) l m) (fun l m r s t w z=>u167_2_2 (K (.exit 0)) a l m r i j s t w z):=by kernel_rfl
theorem r167_2_0 (α:Type)(K:KT α)(Kn:SK α)(a b c i j d e g h:Int):u167_2_0 (fun σ=>runM Pg E167_2 sh167 c167_2_43 (thenK (fun σ=>tidyK td167_43 σ Kn) K) σ) a b c i j d e g h=S167_2_0 α a b c d e g h (fun b c d e g h=>u167_2_0 Kn a b c i j d e g h) (fun l m=>u167_2_1 (K .ret) l m) (fun l m o p q r s=>u167_2_2 (K (.exit 0)) a l m o i j p q r s):=r167_2_0g f91_0 f167_3 f171_0 α K Kn a b c i j d e g h
theorem t167_2_0 (α:Type)(K:KT α):∀ (n:Nat) (a b c l m d e g h:Int),R167_2_0 α a (fun i j=>u167_2_1 (K .ret) i j) (fun i j o p q r s=>u167_2_2 (K (.exit 0)) a i j o l m p q r s) n b c d e g h=u167_2_0 (loopT (runM Pg E167_2 sh167 c167_2_43) td167_43 K n) a b c l m d e g h:=by
 intro n
 induction n with
 | zero=>intros;rfl
 | succ n ih=>intro a b c l m d e g h;exact (congrArg (fun kn=>S167_2_0 α a b c d e g h kn (fun i j=>u167_2_1 (K .ret) i j) (fun i j o p q r s=>u167_2_2 (K (.exit 0)) a i j o l m p q r s)) (funext fun b=>funext fun c=>funext fun d=>funext fun e=>funext fun g=>funext fun h=>ih a b c l m d e g h)).trans (r167_2_0 α K (loopT (runM Pg E167_2 sh167 c167_2_43) td167_43 K n) a b c l m d e g h).symm
theorem m167_2_0:∀ (α:Type) (K:KT α),F167_2_0 L167_2_0 α K=p167_2_0.unc fun σ=>loopT (runM Pg E167_2 sh167 c167_2_43) td167_43 K fuel σ:=fun α K=>by funext a b c d e g h i j;exact t167_2_0 α K fuel a b c d e g h i j
abbrev Tf167_2:Type 1:=(α:Type)->Int->(Int->Int->Op α)->Op α
def f167_2g (d:TL167_2_0)(b:Tf167_3)(e:Tf171_0)(g:Tf91_0)(α:Type)(h:Int)(k1:Int->Int->Op α):Op α:=
 g α h 4194304
 (fun a=>cK (decide (2097152<=a))
 (b α (w64 (a - 2097152))
 (fun i j=>k1 (w64 (0 - i)) (w64 (0 - j))))
 (cK (decide (1048576<=a))
 (b α (w64 (a - 1048576))
 (fun l m=>k1 (w64 (0 - m)) l))
 (cK (decide (524288 < a))
 (b α (w64 (1048576 - a))
 (fun o p=>k1 p o))
 (e α 2251799813685248
 (fun c=>cK (a == 0)
 (k1 67108864 0)
 (d α a
 (fun q r=>k1 q r)
 (fun w z A B C s t=>k1 s t) 0 524288 67108864 0 c c))))))
def f167_2 (α:Type)(a:Int)(k1:Int->Int->Op α):Op α:=f167_2g L167_2_0 f167_3 f171_0 f91_0 α a k1
def pa167_2:PT (List DV):=pA [vI]
def Fn167_2 (v:Tf167_2)(α:Type)(k:RT α):Int->Op α:=fun a=>v α a (fun b c=>ur167_2_0 k b c)
def cm167_2g (a:TL167_2_0):MCode:=(.seq (.region r167_2 [] (tO [0,2])) (.seq (.region r167_4 [] (tO [0,2])) (.seq (.seq (.region r167_7 [] (tO [0,2,19])) (.cond (.tmp 19) (.seq (.region r167_10 [] (tO [2,3])) (.seq (.region r167_12 [] (tO [2])) .ret)) .skip)) (.seq (.seq (.region r167_15 [] (tO [0,2,31])) (.cond (.tmp 31) (.seq (.region r167_18 [] (tO [2,4])) (.seq (.region r167_20 [] (tO [2])) .ret)) .skip)) (.seq (.seq (.region r167_23 [] (tO [0,2,42])) (.cond (.tmp 42) (.seq (.region r167_26 [] (tO [2,5])) (.seq (.region r167_28 [] (tO [2])) .ret)) .skip)) (.seq (.region r167_30 [] (tO [0,2,6])) (.seq (.region r167_32 [] (tO [0,2,6,7,8])) (.seq (.region r167_34 [] (tO [0,2,7,8,9,10])) (.seq (.seq (.region r167_37 [] (tO [0,2,7,8,9,10,57])) (.cond (.tmp 57) (.seq (.region r167_40 [] (tO [2])) .ret) .skip)) (.seq (.block 0 (.loop td167_43 [⟨p167_2_0,F167_2_0 a⟩] c167_2_43)) (.seq (.region r167_69 [] (tO [2])) .ret)))))))))))
def cm167_2:MCode:=cm167_2g L167_2_0
theorem gm167_2:cm167_2.Good Pg E167_2 sh167:=⟨trivial,trivial,⟨trivial,⟨trivial,trivial,trivial⟩,trivial⟩,⟨trivial,⟨trivial,trivial,trivial⟩,trivial⟩,⟨trivial,⟨trivial,trivial,trivial⟩,trivial⟩,trivial,trivial,trivial,⟨trivial,⟨trivial,trivial⟩,trivial⟩,⟨g167_2_43,m167_2_0,trivial⟩,trivial,trivial⟩
theorem fm167_2g (a:Tf91_0)(b:Tf167_3)(c:Tf171_0)(d:TL167_2_0)(α:Type)(k:RT α):Fn167_2 (f167_2g d b c a) α k=pa167_2.unc fun ds=>fnM Pg (E167_2g a b c) sh167 (cm167_2g d) rs167 k ds:=by kernel_rfl
theorem fm167_2:∀ (α:Type) (k:RT α),Fn167_2 f167_2 α k=pa167_2.unc fun ds=>fnM Pg E167_2 sh167 cm167_2 rs167 k ds:=fm167_2g f91_0 f167_3 f171_0 L167_2_0
theorem io167_2:InstOk Pg 167 nt167 ⟨pa167_2,Fn167_2 f167_2⟩:=inst_ok eo167_2 followsTry is167 ⟨⟨sh167,cm167_2,by kernel_rfl,gm167_2,fm167_2⟩⟩
def p167_1_0:PT St:=pS [sI 0,sP 2,sI 7,sI 8,sP 9,sP 10] [eBox 2 [xI,xI],eBox 9 [xI,xI],eBox 10 [xI,xI]]
def u167_1_0 {β:Type}(g:St->β):I9 β:=p167_1_0.unc g
def p167_1_1:PT St:=pS [sP 2] [eBox 2 [xI,xI]]
def u167_1_1 {β:Type}(g:St->β):Int->Int->β:=p167_1_1.unc g
def p167_1_2:PT St:=pS [sI 0,sP 2,sI 7,sI 8,sP 9,sP 10,sl 61 (aV false [(cD dB)])] [eBox 2 [xI,xI],eBox 9 [xI,xI],eBox 10 [xI,xI]]
def u167_1_2 {β:Type}(g:St->β):Int->Int->Int->Bool->I6 β:=p167_1_2.unc g
def pr167_1_0:PT (List RV):=pRs [pR true [rD (dI .i64),rD (dI .i64)]]
def ur167_1_0 {β:Type}(g:List RV->β):Int->Int->β:=pr167_1_0.unc g
def E167_1g (a:Tf91_0)(b:Tf167_2)(c:Tf171_0):EnvK:=EnvK.of [⟨91,nt91,[⟨pa91_0,Fn91_0 a⟩]⟩,⟨167,nt167,[⟨pa167_2,Fn167_2 b⟩]⟩,⟨171,nt171,[⟨pa171_0,Fn171_0 c⟩]⟩] noSeq
def E167_1:EnvK:=E167_1g f91_0 f167_2 f171_0
theorem eo167_1:E167_1.Ok Pg:=EnvK.of_ok noSeq_ok ⟨⟨io91_0,trivial⟩,⟨io167_2,trivial⟩,⟨io171_0,trivial⟩,trivial⟩
def c167_1_43g:MCode:=(.seq (.seq (.region r167_46 [] (tO [0,2,7,8,9,10,61])) (.cond (.tmp 61) .skip (.exit 0))) (.block 1 (.seq (.region r167_50 [] (tO [0,2,7,8,9,10,11])) (.seq (.region r167_52 [] (tO [0,2,7,8,9,10,11,12,13])) (.seq (.region r167_54 [] (tO [0,2,7,8,9,10,11,12,13,14])) (.seq (.region r167_56 [] (tO [0,2,7,8,9,10,11,15])) (.seq (.seq (.region r167_59 [] (tO [0,2,7,8,9,10,11,15,95])) (.cond (.tmp 95) (.seq (.region r167_62 [] (tO [2])) .ret) .skip)) (.seq (.region r167_64 [] (tO [0,2,7,8,9,10,11,15,99])) (.cond (.tmp 99) (.region r167_66 [] (tO [0,2,7,8,9,10])) (.region r167_67 [] (tO [0,2,7,8,9,10])))))))))))
def c167_1_43:MCode:=c167_1_43g
theorem g167_1_43:c167_1_43.Good Pg E167_1 sh167:=⟨⟨trivial,trivial,trivial⟩,trivial,trivial,trivial,trivial,⟨trivial,⟨trivial,trivial⟩,trivial⟩,trivial,trivial,trivial⟩
def S167_1_0g (j:Tf171_0)(α:Type)(i h a c d e g:Int)(kn:I6 (Op α))(k1:Int->Int->Op α)(k2:Int->Int->Bool->I4 (Op α)):Op α:=
 cK (i != a)
 (j α (w64 ((w64 ((w64 (c+e))*(w64 (c+e))))+(w64 ((w64 (d+g))*(w64 (d+g))))))
 (fun b=>gK (b != 0) (gK (b != 0) (cK ((w64 (Int.tdiv (w64 (h+a)) 2)) == i)
 (k1 (w64 (Int.tdiv (w64 ((w64 (c+e))*67108864)) b)) (w64 (Int.tdiv (w64 ((w64 (d+g))*67108864)) b)))
 (cK (decide ((w64 (Int.tdiv (w64 (h+a)) 2)) < i))
 (kn (w64 (Int.tdiv (w64 (h+a)) 2)) a (w64 (Int.tdiv (w64 ((w64 (c+e))*67108864)) b)) (w64 (Int.tdiv (w64 ((w64 (d+g))*67108864)) b)) e g)
 (kn h (w64 (Int.tdiv (w64 (h+a)) 2)) c d (w64 (Int.tdiv (w64 ((w64 (c+e))*67108864)) b)) (w64 (Int.tdiv (w64 ((w64 (d+g))*67108864)) b))))))))
 (k2 h a (i != a) c d e g)
def S167_1_0 (α:Type)(a b c d e g h:Int)(kn:I6 (Op α))(k1:Int->Int->Op α)(k2:Int->Int->Bool->I4 (Op α)):Op α:=S167_1_0g f171_0 α a b c d e g h kn k1 k2
def R167_1_0 (α:Type)(a:Int)(k1:Int->Int->Op α)(k2:Int->Int->Bool->I4 (Op α)):Nat->I6 (Op α)
 | 0,_,_,_,_,_,_=>none
 | n+1,b,c,d,e,g,h=>S167_1_0 α a b c d e g h (R167_1_0 α a k1 k2 n) k1 k2
def L167_1_0 (α:Type)(a:Int)(k1:Int->Int->Op α)(k2:Int->Int->Bool->I4 (Op α))(b c d e g h:Int):Op α:=R167_1_0 α a k1 k2 fuel b c d e g h
abbrev TL167_1_0:Type 1:=(α:Type)->Int->(Int->Int->Op α)->(Int->Int->Bool->I4 (Op α))->I6 (Op α)
def F167_1_0 (v:TL167_1_0)(α:Type)(K:KT α):I9 (Op α):=fun c d e g h i j l m=>v α c (fun a b=>u167_1_1 (K .ret) a b) (fun a b o p q r s=>u167_1_2 (K (.exit 0)) c a b o g h p q r s) d e i j l m
theorem r167_1_0g (p:Tf91_0)(q:Tf167_2)(o:Tf171_0)(α:Type)(K:KT α)(Kn:SK α)(a b c i j d e g h:Int):u167_1_0 (fun σ=>runM Pg (E167_1g p q o) sh167 (c167_1_43g ) (thenK (fun σ=>tidyK td167_43 σ Kn) K) σ) a b c i j d e g h=S167_1_0g o α a b c d e g h (fun b c d e g h=>u167_1_0 Kn a b c i j d e g h) (fun l m=>u167_1_1 (K .ret) l m) (fun l m r s t w z=>u167_1_2 (K (.exit 0)) a l m r i j s t w z):=by kernel_rfl
theorem r167_1_0 (α:Type)(K:KT α)(Kn:SK α)(a b c i j d e g h:Int):u167_1_0 (fun σ=>runM Pg E167_1 sh167 c167_1_43 (thenK (fun σ=>tidyK td167_43 σ Kn) K) σ) a b c i j d e g h=S167_1_0 α a b c d e g h (fun b c d e g h=>u167_1_0 Kn a b c i j d e g h) (fun l m=>u167_1_1 (K .ret) l m) (fun l m o p q r s=>u167_1_2 (K (.exit 0)) a l m o i j p q r s):=r167_1_0g f91_0 f167_2 f171_0 α K Kn a b c i j d e g h
theorem t167_1_0 (α:Type)(K:KT α):∀ (n:Nat) (a b c l m d e g h:Int),R167_1_0 α a (fun i j=>u167_1_1 (K .ret) i j) (fun i j o p q r s=>u167_1_2 (K (.exit 0)) a i j o l m p q r s) n b c d e g h=u167_1_0 (loopT (runM Pg E167_1 sh167 c167_1_43) td167_43 K n) a b c l m d e g h:=by
 intro n
 induction n with
 | zero=>intros;rfl
 | succ n ih=>intro a b c l m d e g h;exact (congrArg (fun kn=>S167_1_0 α a b c d e g h kn (fun i j=>u167_1_1 (K .ret) i j) (fun i j o p q r s=>u167_1_2 (K (.exit 0)) a i j o l m p q r s)) (funext fun b=>funext fun c=>funext fun d=>funext fun e=>funext fun g=>funext fun h=>ih a b c l m d e g h)).trans (r167_1_0 α K (loopT (runM Pg E167_1 sh167 c167_1_43) td167_43 K n) a b c l m d e g h).symm
theorem m167_1_0:∀ (α:Type) (K:KT α),F167_1_0 L167_1_0 α K=p167_1_0.unc fun σ=>loopT (runM Pg E167_1 sh167 c167_1_43) td167_43 K fuel σ:=fun α K=>by funext a b c d e g h i j;exact t167_1_0 α K fuel a b c d e g h i j
abbrev Tf167_1:Type 1:=(α:Type)->Int->(Int->Int->Op α)->Op α
def f167_1g (d:TL167_1_0)(b:Tf167_2)(e:Tf171_0)(g:Tf91_0)(α:Type)(h:Int)(k1:Int->Int->Op α):Op α:=
 g α h 4194304
 (fun a=>cK (decide (2097152<=a))
 (b α (w64 (a - 2097152))
 (fun i j=>k1 (w64 (0 - i)) (w64 (0 - j))))
 (cK (decide (1048576<=a))
 (b α (w64 (a - 1048576))
 (fun l m=>k1 (w64 (0 - m)) l))
 (cK (decide (524288 < a))
 (b α (w64 (1048576 - a))
 (fun o p=>k1 p o))
 (e α 2251799813685248
 (fun c=>cK (a == 0)
 (k1 67108864 0)
 (d α a
 (fun q r=>k1 q r)
 (fun w z A B C s t=>k1 s t) 0 524288 67108864 0 c c))))))
def f167_1 (α:Type)(a:Int)(k1:Int->Int->Op α):Op α:=f167_1g L167_1_0 f167_2 f171_0 f91_0 α a k1
def pa167_1:PT (List DV):=pA [vI]
def Fn167_1 (v:Tf167_1)(α:Type)(k:RT α):Int->Op α:=fun a=>v α a (fun b c=>ur167_1_0 k b c)
def cm167_1g (a:TL167_1_0):MCode:=(.seq (.region r167_2 [] (tO [0,2])) (.seq (.region r167_4 [] (tO [0,2])) (.seq (.seq (.region r167_7 [] (tO [0,2,19])) (.cond (.tmp 19) (.seq (.region r167_10 [] (tO [2,3])) (.seq (.region r167_12 [] (tO [2])) .ret)) .skip)) (.seq (.seq (.region r167_15 [] (tO [0,2,31])) (.cond (.tmp 31) (.seq (.region r167_18 [] (tO [2,4])) (.seq (.region r167_20 [] (tO [2])) .ret)) .skip)) (.seq (.seq (.region r167_23 [] (tO [0,2,42])) (.cond (.tmp 42) (.seq (.region r167_26 [] (tO [2,5])) (.seq (.region r167_28 [] (tO [2])) .ret)) .skip)) (.seq (.region r167_30 [] (tO [0,2,6])) (.seq (.region r167_32 [] (tO [0,2,6,7,8])) (.seq (.region r167_34 [] (tO [0,2,7,8,9,10])) (.seq (.seq (.region r167_37 [] (tO [0,2,7,8,9,10,57])) (.cond (.tmp 57) (.seq (.region r167_40 [] (tO [2])) .ret) .skip)) (.seq (.block 0 (.loop td167_43 [⟨p167_1_0,F167_1_0 a⟩] c167_1_43)) (.seq (.region r167_69 [] (tO [2])) .ret)))))))))))
def cm167_1:MCode:=cm167_1g L167_1_0
theorem gm167_1:cm167_1.Good Pg E167_1 sh167:=⟨trivial,trivial,⟨trivial,⟨trivial,trivial,trivial⟩,trivial⟩,⟨trivial,⟨trivial,trivial,trivial⟩,trivial⟩,⟨trivial,⟨trivial,trivial,trivial⟩,trivial⟩,trivial,trivial,trivial,⟨trivial,⟨trivial,trivial⟩,trivial⟩,⟨g167_1_43,m167_1_0,trivial⟩,trivial,trivial⟩
theorem fm167_1g (a:Tf91_0)(b:Tf167_2)(c:Tf171_0)(d:TL167_1_0)(α:Type)(k:RT α):Fn167_1 (f167_1g d b c a) α k=pa167_1.unc fun ds=>fnM Pg (E167_1g a b c) sh167 (cm167_1g d) rs167 k ds:=by kernel_rfl
theorem fm167_1:∀ (α:Type) (k:RT α),Fn167_1 f167_1 α k=pa167_1.unc fun ds=>fnM Pg E167_1 sh167 cm167_1 rs167 k ds:=fm167_1g f91_0 f167_2 f171_0 L167_1_0
theorem io167_1:InstOk Pg 167 nt167 ⟨pa167_1,Fn167_1 f167_1⟩:=inst_ok eo167_1 followsTry is167 ⟨⟨sh167,cm167_1,by kernel_rfl,gm167_1,fm167_1⟩⟩
def p167_0_0:PT St:=pS [sI 0,sP 2,sI 7,sI 8,sP 9,sP 10] [eBox 2 [xI,xI],eBox 9 [xI,xI],eBox 10 [xI,xI]]
def u167_0_0 {β:Type}(g:St->β):I9 β:=p167_0_0.unc g
def p167_0_1:PT St:=pS [sP 2] [eBox 2 [xI,xI]]
def u167_0_1 {β:Type}(g:St->β):Int->Int->β:=p167_0_1.unc g
def p167_0_2:PT St:=pS [sI 0,sP 2,sI 7,sI 8,sP 9,sP 10,sl 61 (aV false [(cD dB)])] [eBox 2 [xI,xI],eBox 9 [xI,xI],eBox 10 [xI,xI]]
def u167_0_2 {β:Type}(g:St->β):Int->Int->Int->Bool->I6 β:=p167_0_2.unc g
def pr167_0_0:PT (List RV):=pRs [pR true [rD (dI .i64),rD (dI .i64)]]
def ur167_0_0 {β:Type}(g:List RV->β):Int->Int->β:=pr167_0_0.unc g
def E167_0g (a:Tf91_0)(b:Tf167_1)(c:Tf171_0):EnvK:=EnvK.of [⟨91,nt91,[⟨pa91_0,Fn91_0 a⟩]⟩,⟨167,nt167,[⟨pa167_1,Fn167_1 b⟩]⟩,⟨171,nt171,[⟨pa171_0,Fn171_0 c⟩]⟩] noSeq
def E167_0:EnvK:=E167_0g f91_0 f167_1 f171_0
theorem eo167_0:E167_0.Ok Pg:=EnvK.of_ok noSeq_ok ⟨⟨io91_0,trivial⟩,⟨io167_1,trivial⟩,⟨io171_0,trivial⟩,trivial⟩
def c167_0_43g:MCode:=(.seq (.seq (.region r167_46 [] (tO [0,2,7,8,9,10,61])) (.cond (.tmp 61) .skip (.exit 0))) (.block 1 (.seq (.region r167_50 [] (tO [0,2,7,8,9,10,11])) (.seq (.region r167_52 [] (tO [0,2,7,8,9,10,11,12,13])) (.seq (.region r167_54 [] (tO [0,2,7,8,9,10,11,12,13,14])) (.seq (.region r167_56 [] (tO [0,2,7,8,9,10,11,15])) (.seq (.seq (.region r167_59 [] (tO [0,2,7,8,9,10,11,15,95])) (.cond (.tmp 95) (.seq (.region r167_62 [] (tO [2])) .ret) .skip)) (.seq (.region r167_64 [] (tO [0,2,7,8,9,10,11,15,99])) (.cond (.tmp 99) (.region r167_66 [] (tO [0,2,7,8,9,10])) (.region r167_67 [] (tO [0,2,7,8,9,10])))))))))))
def c167_0_43:MCode:=c167_0_43g
theorem g167_0_43:c167_0_43.Good Pg E167_0 sh167:=⟨⟨trivial,trivial,trivial⟩,trivial,trivial,trivial,trivial,⟨trivial,⟨trivial,trivial⟩,trivial⟩,trivial,trivial,trivial⟩
def S167_0_0g (j:Tf171_0)(α:Type)(i h a c d e g:Int)(kn:I6 (Op α))(k1:Int->Int->Op α)(k2:Int->Int->Bool->I4 (Op α)):Op α:=
 cK (i != a)
 (j α (w64 ((w64 ((w64 (c+e))*(w64 (c+e))))+(w64 ((w64 (d+g))*(w64 (d+g))))))
 (fun b=>gK (b != 0) (gK (b != 0) (cK ((w64 (Int.tdiv (w64 (h+a)) 2)) == i)
 (k1 (w64 (Int.tdiv (w64 ((w64 (c+e))*67108864)) b)) (w64 (Int.tdiv (w64 ((w64 (d+g))*67108864)) b)))
 (cK (decide ((w64 (Int.tdiv (w64 (h+a)) 2)) < i))
 (kn (w64 (Int.tdiv (w64 (h+a)) 2)) a (w64 (Int.tdiv (w64 ((w64 (c+e))*67108864)) b)) (w64 (Int.tdiv (w64 ((w64 (d+g))*67108864)) b)) e g)
 (kn h (w64 (Int.tdiv (w64 (h+a)) 2)) c d (w64 (Int.tdiv (w64 ((w64 (c+e))*67108864)) b)) (w64 (Int.tdiv (w64 ((w64 (d+g))*67108864)) b))))))))
 (k2 h a (i != a) c d e g)
def S167_0_0 (α:Type)(a b c d e g h:Int)(kn:I6 (Op α))(k1:Int->Int->Op α)(k2:Int->Int->Bool->I4 (Op α)):Op α:=S167_0_0g f171_0 α a b c d e g h kn k1 k2
def R167_0_0 (α:Type)(a:Int)(k1:Int->Int->Op α)(k2:Int->Int->Bool->I4 (Op α)):Nat->I6 (Op α)
 | 0,_,_,_,_,_,_=>none
 | n+1,b,c,d,e,g,h=>S167_0_0 α a b c d e g h (R167_0_0 α a k1 k2 n) k1 k2
def L167_0_0 (α:Type)(a:Int)(k1:Int->Int->Op α)(k2:Int->Int->Bool->I4 (Op α))(b c d e g h:Int):Op α:=R167_0_0 α a k1 k2 fuel b c d e g h
abbrev TL167_0_0:Type 1:=(α:Type)->Int->(Int->Int->Op α)->(Int->Int->Bool->I4 (Op α))->I6 (Op α)
def F167_0_0 (v:TL167_0_0)(α:Type)(K:KT α):I9 (Op α):=fun c d e g h i j l m=>v α c (fun a b=>u167_0_1 (K .ret) a b) (fun a b o p q r s=>u167_0_2 (K (.exit 0)) c a b o g h p q r s) d e i j l m
theorem r167_0_0g (p:Tf91_0)(q:Tf167_1)(o:Tf171_0)(α:Type)(K:KT α)(Kn:SK α)(a b c i j d e g h:Int):u167_0_0 (fun σ=>runM Pg (E167_0g p q o) sh167 (c167_0_43g ) (thenK (fun σ=>tidyK td167_43 σ Kn) K) σ) a b c i j d e g h=S167_0_0g o α a b c d e g h (fun b c d e g h=>u167_0_0 Kn a b c i j d e g h) (fun l m=>u167_0_1 (K .ret) l m) (fun l m r s t w z=>u167_0_2 (K (.exit 0)) a l m r i j s t w z):=by kernel_rfl
theorem r167_0_0 (α:Type)(K:KT α)(Kn:SK α)(a b c i j d e g h:Int):u167_0_0 (fun σ=>runM Pg E167_0 sh167 c167_0_43 (thenK (fun σ=>tidyK td167_43 σ Kn) K) σ) a b c i j d e g h=S167_0_0 α a b c d e g h (fun b c d e g h=>u167_0_0 Kn a b c i j d e g h) (fun l m=>u167_0_1 (K .ret) l m) (fun l m o p q r s=>u167_0_2 (K (.exit 0)) a l m o i j p q r s):=r167_0_0g f91_0 f167_1 f171_0 α K Kn a b c i j d e g h
theorem t167_0_0 (α:Type)(K:KT α):∀ (n:Nat) (a b c l m d e g h:Int),R167_0_0 α a (fun i j=>u167_0_1 (K .ret) i j) (fun i j o p q r s=>u167_0_2 (K (.exit 0)) a i j o l m p q r s) n b c d e g h=u167_0_0 (loopT (runM Pg E167_0 sh167 c167_0_43) td167_43 K n) a b c l m d e g h:=by
 intro n
 induction n with
 | zero=>intros;rfl
 | succ n ih=>intro a b c l m d e g h;exact (congrArg (fun kn=>S167_0_0 α a b c d e g h kn (fun i j=>u167_0_1 (K .ret) i j) (fun i j o p q r s=>u167_0_2 (K (.exit 0)) a i j o l m p q r s)) (funext fun b=>funext fun c=>funext fun d=>funext fun e=>funext fun g=>funext fun h=>ih a b c l m d e g h)).trans (r167_0_0 α K (loopT (runM Pg E167_0 sh167 c167_0_43) td167_43 K n) a b c l m d e g h).symm
theorem m167_0_0:∀ (α:Type) (K:KT α),F167_0_0 L167_0_0 α K=p167_0_0.unc fun σ=>loopT (runM Pg E167_0 sh167 c167_0_43) td167_43 K fuel σ:=fun α K=>by funext a b c d e g h i j;exact t167_0_0 α K fuel a b c d e g h i j
abbrev Tf167_0:Type 1:=(α:Type)->Int->(Int->Int->Op α)->Op α
def f167_0g (d:TL167_0_0)(b:Tf167_1)(e:Tf171_0)(g:Tf91_0)(α:Type)(h:Int)(k1:Int->Int->Op α):Op α:=
 g α h 4194304
 (fun a=>cK (decide (2097152<=a))
 (b α (w64 (a - 2097152))
 (fun i j=>k1 (w64 (0 - i)) (w64 (0 - j))))
 (cK (decide (1048576<=a))
 (b α (w64 (a - 1048576))
 (fun l m=>k1 (w64 (0 - m)) l))
 (cK (decide (524288 < a))
 (b α (w64 (1048576 - a))
 (fun o p=>k1 p o))
 (e α 2251799813685248
 (fun c=>cK (a == 0)
 (k1 67108864 0)
 (d α a
 (fun q r=>k1 q r)
 (fun w z A B C s t=>k1 s t) 0 524288 67108864 0 c c))))))
def f167_0 (α:Type)(a:Int)(k1:Int->Int->Op α):Op α:=f167_0g L167_0_0 f167_1 f171_0 f91_0 α a k1
def pa167_0:PT (List DV):=pA [vI]
def Fn167_0 (v:Tf167_0)(α:Type)(k:RT α):Int->Op α:=fun a=>v α a (fun b c=>ur167_0_0 k b c)
def cm167_0g (a:TL167_0_0):MCode:=(.seq (.region r167_2 [] (tO [0,2])) (.seq (.region r167_4 [] (tO [0,2])) (.seq (.seq (.region r167_7 [] (tO [0,2,19])) (.cond (.tmp 19) (.seq (.region r167_10 [] (tO [2,3])) (.seq (.region r167_12 [] (tO [2])) .ret)) .skip)) (.seq (.seq (.region r167_15 [] (tO [0,2,31])) (.cond (.tmp 31) (.seq (.region r167_18 [] (tO [2,4])) (.seq (.region r167_20 [] (tO [2])) .ret)) .skip)) (.seq (.seq (.region r167_23 [] (tO [0,2,42])) (.cond (.tmp 42) (.seq (.region r167_26 [] (tO [2,5])) (.seq (.region r167_28 [] (tO [2])) .ret)) .skip)) (.seq (.region r167_30 [] (tO [0,2,6])) (.seq (.region r167_32 [] (tO [0,2,6,7,8])) (.seq (.region r167_34 [] (tO [0,2,7,8,9,10])) (.seq (.seq (.region r167_37 [] (tO [0,2,7,8,9,10,57])) (.cond (.tmp 57) (.seq (.region r167_40 [] (tO [2])) .ret) .skip)) (.seq (.block 0 (.loop td167_43 [⟨p167_0_0,F167_0_0 a⟩] c167_0_43)) (.seq (.region r167_69 [] (tO [2])) .ret)))))))))))
def cm167_0:MCode:=cm167_0g L167_0_0
theorem gm167_0:cm167_0.Good Pg E167_0 sh167:=⟨trivial,trivial,⟨trivial,⟨trivial,trivial,trivial⟩,trivial⟩,⟨trivial,⟨trivial,trivial,trivial⟩,trivial⟩,⟨trivial,⟨trivial,trivial,trivial⟩,trivial⟩,trivial,trivial,trivial,⟨trivial,⟨trivial,trivial⟩,trivial⟩,⟨g167_0_43,m167_0_0,trivial⟩,trivial,trivial⟩
theorem fm167_0g (a:Tf91_0)(b:Tf167_1)(c:Tf171_0)(d:TL167_0_0)(α:Type)(k:RT α):Fn167_0 (f167_0g d b c a) α k=pa167_0.unc fun ds=>fnM Pg (E167_0g a b c) sh167 (cm167_0g d) rs167 k ds:=by kernel_rfl
theorem fm167_0:∀ (α:Type) (k:RT α),Fn167_0 f167_0 α k=pa167_0.unc fun ds=>fnM Pg E167_0 sh167 cm167_0 rs167 k ds:=fm167_0g f91_0 f167_1 f171_0 L167_0_0
theorem io167_0:InstOk Pg 167 nt167 ⟨pa167_0,Fn167_0 f167_0⟩:=inst_ok eo167_0 followsTry is167 ⟨⟨sh167,cm167_0,by kernel_rfl,gm167_0,fm167_0⟩⟩
abbrev nt77:Nat:=10
def sh77:SG:=[]
def r77_2:LA:=[mK 4 0]
def r77_4:LA:=[oM 5 0,oO 6 (.pure (oB (.unOp .neg 3 (.tmp 5)) 3)),oM 7 1,oO 8 (.call 76 [(.tmp 6),(.tmp 7)]),oO 9 (.pure (oB (.unOp .neg 3 (.tmp 8)) 3)),oM 4 9]
def tr77:TG:=[tT 0 [0,1],tT 1 [4]]
def tl77:TG:=[]
def rs77:List AResV:=[.tmp 4]
def pr77_0_0:PT (List RV):=pRs [wI]
def ur77_0_0 {β:Type}(g:List RV->β):Int->β:=pr77_0_0.unc g
def E77_0g (a:Tf76_0):EnvK:=EnvK.of [⟨76,nt76,[⟨pa76_0,Fn76_0 a⟩]⟩] noSeq
def E77_0:EnvK:=E77_0g f76_0
theorem eo77_0:E77_0.Ok Pg:=EnvK.of_ok noSeq_ok ⟨⟨io76_0,trivial⟩,trivial⟩
abbrev Tf77_0:Type 1:=(α:Type)->Int->Int->(Int->Op α)->Op α
def f77_0g (a:Tf76_0)(α:Type)(b c:Int)(k1:Int->Op α):Op α:=
 a α (w64 (0 - b)) c
 (fun d=>k1 (w64 (0 - d)))
def f77_0 (α:Type)(a b:Int)(k1:Int->Op α):Op α:=f77_0g f76_0 α a b k1
def pa77_0:PT (List DV):=pA [vI,vI]
def Fn77_0 (v:Tf77_0)(α:Type)(k:RT α):Int->Int->Op α:=fun a b=>v α a b (fun c=>ur77_0_0 k c)
def cm77_0g:MCode:=(.seq (.region r77_2 [] (tO [0,1])) (.seq (.region r77_4 [] (tO [4])) .ret))
def cm77_0:MCode:=cm77_0g
theorem gm77_0:cm77_0.Good Pg E77_0 sh77:=⟨trivial,trivial,trivial⟩
theorem fm77_0g (a:Tf76_0)(α:Type)(k:RT α):Fn77_0 (f77_0g a) α k=pa77_0.unc fun ds=>fnM Pg (E77_0g a) sh77 (cm77_0g ) rs77 k ds:=by kernel_rfl
theorem fm77_0:∀ (α:Type) (k:RT α),Fn77_0 f77_0 α k=pa77_0.unc fun ds=>fnM Pg E77_0 sh77 cm77_0 rs77 k ds:=fm77_0g f76_0
theorem is77:FnIs Pg 77 nt77 tr77 tl77 cm77_0.erase rs77:=⟨Tryz.f77,Tryz.func77,rfl,by kernel_rfl,by kernel_rfl,by kernel_rfl⟩
theorem io77_0:InstOk Pg 77 nt77 ⟨pa77_0,Fn77_0 f77_0⟩:=inst_ok eo77_0 followsTry is77 ⟨⟨sh77,cm77_0,by kernel_rfl,gm77_0,fm77_0⟩⟩
abbrev nt89:Nat:=16
def sh89:SG:=[(7,[.cpx .f64]),(14,iT)]
def r89_2:LA:=[oO 1 (.box (.tmp 0)),oO 2 (.alloc (zI 3))]
def r89_4:LA:=[fA 6 0 1,lD 7 6,oO 8 (.call 124 [.tmp 7]),oM 5 8,oO 9 (.extract 0 (.tmp 5)),oO 10 (.extract 1 (.tmp 5)),oM 3 9,oM 4 10]
def r89_6:LA:=[oM 11 3,oM 12 4,fA 13 1 1,lD 14 13,oO 15 (.build (zI 3) [(0,1,(.tmp 11)),(1,1,(.tmp 12)),(2,1,(.tmp 14))]),sD 3 2 15]
def tr89:TG:=[tT 0 [1,2],tT 1 [1,2,3,4],tT 2 [2]]
def tl89:TG:=[]
def rs89:List AResV:=[.cell 2 true 3]
def pr89_0_0:PT (List RV):=pRs [pR true [rD (dI .i64),rD (dI .i64),rD (dI .i64)]]
def ur89_0_0 {β:Type}(g:List RV->β):Int->Int->Int->β:=pr89_0_0.unc g
def E89_0g (a:Tf124_0):EnvK:=EnvK.of [⟨124,nt124,[⟨pa124_0,Fn124_0 a⟩]⟩] noSeq
def E89_0:EnvK:=E89_0g f124_0
theorem eo89_0:E89_0.Ok Pg:=EnvK.of_ok noSeq_ok ⟨⟨io124_0,trivial⟩,trivial⟩
abbrev Tf89_0:Type 1:=(α:Type)->Nat->Nat->(Int->Int->Op α)->Op α
def f89_0g (a:Tf124_0)(α:Type)(b c:Nat)(k1:Int->Int->Op α):Op α:=
 a α b c
 (fun d e=>k1 d e)
def f89_0 (α:Type)(a b:Nat)(k1:Int->Int->Op α):Op α:=f89_0g f124_0 α a b k1
def pa89_0:PT (List DV):=pA [pV true [(dX .f64),(dI .i64)]]
def Fn89_0 (v:Tf89_0)(α:Type)(k:RT α):Nat->Nat->Int->Op α:=fun a b c=>v α a b (fun d e=>ur89_0_0 k d e c)
def cm89_0g:MCode:=(.seq (.region r89_2 [] (tO [1,2])) (.seq (.region r89_4 [] (tO [1,2,3,4])) (.seq (.region r89_6 [] (tO [2])) .ret)))
def cm89_0:MCode:=cm89_0g
theorem gm89_0:cm89_0.Good Pg E89_0 sh89:=⟨trivial,trivial,trivial,trivial⟩
theorem fm89_0g (a:Tf124_0)(α:Type)(k:RT α):Fn89_0 (f89_0g a) α k=pa89_0.unc fun ds=>fnM Pg (E89_0g a) sh89 (cm89_0g ) rs89 k ds:=by kernel_rfl
theorem fm89_0:∀ (α:Type) (k:RT α),Fn89_0 f89_0 α k=pa89_0.unc fun ds=>fnM Pg E89_0 sh89 cm89_0 rs89 k ds:=fm89_0g f124_0
theorem is89:FnIs Pg 89 nt89 tr89 tl89 cm89_0.erase rs89:=⟨Tryz.f89,Tryz.func89,rfl,by kernel_rfl,by kernel_rfl,by kernel_rfl⟩
theorem io89_0:InstOk Pg 89 nt89 ⟨pa89_0,Fn89_0 f89_0⟩:=inst_ok eo89_0 followsTry is89 ⟨⟨sh89,cm89_0,by kernel_rfl,gm89_0,fm89_0⟩⟩
abbrev nt88:Nat:=39
def sh88:SG:=[(6,[.cpx .f64]),(9,[.cpx .f64]),(35,iT)]
def r88_2:LA:=[oO 1 (.box (.tmp 0)),mK 2 0]
def r88_4:LA:=[fA 5 0 1,lD 6 5,oO 7 (.pure (oB (.call { callee:=.builtin .real,args:=#[(.tmp 6)],argTypes:=#[43] }) 117)),fA 8 0 1,lD 9 8,oO 10 (.pure (oB (.call { callee:=.builtin .imag,args:=#[(.tmp 9)],argTypes:=#[43] }) 117)),oM 3 7,oM 4 10]
def r88_7:LA:=[oM 11 3,oO 12 (.call 69 [.tmp 11]),oO 13 (.pure (oB (.unOp .not 4 (.tmp 12)) 4)),oM 14 13,oG 15 (.mv (.tmp 4)) 14 false,oG 16 (.call 69 [.tmp 15]) 14 false,oG 17 (.pure (oB (.unOp .not 4 (.tmp 16)) 4)) 14 false,oO 18 (.pick (.tmp 14) (.const (.bool true)) (.tmp 17))]
def r88_10:LA:=[mK 2 27]
def r88_13:LA:=[oM 19 3,oO 20 (.bin .lss 117 (.tmp 19) (.const (.float Go.FloatKind.f64 13947648045966426112))),oM 21 20,oG 22 (.mv (.tmp 3)) 21 false,oG 23 (.bin .gtr 117 (.tmp 22) (.const (.float Go.FloatKind.f64 4724276009111650304))) 21 false,oO 24 (.pick (.tmp 21) (.const (.bool true)) (.tmp 23)),oM 25 24,oG 26 (.mv (.tmp 4)) 25 false,oG 27 (.bin .lss 117 (.tmp 26) (.const (.float Go.FloatKind.f64 13947648045966426112))) 25 false,oO 28 (.pick (.tmp 25) (.const (.bool true)) (.tmp 27)),oM 29 28,oG 30 (.mv (.tmp 4)) 29 false,oG 31 (.bin .gtr 117 (.tmp 30) (.const (.float Go.FloatKind.f64 4724276009111650304))) 29 false,oO 32 (.pick (.tmp 29) (.const (.bool true)) (.tmp 31)),oM 33 32,oG 34 (.faddr 1 (.tmp 1)) 33 false,oG 35 (.load false 1 (.tmp 34)) 33 false,oG 36 (.call 57 [(.tmp 35),(kI 0),(kI 67108864)]) 33 false,oG 37 (.pure (oB (.unOp .not 4 (.tmp 36)) 4)) 33 false,oO 38 (.pick (.tmp 33) (.const (.bool true)) (.tmp 37))]
def r88_16:LA:=[mK 2 2]
def r88_18:LA:=[mK 2 0]
def tr88:TG:=[tT 0 [1],tT 1 [1,3,4],tT 2 [1,3,4,18],tT 3 [2],tT 4 [38],tT 5 [2],tT 6 [2]]
def tl88:TG:=[]
def rs88:List AResV:=[.tmp 2]
def p88_0_0:PT St:=pS [sP 1,sl 3 (aV false [(cD (dF .f64))]),sl 4 (aV false [(cD (dF .f64))]),sl 18 (aV false [(cD dB)])] [eBox 1 [(cD (dX .f64)),xI]]
def u88_0_0 {β:Type}(g:St->β):Nat->Nat->Bool->Nat->Nat->Int->β:=p88_0_0.unc g
def p88_0_1:PT St:=pS [sl 38 (aV false [(cD dB)])] []
def u88_0_1 {β:Type}(g:St->β):Bool->β:=p88_0_1.unc g
def pr88_0_0:PT (List RV):=pRs [wI]
def ur88_0_0 {β:Type}(g:List RV->β):Int->β:=pr88_0_0.unc g
def E88_0g (a:Tf69_0)(b:Tf57_0):EnvK:=EnvK.of [⟨69,nt69,[⟨pa69_0,Fn69_0 a⟩]⟩,⟨57,nt57,[⟨pa57_0,Fn57_0 b⟩]⟩] noSeq
def E88_0:EnvK:=E88_0g f69_0 f57_0
theorem eo88_0:E88_0.Ok Pg:=EnvK.of_ok noSeq_ok ⟨⟨io69_0,trivial⟩,⟨io57_0,trivial⟩,trivial⟩
def c88_0_12g:MCode:=(.region r88_13 [] (tO [38]))
def c88_0_12:MCode:=c88_0_12g
theorem g88_0_12:c88_0_12.Good Pg E88_0 sh88:=trivial
abbrev TJ88_0_0:Type 1:=(α:Type)->Nat->Nat->Int->(Bool->Op α)->Op α
def J88_0_0g (c:Tf57_0)(α:Type)(a b:Nat)(d:Int)(k1:Bool->Op α):Op α:=
 cK ((FloatKind.format .f64).order a 13947648045966426112 == some Ordering.lt)
 (k1 true)
 (cK ((FloatKind.format .f64).order a 4724276009111650304 == some Ordering.gt)
 (k1 true)
 (cK ((FloatKind.format .f64).order b 13947648045966426112 == some Ordering.lt)
 (k1 true)
 (cK ((FloatKind.format .f64).order b 4724276009111650304 == some Ordering.gt)
 (k1 true)
 (c α d 0 67108864
 (fun e=>k1 (!e))))))
def J88_0_0 (α:Type)(a b:Nat)(c:Int)(k1:Bool->Op α):Op α:=J88_0_0g f57_0 α a b c k1
def F88_0_0 (v:TJ88_0_0)(α:Type)(K:KT α):Nat->Nat->Bool->Nat->Nat->Int->Op α:=fun a b e g h c=>v α a b c (fun d=>u88_0_1 (K .normal) d)
theorem m88_0_0g (b:Tf69_0)(a:Tf57_0)(α:Type)(K:KT α):F88_0_0 (J88_0_0g a) α K=p88_0_0.unc fun σ=>runM Pg (E88_0g b a) sh88 (c88_0_12g ) K σ:=by kernel_rfl
theorem m88_0_0:∀ (α:Type) (K:KT α),F88_0_0 J88_0_0 α K=p88_0_0.unc fun σ=>runM Pg E88_0 sh88 c88_0_12 K σ:=m88_0_0g f69_0 f57_0
abbrev Tf88_0:Type 1:=(α:Type)->Nat->Nat->Int->(Int->Op α)->Op α
def f88_0g (d:TJ88_0_0)(a:Tf69_0)(α:Type)(b c:Nat)(e:Int)(k1:Int->Op α):Op α:=
 a α b
 (fun g=>cK (!g)
 (k1 27)
 (a α c
 (fun h=>cK (!h)
 (k1 27)
 (d α b c e
 (fun i=>cK i
 (k1 2)
 (k1 0))))))
def f88_0 (α:Type)(a b:Nat)(c:Int)(k1:Int->Op α):Op α:=f88_0g J88_0_0 f69_0 α a b c k1
def pa88_0:PT (List DV):=pA [pV true [(dX .f64),(dI .i64)]]
def Fn88_0 (v:Tf88_0)(α:Type)(k:RT α):Nat->Nat->Int->Op α:=fun a b c=>v α a b c (fun d=>ur88_0_0 k d)
def cm88_0g (a:TJ88_0_0):MCode:=(.seq (.region r88_2 [] (tO [1])) (.seq (.region r88_4 [] (tO [1,3,4])) (.seq (.seq (.region r88_7 [] (tO [1,3,4,18])) (.cond (.tmp 18) (.seq (.region r88_10 [] (tO [2])) .ret) .skip)) (.seq (.seq (.mark [⟨p88_0_0,F88_0_0 a⟩] c88_0_12) (.cond (.tmp 38) (.seq (.region r88_16 [] (tO [2])) .ret) .skip)) (.seq (.region r88_18 [] (tO [2])) .ret)))))
def cm88_0:MCode:=cm88_0g J88_0_0
theorem gm88_0:cm88_0.Good Pg E88_0 sh88:=⟨trivial,trivial,⟨trivial,⟨trivial,trivial⟩,trivial⟩,⟨⟨g88_0_12,m88_0_0,trivial⟩,⟨trivial,trivial⟩,trivial⟩,trivial,trivial⟩
theorem fm88_0g (a:Tf69_0)(c:Tf57_0)(b:TJ88_0_0)(α:Type)(k:RT α):Fn88_0 (f88_0g b a) α k=pa88_0.unc fun ds=>fnM Pg (E88_0g a c) sh88 (cm88_0g b) rs88 k ds:=by kernel_rfl
theorem fm88_0:∀ (α:Type) (k:RT α),Fn88_0 f88_0 α k=pa88_0.unc fun ds=>fnM Pg E88_0 sh88 cm88_0 rs88 k ds:=fm88_0g f69_0 f57_0 J88_0_0
theorem is88:FnIs Pg 88 nt88 tr88 tl88 cm88_0.erase rs88:=⟨Tryz.f88,Tryz.func88,rfl,by kernel_rfl,by kernel_rfl,by kernel_rfl⟩
theorem io88_0:InstOk Pg 88 nt88 ⟨pa88_0,Fn88_0 f88_0⟩:=inst_ok eo88_0 followsTry is88 ⟨⟨sh88,cm88_0,by kernel_rfl,gm88_0,fm88_0⟩⟩
abbrev nt122:Nat:=17
def sh122:SG:=[(7,iS 2),(9,iS 2),(12,iT),(14,iT)]
def r122_2:LA:=[oO 2 (.box (.tmp 0)),oO 3 (.box (.tmp 1)),oO 4 (.alloc (zI 3)),mK 5 0]
def r122_4:LA:=[fA 6 0 2,lA 7 2 6,fA 8 0 3,lA 9 2 8,oO 10 (.call 123 [(.tmp 7),(.tmp 9)]),fA 11 2 2,lD 12 11,fA 13 2 3,lD 14 13,bT 15 .add 12 14,oO 16 (.build (zI 3) [(0,2,(.tmp 10)),(2,1,(.tmp 15))]),sD 3 4 16,mK 5 0]
def tr122:TG:=[tT 0 [2,3,4],tT 1 [4,5]]
def tl122:TG:=[]
def rs122:List AResV:=[.cell 4 true 3,.tmp 5]
def pr122_0_0:PT (List RV):=pRs [pR true [rD (dI .i64),rD (dI .i64),rD (dI .i64)],wI]
def ur122_0_0 {β:Type}(g:List RV->β):I4 β:=pr122_0_0.unc g
def E122_0g (a:Tf123_0):EnvK:=EnvK.of [⟨123,nt123,[⟨pa123_0,Fn123_0 a⟩]⟩] noSeq
def E122_0:EnvK:=E122_0g f123_0
theorem eo122_0:E122_0.Ok Pg:=EnvK.of_ok noSeq_ok ⟨⟨io123_0,trivial⟩,trivial⟩
abbrev Tf122_0:Type 1:=(α:Type)->Int->Int->Int->Int->Int->Int->(Int->Int->Int->Op α)->Op α
def f122_0g (a:Tf123_0)(α:Type)(b c d e g h:Int)(k1:Int->Int->Int->Op α):Op α:=
 a α b c e g
 (fun i j=>k1 i j (w64 (d+h)))
def f122_0 (α:Type)(a b c d e g:Int)(k1:Int->Int->Int->Op α):Op α:=f122_0g f123_0 α a b c d e g k1
def pa122_0:PT (List DV):=pA [pV true [(dI .i64),(dI .i64),(dI .i64)],pV true [(dI .i64),(dI .i64),(dI .i64)]]
def Fn122_0 (v:Tf122_0)(α:Type)(k:RT α):I6 (Op α):=fun a b c d e g=>v α a b c d e g (fun h i j=>ur122_0_0 k h i j 0)
def cm122_0g:MCode:=(.seq (.region r122_2 [] (tO [2,3,4])) (.seq (.region r122_4 [(4,6),(4,8)] (tO [4,5])) .ret))
def cm122_0:MCode:=cm122_0g
theorem gm122_0:cm122_0.Good Pg E122_0 sh122:=⟨trivial,trivial,trivial⟩
theorem fm122_0g (a:Tf123_0)(α:Type)(k:RT α):Fn122_0 (f122_0g a) α k=pa122_0.unc fun ds=>fnM Pg (E122_0g a) sh122 (cm122_0g ) rs122 k ds:=by kernel_rfl
theorem fm122_0:∀ (α:Type) (k:RT α),Fn122_0 f122_0 α k=pa122_0.unc fun ds=>fnM Pg E122_0 sh122 cm122_0 rs122 k ds:=fm122_0g f123_0
theorem is122:FnIs Pg 122 nt122 tr122 tl122 cm122_0.erase rs122:=⟨Tryz.f122,Tryz.func122,rfl,by kernel_rfl,by kernel_rfl,by kernel_rfl⟩
theorem io122_0:InstOk Pg 122 nt122 ⟨pa122_0,Fn122_0 f122_0⟩:=inst_ok eo122_0 followsTry is122 ⟨⟨sh122,cm122_0,by kernel_rfl,gm122_0,fm122_0⟩⟩
abbrev nt96:Nat:=19
def sh96:SG:=[(10,iS 2),(11,iS 2)]
def r96_2:LA:=[oO 3 (.box (.tmp 0)),oO 4 (.box (.tmp 1)),oO 6 (.mv (.const (.bool false)))]
def r96_4:LA:=[oM 7 2,bK 8 .geq 7 0,oM 9 8,oG 10 (.load true 2 (.tmp 3)) 9 true,oG 11 (.load true 2 (.tmp 4)) 9 true,oG 12 (.call 123 [(.tmp 10),(.tmp 11)]) 9 true,oG 13 (.call 131 [.tmp 12]) 9 true,oG 14 (.mv (.tmp 2)) 9 true,oG 15 (.mv (.tmp 2)) 9 true,oG 16 (.bin .mul 3 (.tmp 14) (.tmp 15)) 9 true,oG 17 (.bin .leq 3 (.tmp 13) (.tmp 16)) 9 true,oO 18 (.pick (.tmp 9) (.tmp 17) (.const (.bool false))),oM 6 18]
def tr96:TG:=[tT 0 [2,3,4],tT 1 [6]]
def tl96:TG:=[]
def rs96:List AResV:=[.tmp 6]
def pr96_0_0:PT (List RV):=pRs [pR false [rD dB]]
def ur96_0_0 {β:Type}(g:List RV->β):Bool->β:=pr96_0_0.unc g
def E96_0g (a:Tf123_0)(b:Tf131_0):EnvK:=EnvK.of [⟨123,nt123,[⟨pa123_0,Fn123_0 a⟩]⟩,⟨131,nt131,[⟨pa131_0,Fn131_0 b⟩]⟩] noSeq
def E96_0:EnvK:=E96_0g f123_0 f131_0
theorem eo96_0:E96_0.Ok Pg:=EnvK.of_ok noSeq_ok ⟨⟨io123_0,trivial⟩,⟨io131_0,trivial⟩,trivial⟩
abbrev Tf96_0:Type 1:=(α:Type)->Int->Int->Int->Int->Int->(Bool->Op α)->Op α
def f96_0g (b:Tf123_0)(c:Tf131_0)(α:Type)(d e g h a:Int)(k1:Bool->Op α):Op α:=
 cK (decide (0<=a))
 (b α d e g h
 (fun i j=>c α i j
 (fun l=>k1 (decide (l<=(w64 (a*a)))))))
 (k1 false)
def f96_0 (α:Type)(a b c d e:Int)(k1:Bool->Op α):Op α:=f96_0g f123_0 f131_0 α a b c d e k1
def pa96_0:PT (List DV):=pA [pV true [(dI .i64),(dI .i64)],pV true [(dI .i64),(dI .i64)],vI]
def Fn96_0 (v:Tf96_0)(α:Type)(k:RT α):I5 (Op α):=fun a b c d e=>v α a b c d e (fun g=>ur96_0_0 k g)
def cm96_0g:MCode:=(.seq (.region r96_2 [] (tO [2,3,4])) (.seq (.region r96_4 [] (tO [6])) .ret))
def cm96_0:MCode:=cm96_0g
theorem gm96_0:cm96_0.Good Pg E96_0 sh96:=⟨trivial,trivial,trivial⟩
theorem fm96_0g (a:Tf123_0)(b:Tf131_0)(α:Type)(k:RT α):Fn96_0 (f96_0g a b) α k=pa96_0.unc fun ds=>fnM Pg (E96_0g a b) sh96 (cm96_0g ) rs96 k ds:=by kernel_rfl
theorem fm96_0:∀ (α:Type) (k:RT α),Fn96_0 f96_0 α k=pa96_0.unc fun ds=>fnM Pg E96_0 sh96 cm96_0 rs96 k ds:=fm96_0g f123_0 f131_0
theorem is96:FnIs Pg 96 nt96 tr96 tl96 cm96_0.erase rs96:=⟨Tryz.f96,Tryz.func96,rfl,by kernel_rfl,by kernel_rfl,by kernel_rfl⟩
theorem io96_0:InstOk Pg 96 nt96 ⟨pa96_0,Fn96_0 f96_0⟩:=inst_ok eo96_0 followsTry is96 ⟨⟨sh96,cm96_0,by kernel_rfl,gm96_0,fm96_0⟩⟩
abbrev nt109:Nat:=11
def sh109:SG:=[(4,iT),(7,iT)]
def r109_2:LA:=[oO 1 (.box (.tmp 0)),mK 2 0]
def r109_4:LA:=[fA 3 0 1,lD 4 3,oO 5 (.pure (oB (.unOp .neg 3 (.tmp 4)) 3)),fA 6 1 1,lD 7 6,oO 8 (.build [(cI 0),(cI 0)] [(0,1,(.tmp 5)),(1,1,(.tmp 7))]),oO 9 (.call 108 [.tmp 8]),oO 10 (.pure (oB (.unOp .neg 3 (.tmp 9)) 3)),oM 2 10]
def tr109:TG:=[tT 0 [1],tT 1 [2]]
def tl109:TG:=[]
def rs109:List AResV:=[.tmp 2]
def pr109_0_0:PT (List RV):=pRs [wI]
def ur109_0_0 {β:Type}(g:List RV->β):Int->β:=pr109_0_0.unc g
def E109_0g (a:Tf108_0):EnvK:=EnvK.of [⟨108,nt108,[⟨pa108_0,Fn108_0 a⟩]⟩] noSeq
def E109_0:EnvK:=E109_0g f108_0
theorem eo109_0:E109_0.Ok Pg:=EnvK.of_ok noSeq_ok ⟨⟨io108_0,trivial⟩,trivial⟩
abbrev Tf109_0:Type 1:=(α:Type)->Int->Int->(Int->Op α)->Op α
def f109_0g (a:Tf108_0)(α:Type)(b c:Int)(k1:Int->Op α):Op α:=
 a α (w64 (0 - b)) c
 (fun d=>k1 (w64 (0 - d)))
def f109_0 (α:Type)(a b:Int)(k1:Int->Op α):Op α:=f109_0g f108_0 α a b k1
def pa109_0:PT (List DV):=pA [pV true [(dI .i64),(dI .i64)]]
def Fn109_0 (v:Tf109_0)(α:Type)(k:RT α):Int->Int->Op α:=fun a b=>v α a b (fun c=>ur109_0_0 k c)
def cm109_0g:MCode:=(.seq (.region r109_2 [] (tO [1])) (.seq (.region r109_4 [] (tO [2])) .ret))
def cm109_0:MCode:=cm109_0g
theorem gm109_0:cm109_0.Good Pg E109_0 sh109:=⟨trivial,trivial,trivial⟩
theorem fm109_0g (a:Tf108_0)(α:Type)(k:RT α):Fn109_0 (f109_0g a) α k=pa109_0.unc fun ds=>fnM Pg (E109_0g a) sh109 (cm109_0g ) rs109 k ds:=by kernel_rfl
theorem fm109_0:∀ (α:Type) (k:RT α),Fn109_0 f109_0 α k=pa109_0.unc fun ds=>fnM Pg E109_0 sh109 cm109_0 rs109 k ds:=fm109_0g f108_0
theorem is109:FnIs Pg 109 nt109 tr109 tl109 cm109_0.erase rs109:=⟨Tryz.f109,Tryz.func109,rfl,by kernel_rfl,by kernel_rfl,by kernel_rfl⟩
theorem io109_0:InstOk Pg 109 nt109 ⟨pa109_0,Fn109_0 f109_0⟩:=inst_ok eo109_0 followsTry is109 ⟨⟨sh109,cm109_0,by kernel_rfl,gm109_0,fm109_0⟩⟩
abbrev nt63:Nat:=14
def sh63:SG:=[(4,iT),(7,iT),(10,iT)]
def r63_2:LA:=[oO 1 (.box (.tmp 0)),mK 2 0]
def r63_4:LA:=[fA 3 0 1,lD 4 3,oO 5 (.bin .mul 3 (kI 2) (.tmp 4)),fA 6 1 1,lD 7 6,bT 8 .add 5 7,fA 9 1 1,lD 10 9,oO 11 (.bin .mul 3 (kI 2) (.tmp 10)),oO 12 (.build [(cI 0),(cI 0)] [(0,1,(.tmp 8)),(1,1,(.tmp 11))]),oO 13 (.call 108 [.tmp 12]),oM 2 13]
def tr63:TG:=[tT 0 [1],tT 1 [2]]
def tl63:TG:=[]
def rs63:List AResV:=[.tmp 2]
def pr63_0_0:PT (List RV):=pRs [wI]
def ur63_0_0 {β:Type}(g:List RV->β):Int->β:=pr63_0_0.unc g
def E63_0g (a:Tf108_0):EnvK:=EnvK.of [⟨108,nt108,[⟨pa108_0,Fn108_0 a⟩]⟩] noSeq
def E63_0:EnvK:=E63_0g f108_0
theorem eo63_0:E63_0.Ok Pg:=EnvK.of_ok noSeq_ok ⟨⟨io108_0,trivial⟩,trivial⟩
abbrev Tf63_0:Type 1:=(α:Type)->Int->Int->(Int->Op α)->Op α
def f63_0g (b:Tf108_0)(α:Type)(c a:Int)(k1:Int->Op α):Op α:=
 b α (w64 ((w64 (2*c))+a)) (w64 (2*a))
 (fun d=>k1 d)
def f63_0 (α:Type)(a b:Int)(k1:Int->Op α):Op α:=f63_0g f108_0 α a b k1
def pa63_0:PT (List DV):=pA [pV true [(dI .i64),(dI .i64)]]
def Fn63_0 (v:Tf63_0)(α:Type)(k:RT α):Int->Int->Op α:=fun a b=>v α a b (fun c=>ur63_0_0 k c)
def cm63_0g:MCode:=(.seq (.region r63_2 [] (tO [1])) (.seq (.region r63_4 [] (tO [2])) .ret))
def cm63_0:MCode:=cm63_0g
theorem gm63_0:cm63_0.Good Pg E63_0 sh63:=⟨trivial,trivial,trivial⟩
theorem fm63_0g (a:Tf108_0)(α:Type)(k:RT α):Fn63_0 (f63_0g a) α k=pa63_0.unc fun ds=>fnM Pg (E63_0g a) sh63 (cm63_0g ) rs63 k ds:=by kernel_rfl
theorem fm63_0:∀ (α:Type) (k:RT α),Fn63_0 f63_0 α k=pa63_0.unc fun ds=>fnM Pg E63_0 sh63 cm63_0 rs63 k ds:=fm63_0g f108_0
theorem is63:FnIs Pg 63 nt63 tr63 tl63 cm63_0.erase rs63:=⟨Tryz.f63,Tryz.func63,rfl,by kernel_rfl,by kernel_rfl,by kernel_rfl⟩
theorem io63_0:InstOk Pg 63 nt63 ⟨pa63_0,Fn63_0 f63_0⟩:=inst_ok eo63_0 followsTry is63 ⟨⟨sh63,cm63_0,by kernel_rfl,gm63_0,fm63_0⟩⟩
abbrev nt49:Nat:=12
def sh49:SG:=[]
def r49_2:LA:=[oO 6 (.alloc [(.d (.v (.complex Go.FloatKind.f64 0 0))),(cI 0)])]
def r49_4:LA:=[oM 7 0,oM 8 1,oO 9 (.call 45 [(.tmp 7),(.tmp 8)]),oM 10 2,oO 11 (.build [(.d (.v (.complex Go.FloatKind.f64 0 0))),(cI 0)] [(0,1,(.tmp 9)),(1,1,(.tmp 10))]),sD 2 6 11]
def tr49:TG:=[tT 0 [0,1,2,6],tT 1 [6]]
def tl49:TG:=[]
def rs49:List AResV:=[.cell 6 true 2]
def pr49_0_0:PT (List RV):=pRs [pR true [rD (dX .f64),rD (dI .i64)]]
def ur49_0_0 {β:Type}(g:List RV->β):Nat->Nat->Int->β:=pr49_0_0.unc g
def E49_0g (a:Tf45_0):EnvK:=EnvK.of [⟨45,nt45,[⟨pa45_0,Fn45_0 a⟩]⟩] noSeq
def E49_0:EnvK:=E49_0g f45_0
theorem eo49_0:E49_0.Ok Pg:=EnvK.of_ok noSeq_ok ⟨⟨io45_0,trivial⟩,trivial⟩
abbrev Tf49_0:Type 1:=(α:Type)->Int->Int->(Nat->Nat->Op α)->Op α
def f49_0g (a:Tf45_0)(α:Type)(b c:Int)(k1:Nat->Nat->Op α):Op α:=
 a α b c
 (fun d e=>k1 d e)
def f49_0 (α:Type)(a b:Int)(k1:Nat->Nat->Op α):Op α:=f49_0g f45_0 α a b k1
def pa49_0:PT (List DV):=pA [vI,vI,vI]
def Fn49_0 (v:Tf49_0)(α:Type)(k:RT α):Int->Int->Int->Op α:=fun a b c=>v α a b (fun d e=>ur49_0_0 k d e c)
def cm49_0g:MCode:=(.seq (.region r49_2 [] (tO [0,1,2,6])) (.seq (.region r49_4 [] (tO [6])) .ret))
def cm49_0:MCode:=cm49_0g
theorem gm49_0:cm49_0.Good Pg E49_0 sh49:=⟨trivial,trivial,trivial⟩
theorem fm49_0g (a:Tf45_0)(α:Type)(k:RT α):Fn49_0 (f49_0g a) α k=pa49_0.unc fun ds=>fnM Pg (E49_0g a) sh49 (cm49_0g ) rs49 k ds:=by kernel_rfl
theorem fm49_0:∀ (α:Type) (k:RT α),Fn49_0 f49_0 α k=pa49_0.unc fun ds=>fnM Pg E49_0 sh49 cm49_0 rs49 k ds:=fm49_0g f45_0
theorem is49:FnIs Pg 49 nt49 tr49 tl49 cm49_0.erase rs49:=⟨Tryz.f49,Tryz.func49,rfl,by kernel_rfl,by kernel_rfl,by kernel_rfl⟩
theorem io49_0:InstOk Pg 49 nt49 ⟨pa49_0,Fn49_0 f49_0⟩:=inst_ok eo49_0 followsTry is49 ⟨⟨sh49,cm49_0,by kernel_rfl,gm49_0,fm49_0⟩⟩
abbrev nt154:Nat:=17
def sh154:SG:=[(7,iS 2),(9,iS 2),(12,iT),(14,iT)]
def r154_2:LA:=[oO 2 (.box (.tmp 0)),oO 3 (.box (.tmp 1)),oO 4 (.alloc (zI 3)),mK 5 0]
def r154_4:LA:=[fA 6 0 2,lA 7 2 6,fA 8 0 3,lA 9 2 8,oO 10 (.call 155 [(.tmp 7),(.tmp 9)]),fA 11 2 2,lD 12 11,fA 13 2 3,lD 14 13,bT 15 .add 12 14,oO 16 (.build (zI 3) [(0,2,(.tmp 10)),(2,1,(.tmp 15))]),sD 3 4 16,mK 5 0]
def tr154:TG:=[tT 0 [2,3,4],tT 1 [4,5]]
def tl154:TG:=[]
def rs154:List AResV:=[.cell 4 true 3,.tmp 5]
def pr154_0_0:PT (List RV):=pRs [pR true [rD (dI .i64),rD (dI .i64),rD (dI .i64)],wI]
def ur154_0_0 {β:Type}(g:List RV->β):I4 β:=pr154_0_0.unc g
def E154_0g (a:Tf155_0):EnvK:=EnvK.of [⟨155,nt155,[⟨pa155_0,Fn155_0 a⟩]⟩] noSeq
def E154_0:EnvK:=E154_0g f155_0
theorem eo154_0:E154_0.Ok Pg:=EnvK.of_ok noSeq_ok ⟨⟨io155_0,trivial⟩,trivial⟩
abbrev Tf154_0:Type 1:=(α:Type)->Int->Int->Int->Int->Int->Int->(Int->Int->Int->Op α)->Op α
def f154_0g (a:Tf155_0)(α:Type)(b c d e g h:Int)(k1:Int->Int->Int->Op α):Op α:=
 a α b c e g
 (fun i j=>k1 i j (w64 (d+h)))
def f154_0 (α:Type)(a b c d e g:Int)(k1:Int->Int->Int->Op α):Op α:=f154_0g f155_0 α a b c d e g k1
def pa154_0:PT (List DV):=pA [pV true [(dI .i64),(dI .i64),(dI .i64)],pV true [(dI .i64),(dI .i64),(dI .i64)]]
def Fn154_0 (v:Tf154_0)(α:Type)(k:RT α):I6 (Op α):=fun a b c d e g=>v α a b c d e g (fun h i j=>ur154_0_0 k h i j 0)
def cm154_0g:MCode:=(.seq (.region r154_2 [] (tO [2,3,4])) (.seq (.region r154_4 [(4,6),(4,8)] (tO [4,5])) .ret))
def cm154_0:MCode:=cm154_0g
theorem gm154_0:cm154_0.Good Pg E154_0 sh154:=⟨trivial,trivial,trivial⟩
theorem fm154_0g (a:Tf155_0)(α:Type)(k:RT α):Fn154_0 (f154_0g a) α k=pa154_0.unc fun ds=>fnM Pg (E154_0g a) sh154 (cm154_0g ) rs154 k ds:=by kernel_rfl
theorem fm154_0:∀ (α:Type) (k:RT α),Fn154_0 f154_0 α k=pa154_0.unc fun ds=>fnM Pg E154_0 sh154 cm154_0 rs154 k ds:=fm154_0g f155_0
theorem is154:FnIs Pg 154 nt154 tr154 tl154 cm154_0.erase rs154:=⟨Tryz.f154,Tryz.func154,rfl,by kernel_rfl,by kernel_rfl,by kernel_rfl⟩
theorem io154_0:InstOk Pg 154 nt154 ⟨pa154_0,Fn154_0 f154_0⟩:=inst_ok eo154_0 followsTry is154 ⟨⟨sh154,cm154_0,by kernel_rfl,gm154_0,fm154_0⟩⟩
abbrev nt151:Nat:=15
def sh151:SG:=[]
def r151_2:LA:=[oO 4 (.mv (.const (.bool false)))]
def r151_5:LA:=[oM 5 1,bK 6 .eql 5 0]
def r151_7:LA:=[oM 7 0,oO 8 (.call 129 [.tmp 7]),oM 0 8]
def r151_9:LA:=[oM 9 1,bK 10 .lss 9 0]
def r151_11:LA:=[oM 11 0,oO 12 (.pure (oB (.unOp .neg 117 (.tmp 11)) 117)),oM 0 12]
def r151_13:LA:=[oM 13 0,oO 14 (.bin .gtr 117 (.tmp 13) (.const (.float Go.FloatKind.f64 9218868437227405311))),oM 4 14]
def tr151:TG:=[tT 0 [0,1],tT 1 [0,1,6],tT 2 [0],tT 3 [0,10],tT 4 [0],tT 5 [4]]
def tl151:TG:=[]
def rs151:List AResV:=[.tmp 4]
def pr151_0_0:PT (List RV):=pRs [pR false [rD dB]]
def ur151_0_0 {β:Type}(g:List RV->β):Bool->β:=pr151_0_0.unc g
def E151_0g (a:Tf129_0):EnvK:=EnvK.of [⟨129,nt129,[⟨pa129_0,Fn129_0 a⟩]⟩] noSeq
def E151_0:EnvK:=E151_0g f129_0
theorem eo151_0:E151_0.Ok Pg:=EnvK.of_ok noSeq_ok ⟨⟨io129_0,trivial⟩,trivial⟩
abbrev Tf151_0:Type 1:=(α:Type)->Nat->Int->(Bool->Op α)->Op α
def f151_0g (c:Tf129_0)(α:Type)(a:Nat)(b:Int)(k1:Bool->Op α):Op α:=
 cK (b == 0)
 (c α a
 (fun d=>k1 ((FloatKind.format .f64).order d 9218868437227405311 == some Ordering.gt)))
 (cK (decide (b < 0))
 (k1 ((FloatKind.format .f64).order (Op.negFloat .f64 a) 9218868437227405311 == some Ordering.gt))
 (k1 ((FloatKind.format .f64).order a 9218868437227405311 == some Ordering.gt)))
def f151_0 (α:Type)(a:Nat)(b:Int)(k1:Bool->Op α):Op α:=f151_0g f129_0 α a b k1
def pa151_0:PT (List DV):=pA [pV false [(dF .f64)],vI]
def Fn151_0 (v:Tf151_0)(α:Type)(k:RT α):Nat->Int->Op α:=fun a b=>v α a b (fun c=>ur151_0_0 k c)
def cm151_0g:MCode:=(.seq (.region r151_2 [] (tO [0,1])) (.seq (.seq (.region r151_5 [] (tO [0,1,6])) (.cond (.tmp 6) (.region r151_7 [] (tO [0])) (.seq (.region r151_9 [] (tO [0,10])) (.cond (.tmp 10) (.region r151_11 [] (tO [0])) .skip)))) (.seq (.region r151_13 [] (tO [4])) .ret)))
def cm151_0:MCode:=cm151_0g
theorem gm151_0:cm151_0.Good Pg E151_0 sh151:=⟨trivial,⟨trivial,trivial,trivial,trivial,trivial⟩,trivial,trivial⟩
theorem fm151_0g (a:Tf129_0)(α:Type)(k:RT α):Fn151_0 (f151_0g a) α k=pa151_0.unc fun ds=>fnM Pg (E151_0g a) sh151 (cm151_0g ) rs151 k ds:=by kernel_rfl
theorem fm151_0:∀ (α:Type) (k:RT α),Fn151_0 f151_0 α k=pa151_0.unc fun ds=>fnM Pg E151_0 sh151 cm151_0 rs151 k ds:=fm151_0g f129_0
theorem is151:FnIs Pg 151 nt151 tr151 tl151 cm151_0.erase rs151:=⟨Tryz.f151,Tryz.func151,rfl,by kernel_rfl,by kernel_rfl,by kernel_rfl⟩
theorem io151_0:InstOk Pg 151 nt151 ⟨pa151_0,Fn151_0 f151_0⟩:=inst_ok eo151_0 followsTry is151 ⟨⟨sh151,cm151_0,by kernel_rfl,gm151_0,fm151_0⟩⟩
abbrev nt117:Nat:=17
def sh117:SG:=[]
def r117_2:LA:=[mK 4 0,oO 5 (.mv (.const (.bool false)))]
def r117_4:LA:=[oM 6 0,oO 7 (.bin .mul 3 (kI 2) (.tmp 6)),oM 8 1,bT 9 .add 7 8,oM 10 1,oO 11 (.bin .mul 3 (kI 2) (.tmp 10)),oO 12 (.call 139 [(.tmp 9),(.tmp 11)]),oM 13 0,oM 14 1,bT 15 .rem 13 14,bK 16 .neq 15 0,oM 4 12,oM 5 16]
def tr117:TG:=[tT 0 [0,1],tT 1 [4,5]]
def tl117:TG:=[]
def rs117:List AResV:=[.tmp 4,.tmp 5]
def pr117_0_0:PT (List RV):=pRs [wI,pR false [rD dB]]
def ur117_0_0 {β:Type}(g:List RV->β):Int->Bool->β:=pr117_0_0.unc g
def E117_0g (a:Tf139_0):EnvK:=EnvK.of [⟨139,nt139,[⟨pa139_0,Fn139_0 a⟩]⟩] noSeq
def E117_0:EnvK:=E117_0g f139_0
theorem eo117_0:E117_0.Ok Pg:=EnvK.of_ok noSeq_ok ⟨⟨io139_0,trivial⟩,trivial⟩
abbrev Tf117_0:Type 1:=(α:Type)->Int->Int->(Int->Bool->Op α)->Op α
def f117_0g (c:Tf139_0)(α:Type)(b a:Int)(k1:Int->Bool->Op α):Op α:=
 c α (w64 ((w64 (2*b))+a)) (w64 (2*a))
 (fun d=>gK (a != 0) (k1 d ((Int.tmod b a) != 0)))
def f117_0 (α:Type)(a b:Int)(k1:Int->Bool->Op α):Op α:=f117_0g f139_0 α a b k1
def pa117_0:PT (List DV):=pA [vI,vI]
def Fn117_0 (v:Tf117_0)(α:Type)(k:RT α):Int->Int->Op α:=fun a b=>v α a b (fun c d=>ur117_0_0 k c d)
def cm117_0g:MCode:=(.seq (.region r117_2 [] (tO [0,1])) (.seq (.region r117_4 [] (tO [4,5])) .ret))
def cm117_0:MCode:=cm117_0g
theorem gm117_0:cm117_0.Good Pg E117_0 sh117:=⟨trivial,trivial,trivial⟩
theorem fm117_0g (a:Tf139_0)(α:Type)(k:RT α):Fn117_0 (f117_0g a) α k=pa117_0.unc fun ds=>fnM Pg (E117_0g a) sh117 (cm117_0g ) rs117 k ds:=by kernel_rfl
theorem fm117_0:∀ (α:Type) (k:RT α),Fn117_0 f117_0 α k=pa117_0.unc fun ds=>fnM Pg E117_0 sh117 cm117_0 rs117 k ds:=fm117_0g f139_0
theorem is117:FnIs Pg 117 nt117 tr117 tl117 cm117_0.erase rs117:=⟨Tryz.f117,Tryz.func117,rfl,by kernel_rfl,by kernel_rfl,by kernel_rfl⟩
theorem io117_0:InstOk Pg 117 nt117 ⟨pa117_0,Fn117_0 f117_0⟩:=inst_ok eo117_0 followsTry is117 ⟨⟨sh117,cm117_0,by kernel_rfl,gm117_0,fm117_0⟩⟩
abbrev nt118:Nat:=10
def sh118:SG:=[]
def r118_2:LA:=[mK 4 0]
def r118_4:LA:=[oM 5 0,oO 6 (.pure (oB (.unOp .neg 3 (.tmp 5)) 3)),oM 7 1,oO 8 (.call 139 [(.tmp 6),(.tmp 7)]),oO 9 (.pure (oB (.unOp .neg 3 (.tmp 8)) 3)),oM 4 9]
def tr118:TG:=[tT 0 [0,1],tT 1 [4]]
def tl118:TG:=[]
def rs118:List AResV:=[.tmp 4]
def pr118_0_0:PT (List RV):=pRs [wI]
def ur118_0_0 {β:Type}(g:List RV->β):Int->β:=pr118_0_0.unc g
def E118_0g (a:Tf139_0):EnvK:=EnvK.of [⟨139,nt139,[⟨pa139_0,Fn139_0 a⟩]⟩] noSeq
def E118_0:EnvK:=E118_0g f139_0
theorem eo118_0:E118_0.Ok Pg:=EnvK.of_ok noSeq_ok ⟨⟨io139_0,trivial⟩,trivial⟩
abbrev Tf118_0:Type 1:=(α:Type)->Int->Int->(Int->Op α)->Op α
def f118_0g (a:Tf139_0)(α:Type)(b c:Int)(k1:Int->Op α):Op α:=
 a α (w64 (0 - b)) c
 (fun d=>k1 (w64 (0 - d)))
def f118_0 (α:Type)(a b:Int)(k1:Int->Op α):Op α:=f118_0g f139_0 α a b k1
def pa118_0:PT (List DV):=pA [vI,vI]
def Fn118_0 (v:Tf118_0)(α:Type)(k:RT α):Int->Int->Op α:=fun a b=>v α a b (fun c=>ur118_0_0 k c)
def cm118_0g:MCode:=(.seq (.region r118_2 [] (tO [0,1])) (.seq (.region r118_4 [] (tO [4])) .ret))
def cm118_0:MCode:=cm118_0g
theorem gm118_0:cm118_0.Good Pg E118_0 sh118:=⟨trivial,trivial,trivial⟩
theorem fm118_0g (a:Tf139_0)(α:Type)(k:RT α):Fn118_0 (f118_0g a) α k=pa118_0.unc fun ds=>fnM Pg (E118_0g a) sh118 (cm118_0g ) rs118 k ds:=by kernel_rfl
theorem fm118_0:∀ (α:Type) (k:RT α),Fn118_0 f118_0 α k=pa118_0.unc fun ds=>fnM Pg E118_0 sh118 cm118_0 rs118 k ds:=fm118_0g f139_0
theorem is118:FnIs Pg 118 nt118 tr118 tl118 cm118_0.erase rs118:=⟨Tryz.f118,Tryz.func118,rfl,by kernel_rfl,by kernel_rfl,by kernel_rfl⟩
theorem io118_0:InstOk Pg 118 nt118 ⟨pa118_0,Fn118_0 f118_0⟩:=inst_ok eo118_0 followsTry is118 ⟨⟨sh118,cm118_0,by kernel_rfl,gm118_0,fm118_0⟩⟩
abbrev nt137:Nat:=10
def sh137:SG:=[]
def r137_2:LA:=[oO 4 (.mv (.const (.bool false)))]
def r137_4:LA:=[oM 5 0,oM 6 1,oO 7 (.pure (oB (.unOp .neg 3 (.tmp 6)) 3)),oM 8 1,oO 9 (.call 127 [(.tmp 5),(.tmp 7),(.tmp 8)]),oM 4 9]
def tr137:TG:=[tT 0 [0,1],tT 1 [4]]
def tl137:TG:=[]
def rs137:List AResV:=[.tmp 4]
def pr137_0_0:PT (List RV):=pRs [pR false [rD dB]]
def ur137_0_0 {β:Type}(g:List RV->β):Bool->β:=pr137_0_0.unc g
def E137_0g (a:Tf127_0):EnvK:=EnvK.of [⟨127,nt127,[⟨pa127_0,Fn127_0 a⟩]⟩] noSeq
def E137_0:EnvK:=E137_0g f127_0
theorem eo137_0:E137_0.Ok Pg:=EnvK.of_ok noSeq_ok ⟨⟨io127_0,trivial⟩,trivial⟩
abbrev Tf137_0:Type 1:=(α:Type)->Int->Int->(Bool->Op α)->Op α
def f137_0g (b:Tf127_0)(α:Type)(c a:Int)(k1:Bool->Op α):Op α:=
 b α c (w64 (0 - a)) a
 (fun d=>k1 d)
def f137_0 (α:Type)(a b:Int)(k1:Bool->Op α):Op α:=f137_0g f127_0 α a b k1
def pa137_0:PT (List DV):=pA [vI,vI]
def Fn137_0 (v:Tf137_0)(α:Type)(k:RT α):Int->Int->Op α:=fun a b=>v α a b (fun c=>ur137_0_0 k c)
def cm137_0g:MCode:=(.seq (.region r137_2 [] (tO [0,1])) (.seq (.region r137_4 [] (tO [4])) .ret))
def cm137_0:MCode:=cm137_0g
theorem gm137_0:cm137_0.Good Pg E137_0 sh137:=⟨trivial,trivial,trivial⟩
theorem fm137_0g (a:Tf127_0)(α:Type)(k:RT α):Fn137_0 (f137_0g a) α k=pa137_0.unc fun ds=>fnM Pg (E137_0g a) sh137 (cm137_0g ) rs137 k ds:=by kernel_rfl
theorem fm137_0:∀ (α:Type) (k:RT α),Fn137_0 f137_0 α k=pa137_0.unc fun ds=>fnM Pg E137_0 sh137 cm137_0 rs137 k ds:=fm137_0g f127_0
theorem is137:FnIs Pg 137 nt137 tr137 tl137 cm137_0.erase rs137:=⟨Tryz.f137,Tryz.func137,rfl,by kernel_rfl,by kernel_rfl,by kernel_rfl⟩
theorem io137_0:InstOk Pg 137 nt137 ⟨pa137_0,Fn137_0 f137_0⟩:=inst_ok eo137_0 followsTry is137 ⟨⟨sh137,cm137_0,by kernel_rfl,gm137_0,fm137_0⟩⟩
abbrev nt50:Nat:=13
def sh50:SG:=[]
def r50_2:LA:=[mK 2 0]
def r50_5:LA:=[oM 3 0,oO 4 (.call 51 [(.tmp 3),(kI 2),(kI 32)]),oO 5 (.pure (oB (.unOp .not 4 (.tmp 4)) 4)),oM 6 5,oG 7 (.mv (.tmp 0)) 6 false,oG 8 (.mv (.tmp 0)) 6 false,oG 9 (.bin .sub 3 (.tmp 8) (kI 1)) 6 false,oG 10 (.bin .and 3 (.tmp 7) (.tmp 9)) 6 false,oG 11 (.bin .neq 3 (.tmp 10) (kI 0)) 6 false,oO 12 (.pick (.tmp 6) (.const (.bool true)) (.tmp 11))]
def r50_8:LA:=[mK 2 12]
def r50_10:LA:=[mK 2 0]
def tr50:TG:=[tT 0 [0],tT 1 [12],tT 2 [2],tT 3 [2]]
def tl50:TG:=[]
def rs50:List AResV:=[.tmp 2]
def pr50_0_0:PT (List RV):=pRs [wI]
def ur50_0_0 {β:Type}(g:List RV->β):Int->β:=pr50_0_0.unc g
def E50_0g (a:Tf51_0):EnvK:=EnvK.of [⟨51,nt51,[⟨pa51_0,Fn51_0 a⟩]⟩] noSeq
def E50_0:EnvK:=E50_0g f51_0
theorem eo50_0:E50_0.Ok Pg:=EnvK.of_ok noSeq_ok ⟨⟨io51_0,trivial⟩,trivial⟩
abbrev Tf50_0:Type 1:=(α:Type)->Int->(Int->Op α)->Op α
def f50_0g (b:Tf51_0)(α:Type)(a:Int)(k1:Int->Op α):Op α:=
 b α a 2 32
 (fun c=>cK (!c)
 (k1 12)
 (cK ((iAnd .i64 a (w64 (a - 1))) != 0)
 (k1 12)
 (k1 0)))
def f50_0 (α:Type)(a:Int)(k1:Int->Op α):Op α:=f50_0g f51_0 α a k1
def pa50_0:PT (List DV):=pA [vI]
def Fn50_0 (v:Tf50_0)(α:Type)(k:RT α):Int->Op α:=fun a=>v α a (fun b=>ur50_0_0 k b)
def cm50_0g:MCode:=(.seq (.region r50_2 [] (tO [0])) (.seq (.seq (.region r50_5 [] (tO [12])) (.cond (.tmp 12) (.seq (.region r50_8 [] (tO [2])) .ret) .skip)) (.seq (.region r50_10 [] (tO [2])) .ret)))
def cm50_0:MCode:=cm50_0g
theorem gm50_0:cm50_0.Good Pg E50_0 sh50:=⟨trivial,⟨trivial,⟨trivial,trivial⟩,trivial⟩,trivial,trivial⟩
theorem fm50_0g (a:Tf51_0)(α:Type)(k:RT α):Fn50_0 (f50_0g a) α k=pa50_0.unc fun ds=>fnM Pg (E50_0g a) sh50 (cm50_0g ) rs50 k ds:=by kernel_rfl
theorem fm50_0:∀ (α:Type) (k:RT α),Fn50_0 f50_0 α k=pa50_0.unc fun ds=>fnM Pg E50_0 sh50 cm50_0 rs50 k ds:=fm50_0g f51_0
theorem is50:FnIs Pg 50 nt50 tr50 tl50 cm50_0.erase rs50:=⟨Tryz.f50,Tryz.func50,rfl,by kernel_rfl,by kernel_rfl,by kernel_rfl⟩
theorem io50_0:InstOk Pg 50 nt50 ⟨pa50_0,Fn50_0 f50_0⟩:=inst_ok eo50_0 followsTry is50 ⟨⟨sh50,cm50_0,by kernel_rfl,gm50_0,fm50_0⟩⟩
abbrev nt15:Nat:=27
def sh15:SG:=[(19,[.cpx .f64,.int .i64]),(20,[.cpx .f64,.int .i64]),(23,[.cpx .f64,.int .i64]),(24,[.cpx .f64,.int .i64])]
def r15_2:LA:=[oO 4 (.mv (.const (.bool false)))]
def r15_5:LA:=[oM 6 0,oO 7 (.len (.tmp 6)),oM 8 1,oO 9 (.len (.tmp 8)),bT 10 .neq 7 9]
def r15_8:LA:=[oO 4 (.mv (.const (.bool false)))]
def r15_11:LA:=[mK 5 0]
def td15_13:OT:=(tO [0,1,5])
def r15_16:LA:=[oM 11 5,oM 12 0,oO 13 (.len (.tmp 12)),bT 14 .lss 11 13]
def r15_21:LA:=[oM 17 0,oM 18 5,oO 19 (.iaddr 2 none (.tmp 17) (.tmp 18)),lA 20 2 19,oM 21 1,oM 22 5,oO 23 (.iaddr 2 none (.tmp 21) (.tmp 22)),lA 24 2 23,oO 25 (.call 23 [(.tmp 20),(.tmp 24)]),oO 26 (.pure (oB (.unOp .not 4 (.tmp 25)) 4))]
def r15_24:LA:=[oO 4 (.mv (.const (.bool false)))]
def r15_25:LA:=[oM 15 5,bK 16 .add 15 1,oM 5 16]
def r15_27:LA:=[oO 4 (.mv (.const (.bool true)))]
def tr15:TG:=[tT 0 [0,1],tT 1 [0,1,10],tT 2 [4],tT 3 [0,1,5],tT 4 [0,1,5,14],tT 6 [0,1,5,26],tT 7 [4],tT 5 [0,1,5],tT 8 [4]]
def tl15:TG:=[tT 4 [0,1,5]]
def rs15:List AResV:=[.tmp 4]
def p15_0_0:PT St:=pS [sl 0 (aV false [(cD dL)]),sl 1 (aV false [(cD dL)]),sI 5] []
def u15_0_0 {β:Type}(g:St->β):Rows->Rows->Int->β:=p15_0_0.unc g
def p15_0_1:PT St:=pS [sl 4 (aV false [(cD dB)])] []
def u15_0_1 {β:Type}(g:St->β):Bool->β:=p15_0_1.unc g
def p15_0_2:PT St:=pS [sl 0 (aV false [(cD dL)]),sl 1 (aV false [(cD dL)]),sI 5,sl 14 (aV false [(cD dB)])] []
def u15_0_2 {β:Type}(g:St->β):Rows->Rows->Int->Bool->β:=p15_0_2.unc g
def pr15_0_0:PT (List RV):=pRs [pR false [rD dB]]
def ur15_0_0 {β:Type}(g:List RV->β):Bool->β:=pr15_0_0.unc g
def E15_0g (a:Tf23_0):EnvK:=EnvK.of [⟨23,nt23,[⟨pa23_0,Fn23_0 a⟩]⟩] noSeq
def E15_0:EnvK:=E15_0g f23_0
theorem eo15_0:E15_0.Ok Pg:=EnvK.of_ok noSeq_ok ⟨⟨io23_0,trivial⟩,trivial⟩
def c15_0_13g:MCode:=(.seq (.seq (.region r15_16 [] (tO [0,1,5,14])) (.cond (.tmp 14) .skip (.exit 0))) (.seq (.block 1 (.seq (.region r15_21 [] (tO [0,1,5,26])) (.cond (.tmp 26) (.seq (.region r15_24 [] (tO [4])) .ret) .skip))) (.region r15_25 [] (tO [0,1,5]))))
def c15_0_13:MCode:=c15_0_13g
theorem g15_0_13:c15_0_13.Good Pg E15_0 sh15:=⟨⟨trivial,trivial,trivial⟩,⟨trivial,⟨trivial,trivial⟩,trivial⟩,trivial⟩
def S15_0_0g (c:Tf23_0)(α:Type)(b d:Rows)(a:Int)(kn:Int->Op α)(k1:Op α)(k2:Int->Bool->Op α):Op α:=
 cK (decide (a < ((List.length b:Nat):Int)))
 (rowK b a [.cpx .f64,.int .i64]
 (fun e g h=>rowK d a [.cpx .f64,.int .i64]
 (fun i j l=>c α e g h i j l
 (fun m=>cK (!m)
 (k1)
 (kn (w64 (a+1)))))))
 (k2 a (decide (a < ((List.length b:Nat):Int))))
def S15_0_0 (α:Type)(a b:Rows)(c:Int)(kn:Int->Op α)(k1:Op α)(k2:Int->Bool->Op α):Op α:=S15_0_0g f23_0 α a b c kn k1 k2
def R15_0_0 (α:Type)(a b:Rows)(k1:Op α)(k2:Int->Bool->Op α):Nat->Int->Op α
 | 0,_=>none
 | n+1,c=>S15_0_0 α a b c (R15_0_0 α a b k1 k2 n) k1 k2
def L15_0_0 (α:Type)(a b:Rows)(k1:Op α)(k2:Int->Bool->Op α)(c:Int):Op α:=R15_0_0 α a b k1 k2 fuel c
abbrev TL15_0_0:Type 1:=(α:Type)->Rows->Rows->(Op α)->(Int->Bool->Op α)->Int->Op α
def F15_0_0 (v:TL15_0_0)(α:Type)(K:KT α):Rows->Rows->Int->Op α:=fun a b c=>v α a b (u15_0_1 (K .ret) false) (fun d e=>u15_0_2 (K (.exit 0)) a b d e) c
theorem r15_0_0g (d:Tf23_0)(α:Type)(K:KT α)(Kn:SK α)(a b:Rows)(c:Int):u15_0_0 (fun σ=>runM Pg (E15_0g d) sh15 (c15_0_13g ) (thenK (fun σ=>tidyK td15_13 σ Kn) K) σ) a b c=S15_0_0g d α a b c (fun c=>u15_0_0 Kn a b c) (u15_0_1 (K .ret) false) (fun e g=>u15_0_2 (K (.exit 0)) a b e g):=by kernel_rfl
theorem r15_0_0 (α:Type)(K:KT α)(Kn:SK α)(a b:Rows)(c:Int):u15_0_0 (fun σ=>runM Pg E15_0 sh15 c15_0_13 (thenK (fun σ=>tidyK td15_13 σ Kn) K) σ) a b c=S15_0_0 α a b c (fun c=>u15_0_0 Kn a b c) (u15_0_1 (K .ret) false) (fun d e=>u15_0_2 (K (.exit 0)) a b d e):=r15_0_0g f23_0 α K Kn a b c
theorem t15_0_0 (α:Type)(K:KT α):∀ (n:Nat) (a b:Rows) (c:Int),R15_0_0 α a b (u15_0_1 (K .ret) false) (fun d e=>u15_0_2 (K (.exit 0)) a b d e) n c=u15_0_0 (loopT (runM Pg E15_0 sh15 c15_0_13) td15_13 K n) a b c:=by
 intro n
 induction n with
 | zero=>intros;rfl
 | succ n ih=>intro a b c;exact (congrArg (fun kn=>S15_0_0 α a b c kn (u15_0_1 (K .ret) false) (fun d e=>u15_0_2 (K (.exit 0)) a b d e)) (funext fun c=>ih a b c)).trans (r15_0_0 α K (loopT (runM Pg E15_0 sh15 c15_0_13) td15_13 K n) a b c).symm
theorem m15_0_0:∀ (α:Type) (K:KT α),F15_0_0 L15_0_0 α K=p15_0_0.unc fun σ=>loopT (runM Pg E15_0 sh15 c15_0_13) td15_13 K fuel σ:=fun α K=>by funext a b c;exact t15_0_0 α K fuel a b c
abbrev Tf15_0:Type 1:=(α:Type)->Rows->Rows->(Bool->Op α)->Op α
def f15_0g (c:TL15_0_0)(α:Type)(a b:Rows)(k1:Bool->Op α):Op α:=
 cK (((List.length a:Nat):Int) != ((List.length b:Nat):Int))
 (k1 false)
 (c α a b
 (k1 false)
 (fun d e=>k1 true) 0)
def f15_0 (α:Type)(a b:Rows)(k1:Bool->Op α):Op α:=f15_0g L15_0_0 α a b k1
def pa15_0:PT (List DV):=pA [pV false [dL],pV false [dL]]
def Fn15_0 (v:Tf15_0)(α:Type)(k:RT α):Rows->Rows->Op α:=fun a b=>v α a b (fun c=>ur15_0_0 k c)
def cm15_0g (a:TL15_0_0):MCode:=(.seq (.region r15_2 [] (tO [0,1])) (.seq (.seq (.region r15_5 [] (tO [0,1,10])) (.cond (.tmp 10) (.seq (.region r15_8 [] (tO [4])) .ret) .skip)) (.seq (.seq (.region r15_11 [] (tO [0,1,5])) (.block 0 (.loop td15_13 [⟨p15_0_0,F15_0_0 a⟩] c15_0_13))) (.seq (.region r15_27 [] (tO [4])) .ret))))
def cm15_0:MCode:=cm15_0g L15_0_0
theorem gm15_0:cm15_0.Good Pg E15_0 sh15:=⟨trivial,⟨trivial,⟨trivial,trivial⟩,trivial⟩,⟨trivial,g15_0_13,m15_0_0,trivial⟩,trivial,trivial⟩
theorem fm15_0g (b:Tf23_0)(a:TL15_0_0)(α:Type)(k:RT α):Fn15_0 (f15_0g a) α k=pa15_0.unc fun ds=>fnM Pg (E15_0g b) sh15 (cm15_0g a) rs15 k ds:=by kernel_rfl
theorem fm15_0:∀ (α:Type) (k:RT α),Fn15_0 f15_0 α k=pa15_0.unc fun ds=>fnM Pg E15_0 sh15 cm15_0 rs15 k ds:=fm15_0g f23_0 L15_0_0
theorem is15:FnIs Pg 15 nt15 tr15 tl15 cm15_0.erase rs15:=⟨Tryz.f15,Tryz.func15,rfl,by kernel_rfl,by kernel_rfl,by kernel_rfl⟩
theorem io15_0:InstOk Pg 15 nt15 ⟨pa15_0,Fn15_0 f15_0⟩:=inst_ok eo15_0 followsTry is15 ⟨⟨sh15,cm15_0,by kernel_rfl,gm15_0,fm15_0⟩⟩
abbrev nt27:Nat:=10
def sh27:SG:=[(4,iT),(6,iT),(8,iT)]
def r27_2:LA:=[oO 1 (.box (.tmp 0)),oO 2 (.alloc [(.d (.v (.complex Go.FloatKind.f64 0 0))),(cI 0)])]
def r27_4:LA:=[fA 3 0 1,lD 4 3,fA 5 1 1,lD 6 5,fA 7 2 1,lD 8 7,oO 9 (.call 49 [(.tmp 4),(.tmp 6),(.tmp 8)]),sD 2 2 9]
def tr27:TG:=[tT 0 [1,2],tT 1 [2]]
def tl27:TG:=[]
def rs27:List AResV:=[.cell 2 true 2]
def pr27_0_0:PT (List RV):=pRs [pR true [rD (dX .f64),rD (dI .i64)]]
def ur27_0_0 {β:Type}(g:List RV->β):Nat->Nat->Int->β:=pr27_0_0.unc g
def E27_0g (a:Tf49_0):EnvK:=EnvK.of [⟨49,nt49,[⟨pa49_0,Fn49_0 a⟩]⟩] noSeq
def E27_0:EnvK:=E27_0g f49_0
theorem eo27_0:E27_0.Ok Pg:=EnvK.of_ok noSeq_ok ⟨⟨io49_0,trivial⟩,trivial⟩
abbrev Tf27_0:Type 1:=(α:Type)->Int->Int->(Nat->Nat->Op α)->Op α
def f27_0g (a:Tf49_0)(α:Type)(b c:Int)(k1:Nat->Nat->Op α):Op α:=
 a α b c
 (fun d e=>k1 d e)
def f27_0 (α:Type)(a b:Int)(k1:Nat->Nat->Op α):Op α:=f27_0g f49_0 α a b k1
def pa27_0:PT (List DV):=pA [pV true [(dI .i64),(dI .i64),(dI .i64)]]
def Fn27_0 (v:Tf27_0)(α:Type)(k:RT α):Int->Int->Int->Op α:=fun a b c=>v α a b (fun d e=>ur27_0_0 k d e c)
def cm27_0g:MCode:=(.seq (.region r27_2 [] (tO [1,2])) (.seq (.region r27_4 [] (tO [2])) .ret))
def cm27_0:MCode:=cm27_0g
theorem gm27_0:cm27_0.Good Pg E27_0 sh27:=⟨trivial,trivial,trivial⟩
theorem fm27_0g (a:Tf49_0)(α:Type)(k:RT α):Fn27_0 (f27_0g a) α k=pa27_0.unc fun ds=>fnM Pg (E27_0g a) sh27 (cm27_0g ) rs27 k ds:=by kernel_rfl
theorem fm27_0:∀ (α:Type) (k:RT α),Fn27_0 f27_0 α k=pa27_0.unc fun ds=>fnM Pg E27_0 sh27 cm27_0 rs27 k ds:=fm27_0g f49_0
theorem is27:FnIs Pg 27 nt27 tr27 tl27 cm27_0.erase rs27:=⟨Tryz.f27,Tryz.func27,rfl,by kernel_rfl,by kernel_rfl,by kernel_rfl⟩
theorem io27_0:InstOk Pg 27 nt27 ⟨pa27_0,Fn27_0 f27_0⟩:=inst_ok eo27_0 followsTry is27 ⟨⟨sh27,cm27_0,by kernel_rfl,gm27_0,fm27_0⟩⟩
abbrev nt39:Nat:=21
def sh39:SG:=[(16,iS 3),(17,iS 3)]
def r39_2:LA:=[mK 2 0]
def r39_5:LA:=[oM 4 0,oO 5 (.len (.tmp 4)),bK 6 .quo 5 2,bK 7 .add 6 1,oM 3 7]
def td39_7:OT:=(tO [0,3])
def r39_10:LA:=[oM 8 3,oM 9 0,oO 10 (.len (.tmp 9)),bT 11 .lss 8 10]
def r39_15:LA:=[oM 14 0,oM 15 3,oO 16 (.iaddr 3 none (.tmp 14) (.tmp 15)),lA 17 3 16,oO 18 (.call 92 [(.tmp 17),(kI 0),(kI 0)]),oO 19 (.pure (oB (.unOp .not 4 (.tmp 18)) 4))]
def r39_18:LA:=[oM 20 3,oM 2 20]
def r39_19:LA:=[oM 12 3,bK 13 .add 12 1,oM 3 13]
def r39_21:LA:=[mK 2 (-1)]
def tr39:TG:=[tT 0 [0],tT 1 [0,3],tT 2 [0,3,11],tT 4 [0,3,19],tT 5 [2],tT 3 [0,3],tT 6 [2]]
def tl39:TG:=[tT 2 [0,3]]
def rs39:List AResV:=[.tmp 2]
def p39_0_0:PT St:=pS [sl 0 (aV false [(cD dL)]),sI 3] []
def u39_0_0 {β:Type}(g:St->β):Rows->Int->β:=p39_0_0.unc g
def p39_0_1:PT St:=pS [sI 2] []
def u39_0_1 {β:Type}(g:St->β):Int->β:=p39_0_1.unc g
def p39_0_2:PT St:=pS [sl 0 (aV false [(cD dL)]),sI 3,sl 11 (aV false [(cD dB)])] []
def u39_0_2 {β:Type}(g:St->β):Rows->Int->Bool->β:=p39_0_2.unc g
def pr39_0_0:PT (List RV):=pRs [wI]
def ur39_0_0 {β:Type}(g:List RV->β):Int->β:=pr39_0_0.unc g
def E39_0g (a:Tf92_0):EnvK:=EnvK.of [⟨92,nt92,[⟨pa92_0,Fn92_0 a⟩]⟩] noSeq
def E39_0:EnvK:=E39_0g f92_0
theorem eo39_0:E39_0.Ok Pg:=EnvK.of_ok noSeq_ok ⟨⟨io92_0,trivial⟩,trivial⟩
def c39_0_7g:MCode:=(.seq (.seq (.region r39_10 [] (tO [0,3,11])) (.cond (.tmp 11) .skip (.exit 0))) (.seq (.block 1 (.seq (.region r39_15 [] (tO [0,3,19])) (.cond (.tmp 19) (.seq (.region r39_18 [] (tO [2])) .ret) .skip))) (.region r39_19 [] (tO [0,3]))))
def c39_0_7:MCode:=c39_0_7g
theorem g39_0_7:c39_0_7.Good Pg E39_0 sh39:=⟨⟨trivial,trivial,trivial⟩,⟨trivial,⟨trivial,trivial⟩,trivial⟩,trivial⟩
def S39_0_0g (c:Tf92_0)(α:Type)(b:Rows)(a:Int)(kn:Int->Op α)(k1:Int->Op α)(k2:Int->Bool->Op α):Op α:=
 cK (decide (a < ((List.length b:Nat):Int)))
 (rowK b a [.int .i64,.int .i64,.int .i64]
 (fun d e g=>c α d e g 0 0
 (fun h=>cK (!h)
 (k1 a)
 (kn (w64 (a+1))))))
 (k2 a (decide (a < ((List.length b:Nat):Int))))
def S39_0_0 (α:Type)(a:Rows)(b:Int)(kn:Int->Op α)(k1:Int->Op α)(k2:Int->Bool->Op α):Op α:=S39_0_0g f92_0 α a b kn k1 k2
def R39_0_0 (α:Type)(a:Rows)(k1:Int->Op α)(k2:Int->Bool->Op α):Nat->Int->Op α
 | 0,_=>none
 | n+1,b=>S39_0_0 α a b (R39_0_0 α a k1 k2 n) k1 k2
def L39_0_0 (α:Type)(a:Rows)(k1:Int->Op α)(k2:Int->Bool->Op α)(b:Int):Op α:=R39_0_0 α a k1 k2 fuel b
abbrev TL39_0_0:Type 1:=(α:Type)->Rows->(Int->Op α)->(Int->Bool->Op α)->Int->Op α
def F39_0_0 (v:TL39_0_0)(α:Type)(K:KT α):Rows->Int->Op α:=fun b c=>v α b (fun a=>u39_0_1 (K .ret) a) (fun a d=>u39_0_2 (K (.exit 0)) b a d) c
theorem r39_0_0g (d:Tf92_0)(α:Type)(K:KT α)(Kn:SK α)(a:Rows)(b:Int):u39_0_0 (fun σ=>runM Pg (E39_0g d) sh39 (c39_0_7g ) (thenK (fun σ=>tidyK td39_7 σ Kn) K) σ) a b=S39_0_0g d α a b (fun b=>u39_0_0 Kn a b) (fun c=>u39_0_1 (K .ret) c) (fun c e=>u39_0_2 (K (.exit 0)) a c e):=by kernel_rfl
theorem r39_0_0 (α:Type)(K:KT α)(Kn:SK α)(a:Rows)(b:Int):u39_0_0 (fun σ=>runM Pg E39_0 sh39 c39_0_7 (thenK (fun σ=>tidyK td39_7 σ Kn) K) σ) a b=S39_0_0 α a b (fun b=>u39_0_0 Kn a b) (fun c=>u39_0_1 (K .ret) c) (fun c d=>u39_0_2 (K (.exit 0)) a c d):=r39_0_0g f92_0 α K Kn a b
theorem t39_0_0 (α:Type)(K:KT α):∀ (n:Nat) (a:Rows) (b:Int),R39_0_0 α a (fun c=>u39_0_1 (K .ret) c) (fun c d=>u39_0_2 (K (.exit 0)) a c d) n b=u39_0_0 (loopT (runM Pg E39_0 sh39 c39_0_7) td39_7 K n) a b:=by
 intro n
 induction n with
 | zero=>intros;rfl
 | succ n ih=>intro a b;exact (congrArg (fun kn=>S39_0_0 α a b kn (fun c=>u39_0_1 (K .ret) c) (fun c d=>u39_0_2 (K (.exit 0)) a c d)) (funext fun b=>ih a b)).trans (r39_0_0 α K (loopT (runM Pg E39_0 sh39 c39_0_7) td39_7 K n) a b).symm
theorem m39_0_0:∀ (α:Type) (K:KT α),F39_0_0 L39_0_0 α K=p39_0_0.unc fun σ=>loopT (runM Pg E39_0 sh39 c39_0_7) td39_7 K fuel σ:=fun α K=>funext fun a=>funext fun b=>t39_0_0 α K fuel a b
abbrev Tf39_0:Type 1:=(α:Type)->Rows->(Int->Op α)->Op α
def f39_0g (b:TL39_0_0)(α:Type)(a:Rows)(k1:Int->Op α):Op α:=
 b α a
 (fun c=>k1 c)
 (fun d e=>k1 (-1)) (w64 ((w64 (Int.tdiv ((List.length a:Nat):Int) 2))+1))
def f39_0 (α:Type)(a:Rows)(k1:Int->Op α):Op α:=f39_0g L39_0_0 α a k1
def pa39_0:PT (List DV):=pA [pV false [dL]]
def Fn39_0 (v:Tf39_0)(α:Type)(k:RT α):Rows->Op α:=fun a=>v α a (fun b=>ur39_0_0 k b)
def cm39_0g (a:TL39_0_0):MCode:=(.seq (.region r39_2 [] (tO [0])) (.seq (.seq (.region r39_5 [] (tO [0,3])) (.block 0 (.loop td39_7 [⟨p39_0_0,F39_0_0 a⟩] c39_0_7))) (.seq (.region r39_21 [] (tO [2])) .ret)))
def cm39_0:MCode:=cm39_0g L39_0_0
theorem gm39_0:cm39_0.Good Pg E39_0 sh39:=⟨trivial,⟨trivial,g39_0_7,m39_0_0,trivial⟩,trivial,trivial⟩
theorem fm39_0g (b:Tf92_0)(a:TL39_0_0)(α:Type)(k:RT α):Fn39_0 (f39_0g a) α k=pa39_0.unc fun ds=>fnM Pg (E39_0g b) sh39 (cm39_0g a) rs39 k ds:=by kernel_rfl
theorem fm39_0:∀ (α:Type) (k:RT α),Fn39_0 f39_0 α k=pa39_0.unc fun ds=>fnM Pg E39_0 sh39 cm39_0 rs39 k ds:=fm39_0g f92_0 L39_0_0
theorem is39:FnIs Pg 39 nt39 tr39 tl39 cm39_0.erase rs39:=⟨Tryz.f39,Tryz.func39,rfl,by kernel_rfl,by kernel_rfl,by kernel_rfl⟩
theorem io39_0:InstOk Pg 39 nt39 ⟨pa39_0,Fn39_0 f39_0⟩:=inst_ok eo39_0 followsTry is39 ⟨⟨sh39,cm39_0,by kernel_rfl,gm39_0,fm39_0⟩⟩
abbrev nt148:Nat:=15
def sh148:SG:=[(4,iT),(6,iT),(9,iT),(11,iT)]
def r148_2:LA:=[oO 1 (.box (.tmp 0)),mK 2 0]
def r148_4:LA:=[fA 3 0 1,lD 4 3,fA 5 0 1,lD 6 5,bT 7 .mul 4 6,fA 8 1 1,lD 9 8,fA 10 1 1,lD 11 10,bT 12 .mul 9 11,bT 13 .add 7 12,oO 14 (.call 161 [.tmp 13]),oM 2 14]
def tr148:TG:=[tT 0 [1],tT 1 [2]]
def tl148:TG:=[]
def rs148:List AResV:=[.tmp 2]
def pr148_0_0:PT (List RV):=pRs [wI]
def ur148_0_0 {β:Type}(g:List RV->β):Int->β:=pr148_0_0.unc g
def E148_0g (a:Tf161_0):EnvK:=EnvK.of [⟨161,nt161,[⟨pa161_0,Fn161_0 a⟩]⟩] noSeq
def E148_0:EnvK:=E148_0g f161_0
theorem eo148_0:E148_0.Ok Pg:=EnvK.of_ok noSeq_ok ⟨⟨io161_0,trivial⟩,trivial⟩
abbrev Tf148_0:Type 1:=(α:Type)->Int->Int->(Int->Op α)->Op α
def f148_0g (c:Tf161_0)(α:Type)(a b:Int)(k1:Int->Op α):Op α:=
 c α (w64 ((w64 (a*a))+(w64 (b*b))))
 (fun d=>k1 d)
def f148_0 (α:Type)(a b:Int)(k1:Int->Op α):Op α:=f148_0g f161_0 α a b k1
def pa148_0:PT (List DV):=pA [pV true [(dI .i64),(dI .i64),(dI .i64)]]
def Fn148_0 (v:Tf148_0)(α:Type)(k:RT α):Int->Int->Int->Op α:=fun a b d=>v α a b (fun c=>ur148_0_0 k c)
def cm148_0g:MCode:=(.seq (.region r148_2 [] (tO [1])) (.seq (.region r148_4 [] (tO [2])) .ret))
def cm148_0:MCode:=cm148_0g
theorem gm148_0:cm148_0.Good Pg E148_0 sh148:=⟨trivial,trivial,trivial⟩
theorem fm148_0g (a:Tf161_0)(α:Type)(k:RT α):Fn148_0 (f148_0g a) α k=pa148_0.unc fun ds=>fnM Pg (E148_0g a) sh148 (cm148_0g ) rs148 k ds:=by kernel_rfl
theorem fm148_0:∀ (α:Type) (k:RT α),Fn148_0 f148_0 α k=pa148_0.unc fun ds=>fnM Pg E148_0 sh148 cm148_0 rs148 k ds:=fm148_0g f161_0
theorem is148:FnIs Pg 148 nt148 tr148 tl148 cm148_0.erase rs148:=⟨Tryz.f148,Tryz.func148,rfl,by kernel_rfl,by kernel_rfl,by kernel_rfl⟩
theorem io148_0:InstOk Pg 148 nt148 ⟨pa148_0,Fn148_0 f148_0⟩:=inst_ok eo148_0 followsTry is148 ⟨⟨sh148,cm148_0,by kernel_rfl,gm148_0,fm148_0⟩⟩
abbrev nt59:Nat:=22
def sh59:SG:=[(5,iT),(10,iT),(16,iT),(21,iS 3)]
def r59_2:LA:=[oO 1 (.box (.tmp 0)),oO 2 (.alloc (zI 3)),mK 3 0]
def r59_5:LA:=[fA 4 0 1,lD 5 4,oO 6 (.call 107 [.tmp 5]),oO 7 (.pure (oB (.unOp .not 4 (.tmp 6)) 4)),oM 8 7,oG 9 (.faddr 1 (.tmp 1)) 8 false,oG 10 (.load false 1 (.tmp 9)) 8 false,oG 11 (.call 107 [.tmp 10]) 8 false,oG 12 (.pure (oB (.unOp .not 4 (.tmp 11)) 4)) 8 false,oO 13 (.pick (.tmp 8) (.const (.bool true)) (.tmp 12)),oM 14 13,oG 15 (.faddr 2 (.tmp 1)) 14 false,oG 16 (.load false 1 (.tmp 15)) 14 false,oG 17 (.call 57 [(.tmp 16),(kI 0),(kI 67108864)]) 14 false,oG 18 (.pure (oB (.unOp .not 4 (.tmp 17)) 4)) 14 false,oO 19 (.pick (.tmp 14) (.const (.bool true)) (.tmp 18))]
def r59_8:LA:=[oO 20 (.build (zI 3) []),sD 3 2 20,mK 3 8]
def r59_10:LA:=[lA 21 3 1,sD 3 2 21,mK 3 0]
def tr59:TG:=[tT 0 [1,2],tT 1 [1,2,19],tT 2 [2,3],tT 3 [2,3]]
def tl59:TG:=[]
def rs59:List AResV:=[.cell 2 true 3,.tmp 3]
def p59_0_0:PT St:=pS [sP 1,sP 2] [eBox 1 (xs 3),eBox 2 (xs 3)]
def u59_0_0 {β:Type}(g:St->β):I6 β:=p59_0_0.unc g
def p59_0_1:PT St:=pS [sP 1,sP 2,sl 19 (aV false [(cD dB)])] [eBox 1 (xs 3),eBox 2 (xs 3)]
def u59_0_1 {β:Type}(g:St->β):Bool->I6 β:=p59_0_1.unc g
def pr59_0_0:PT (List RV):=pRs [pR true [rD (dI .i64),rD (dI .i64),rD (dI .i64)],wI]
def ur59_0_0 {β:Type}(g:List RV->β):I4 β:=pr59_0_0.unc g
def E59_0g (a:Tf107_0)(b:Tf57_0):EnvK:=EnvK.of [⟨107,nt107,[⟨pa107_0,Fn107_0 a⟩]⟩,⟨57,nt57,[⟨pa57_0,Fn57_0 b⟩]⟩] noSeq
def E59_0:EnvK:=E59_0g f107_0 f57_0
theorem eo59_0:E59_0.Ok Pg:=EnvK.of_ok noSeq_ok ⟨⟨io107_0,trivial⟩,⟨io57_0,trivial⟩,trivial⟩
def c59_0_4g:MCode:=(.region r59_5 [] (tO [1,2,19]))
def c59_0_4:MCode:=c59_0_4g
theorem g59_0_4:c59_0_4.Good Pg E59_0 sh59:=trivial
abbrev TJ59_0_0:Type 1:=(α:Type)->Int->Int->Int->(Bool->Op α)->Op α
def J59_0_0g (a:Tf107_0)(b:Tf57_0)(α:Type)(c d e:Int)(k1:Bool->Op α):Op α:=
 a α c
 (fun g=>cK (!g)
 (k1 true)
 (a α d
 (fun h=>cK (!h)
 (k1 true)
 (b α e 0 67108864
 (fun i=>k1 (!i))))))
def J59_0_0 (α:Type)(a b c:Int)(k1:Bool->Op α):Op α:=J59_0_0g f107_0 f57_0 α a b c k1
def F59_0_0 (v:TJ59_0_0)(α:Type)(K:KT α):I6 (Op α):=fun a b c d e g=>v α a b c (fun h=>u59_0_1 (K .normal) h a b c d e g)
theorem m59_0_0g (a:Tf107_0)(b:Tf57_0)(α:Type)(K:KT α):F59_0_0 (J59_0_0g a b) α K=p59_0_0.unc fun σ=>runM Pg (E59_0g a b) sh59 (c59_0_4g ) K σ:=by kernel_rfl
theorem m59_0_0:∀ (α:Type) (K:KT α),F59_0_0 J59_0_0 α K=p59_0_0.unc fun σ=>runM Pg E59_0 sh59 c59_0_4 K σ:=m59_0_0g f107_0 f57_0
abbrev Tf59_0:Type 1:=(α:Type)->Int->Int->Int->(I4 (Op α))->Op α
def f59_0g (d:TJ59_0_0)(α:Type)(a b c:Int)(k1:I4 (Op α)):Op α:=
 d α a b c
 (fun e=>cK e
 (k1 0 0 0 8)
 (k1 a b c 0))
def f59_0 (α:Type)(a b c:Int)(k1:I4 (Op α)):Op α:=f59_0g J59_0_0 α a b c k1
def pa59_0:PT (List DV):=pA [pV true [(dI .i64),(dI .i64),(dI .i64)]]
def Fn59_0 (v:Tf59_0)(α:Type)(k:RT α):Int->Int->Int->Op α:=fun a b c=>v α a b c (fun d e g h=>ur59_0_0 k d e g h)
def cm59_0g (a:TJ59_0_0):MCode:=(.seq (.region r59_2 [] (tO [1,2])) (.seq (.seq (.mark [⟨p59_0_0,F59_0_0 a⟩] c59_0_4) (.cond (.tmp 19) (.seq (.region r59_8 [] (tO [2,3])) .ret) .skip)) (.seq (.region r59_10 [] (tO [2,3])) .ret)))
def cm59_0:MCode:=cm59_0g J59_0_0
theorem gm59_0:cm59_0.Good Pg E59_0 sh59:=⟨trivial,⟨⟨g59_0_4,m59_0_0,trivial⟩,⟨trivial,trivial⟩,trivial⟩,trivial,trivial⟩
theorem fm59_0g (b:Tf107_0)(c:Tf57_0)(a:TJ59_0_0)(α:Type)(k:RT α):Fn59_0 (f59_0g a) α k=pa59_0.unc fun ds=>fnM Pg (E59_0g b c) sh59 (cm59_0g a) rs59 k ds:=by kernel_rfl
theorem fm59_0:∀ (α:Type) (k:RT α),Fn59_0 f59_0 α k=pa59_0.unc fun ds=>fnM Pg E59_0 sh59 cm59_0 rs59 k ds:=fm59_0g f107_0 f57_0 J59_0_0
theorem is59:FnIs Pg 59 nt59 tr59 tl59 cm59_0.erase rs59:=⟨Tryz.f59,Tryz.func59,rfl,by kernel_rfl,by kernel_rfl,by kernel_rfl⟩
theorem io59_0:InstOk Pg 59 nt59 ⟨pa59_0,Fn59_0 f59_0⟩:=inst_ok eo59_0 followsTry is59 ⟨⟨sh59,cm59_0,by kernel_rfl,gm59_0,fm59_0⟩⟩
abbrev nt37:Nat:=23
def sh37:SG:=[(17,[.cpx .f64,.int .i64]),(18,[.cpx .f64,.int .i64])]
def r37_2:LA:=[mK 2 0]
def r37_5:LA:=[oM 5 0,oO 6 (.len (.tmp 5)),oO 7 (.call 56 [.tmp 6]),oO 8 (.pure (oB (.unOp .not 4 (.tmp 7)) 4))]
def r37_8:LA:=[mK 2 12]
def r37_11:LA:=[mK 3 0]
def td37_13:OT:=(tO [0,3])
def r37_16:LA:=[oM 9 3,oM 10 0,oO 11 (.len (.tmp 10)),bT 12 .lss 9 11]
def r37_21:LA:=[oM 15 0,oM 16 3,oO 17 (.iaddr 2 none (.tmp 15) (.tmp 16)),lA 18 2 17,oO 19 (.call 88 [.tmp 18]),oM 4 19]
def r37_23:LA:=[oM 20 4,bK 21 .neq 20 0]
def r37_26:LA:=[oM 22 4,oM 2 22]
def r37_27:LA:=[oM 13 3,bK 14 .add 13 1,oM 3 14]
def r37_29:LA:=[mK 2 0]
def tr37:TG:=[tT 0 [0],tT 1 [0,8],tT 2 [2],tT 3 [0,3],tT 4 [0,3,12],tT 6 [0,3,4],tT 7 [0,3,4,21],tT 8 [2],tT 5 [0,3],tT 9 [2]]
def tl37:TG:=[tT 4 [0,3]]
def rs37:List AResV:=[.tmp 2]
def p37_0_0:PT St:=pS [sl 0 (aV false [(cD dL)]),sI 3] []
def u37_0_0 {β:Type}(g:St->β):Rows->Int->β:=p37_0_0.unc g
def p37_0_1:PT St:=pS [sI 2] []
def u37_0_1 {β:Type}(g:St->β):Int->β:=p37_0_1.unc g
def p37_0_2:PT St:=pS [sl 0 (aV false [(cD dL)]),sI 3,sl 12 (aV false [(cD dB)])] []
def u37_0_2 {β:Type}(g:St->β):Rows->Int->Bool->β:=p37_0_2.unc g
def pr37_0_0:PT (List RV):=pRs [wI]
def ur37_0_0 {β:Type}(g:List RV->β):Int->β:=pr37_0_0.unc g
def E37_0g (a:Tf56_0)(b:Tf88_0):EnvK:=EnvK.of [⟨56,nt56,[⟨pa56_0,Fn56_0 a⟩]⟩,⟨88,nt88,[⟨pa88_0,Fn88_0 b⟩]⟩] noSeq
def E37_0:EnvK:=E37_0g f56_0 f88_0
theorem eo37_0:E37_0.Ok Pg:=EnvK.of_ok noSeq_ok ⟨⟨io56_0,trivial⟩,⟨io88_0,trivial⟩,trivial⟩
def c37_0_13g:MCode:=(.seq (.seq (.region r37_16 [] (tO [0,3,12])) (.cond (.tmp 12) .skip (.exit 0))) (.seq (.block 1 (.seq (.region r37_21 [] (tO [0,3,4])) (.seq (.region r37_23 [] (tO [0,3,4,21])) (.cond (.tmp 21) (.seq (.region r37_26 [] (tO [2])) .ret) .skip)))) (.region r37_27 [] (tO [0,3]))))
def c37_0_13:MCode:=c37_0_13g
theorem g37_0_13:c37_0_13.Good Pg E37_0 sh37:=⟨⟨trivial,trivial,trivial⟩,⟨trivial,trivial,⟨trivial,trivial⟩,trivial⟩,trivial⟩
def S37_0_0g (d:Tf88_0)(α:Type)(b:Rows)(a:Int)(kn:Int->Op α)(k1:Int->Op α)(k2:Int->Bool->Op α):Op α:=
 cK (decide (a < ((List.length b:Nat):Int)))
 (rowK b a [.cpx .f64,.int .i64]
 (fun e g h=>d α e g h
 (fun c=>cK (c != 0)
 (k1 c)
 (kn (w64 (a+1))))))
 (k2 a (decide (a < ((List.length b:Nat):Int))))
def S37_0_0 (α:Type)(a:Rows)(b:Int)(kn:Int->Op α)(k1:Int->Op α)(k2:Int->Bool->Op α):Op α:=S37_0_0g f88_0 α a b kn k1 k2
def R37_0_0 (α:Type)(a:Rows)(k1:Int->Op α)(k2:Int->Bool->Op α):Nat->Int->Op α
 | 0,_=>none
 | n+1,b=>S37_0_0 α a b (R37_0_0 α a k1 k2 n) k1 k2
def L37_0_0 (α:Type)(a:Rows)(k1:Int->Op α)(k2:Int->Bool->Op α)(b:Int):Op α:=R37_0_0 α a k1 k2 fuel b
abbrev TL37_0_0:Type 1:=(α:Type)->Rows->(Int->Op α)->(Int->Bool->Op α)->Int->Op α
def F37_0_0 (v:TL37_0_0)(α:Type)(K:KT α):Rows->Int->Op α:=fun b c=>v α b (fun a=>u37_0_1 (K .ret) a) (fun a d=>u37_0_2 (K (.exit 0)) b a d) c
theorem r37_0_0g (e:Tf56_0)(d:Tf88_0)(α:Type)(K:KT α)(Kn:SK α)(a:Rows)(b:Int):u37_0_0 (fun σ=>runM Pg (E37_0g e d) sh37 (c37_0_13g ) (thenK (fun σ=>tidyK td37_13 σ Kn) K) σ) a b=S37_0_0g d α a b (fun b=>u37_0_0 Kn a b) (fun c=>u37_0_1 (K .ret) c) (fun c g=>u37_0_2 (K (.exit 0)) a c g):=by kernel_rfl
theorem r37_0_0 (α:Type)(K:KT α)(Kn:SK α)(a:Rows)(b:Int):u37_0_0 (fun σ=>runM Pg E37_0 sh37 c37_0_13 (thenK (fun σ=>tidyK td37_13 σ Kn) K) σ) a b=S37_0_0 α a b (fun b=>u37_0_0 Kn a b) (fun c=>u37_0_1 (K .ret) c) (fun c d=>u37_0_2 (K (.exit 0)) a c d):=r37_0_0g f56_0 f88_0 α K Kn a b
theorem t37_0_0 (α:Type)(K:KT α):∀ (n:Nat) (a:Rows) (b:Int),R37_0_0 α a (fun c=>u37_0_1 (K .ret) c) (fun c d=>u37_0_2 (K (.exit 0)) a c d) n b=u37_0_0 (loopT (runM Pg E37_0 sh37 c37_0_13) td37_13 K n) a b:=by
 intro n
 induction n with
 | zero=>intros;rfl
 | succ n ih=>intro a b;exact (congrArg (fun kn=>S37_0_0 α a b kn (fun c=>u37_0_1 (K .ret) c) (fun c d=>u37_0_2 (K (.exit 0)) a c d)) (funext fun b=>ih a b)).trans (r37_0_0 α K (loopT (runM Pg E37_0 sh37 c37_0_13) td37_13 K n) a b).symm
theorem m37_0_0:∀ (α:Type) (K:KT α),F37_0_0 L37_0_0 α K=p37_0_0.unc fun σ=>loopT (runM Pg E37_0 sh37 c37_0_13) td37_13 K fuel σ:=fun α K=>funext fun a=>funext fun b=>t37_0_0 α K fuel a b
abbrev Tf37_0:Type 1:=(α:Type)->Rows->(Int->Op α)->Op α
def f37_0g (b:TL37_0_0)(c:Tf56_0)(α:Type)(a:Rows)(k1:Int->Op α):Op α:=
 c α ((List.length a:Nat):Int)
 (fun d=>cK (!d)
 (k1 12)
 (b α a
 (fun e=>k1 e)
 (fun g h=>k1 0) 0))
def f37_0 (α:Type)(a:Rows)(k1:Int->Op α):Op α:=f37_0g L37_0_0 f56_0 α a k1
def pa37_0:PT (List DV):=pA [pV false [dL]]
def Fn37_0 (v:Tf37_0)(α:Type)(k:RT α):Rows->Op α:=fun a=>v α a (fun b=>ur37_0_0 k b)
def cm37_0g (a:TL37_0_0):MCode:=(.seq (.region r37_2 [] (tO [0])) (.seq (.seq (.region r37_5 [] (tO [0,8])) (.cond (.tmp 8) (.seq (.region r37_8 [] (tO [2])) .ret) .skip)) (.seq (.seq (.region r37_11 [] (tO [0,3])) (.block 0 (.loop td37_13 [⟨p37_0_0,F37_0_0 a⟩] c37_0_13))) (.seq (.region r37_29 [] (tO [2])) .ret))))
def cm37_0:MCode:=cm37_0g L37_0_0
theorem gm37_0:cm37_0.Good Pg E37_0 sh37:=⟨trivial,⟨trivial,⟨trivial,trivial⟩,trivial⟩,⟨trivial,g37_0_13,m37_0_0,trivial⟩,trivial,trivial⟩
theorem fm37_0g (a:Tf56_0)(c:Tf88_0)(b:TL37_0_0)(α:Type)(k:RT α):Fn37_0 (f37_0g b a) α k=pa37_0.unc fun ds=>fnM Pg (E37_0g a c) sh37 (cm37_0g b) rs37 k ds:=by kernel_rfl
theorem fm37_0:∀ (α:Type) (k:RT α),Fn37_0 f37_0 α k=pa37_0.unc fun ds=>fnM Pg E37_0 sh37 cm37_0 rs37 k ds:=fm37_0g f56_0 f88_0 L37_0_0
theorem is37:FnIs Pg 37 nt37 tr37 tl37 cm37_0.erase rs37:=⟨Tryz.f37,Tryz.func37,rfl,by kernel_rfl,by kernel_rfl,by kernel_rfl⟩
theorem io37_0:InstOk Pg 37 nt37 ⟨pa37_0,Fn37_0 f37_0⟩:=inst_ok eo37_0 followsTry is37 ⟨⟨sh37,cm37_0,by kernel_rfl,gm37_0,fm37_0⟩⟩
abbrev nt83:Nat:=50
def sh83:SG:=[(9,[.cpx .f64]),(15,[.cpx .f64]),(20,iS 2),(23,iS 2),(28,iT),(34,iT),(40,iT),(46,iT),(49,[.cpx .f64,.int .i64])]
def r83_2:LA:=[oO 2 (.box (.tmp 0)),oO 4 (.alloc [(.d (.v (.complex Go.FloatKind.f64 0 0))),(cI 0)])]
def r83_4:LA:=[fA 8 0 2,lD 9 8,oO 10 (.pure (oB (.call { callee:=.builtin .real,args:=#[(.tmp 9)],argTypes:=#[43] }) 117)),oO 11 (.pure (oB (.convert 117 3 (.tmp 10)) 3)),oM 12 1,oO 13 (.build [(cI 0),(cI 0)] [(0,1,(.tmp 11)),(1,1,(.tmp 12))]),fA 14 0 2,lD 15 14,oO 16 (.pure (oB (.call { callee:=.builtin .imag,args:=#[(.tmp 15)],argTypes:=#[43] }) 117)),oO 17 (.pure (oB (.convert 117 3 (.tmp 16)) 3)),oM 18 1,oO 19 (.build [(cI 0),(cI 0)] [(0,1,(.tmp 17)),(1,1,(.tmp 18))]),oO 5 (.alloc [(cI 0),(cI 0)]),oO 6 (.alloc [(cI 0),(cI 0)]),sD 2 5 13,sD 2 6 19]
def r83_6:LA:=[lA 20 2 5,oO 21 (.call 63 [.tmp 20]),oO 22 (.pure (oB (.convert 3 117 (.tmp 21)) 117)),lA 23 2 6,oO 24 (.call 63 [.tmp 23]),oO 25 (.pure (oB (.convert 3 117 (.tmp 24)) 117)),oO 26 (.pure (oB (.call { callee:=.builtin .complex,args:=#[(.tmp 22),(.tmp 25)],argTypes:=#[117,117] }) 43)),fA 27 1 2,lD 28 27,oM 29 1,oO 30 (.build [(cI 0),(cI 0)] [(0,1,(.tmp 28)),(1,1,(.tmp 29))]),oO 31 (.call 109 [.tmp 30]),oO 32 (.build [(.d (.v (.complex Go.FloatKind.f64 0 0))),(cI 0)] [(0,1,(.tmp 26)),(1,1,(.tmp 31))]),oO 7 (.alloc [(.d (.v (.complex Go.FloatKind.f64 0 0))),(cI 0)]),sD 2 7 32]
def r83_9:LA:=[fA 33 0 5,lD 34 33,oM 35 1,bT 36 .rem 34 35,bK 37 .neq 36 0,oM 38 37,oG 39 (.faddr 0 (.tmp 6)) 38 false,oG 40 (.load false 1 (.tmp 39)) 38 false,oG 41 (.mv (.tmp 1)) 38 false,oG 42 (.bin .rem 3 (.tmp 40) (.tmp 41)) 38 false,oG 43 (.bin .neq 3 (.tmp 42) (kI 0)) 38 false,oO 44 (.pick (.tmp 38) (.const (.bool true)) (.tmp 43))]
def r83_11:LA:=[fA 45 1 7,lD 46 45,bK 47 .add 46 1,fA 48 1 7,sD 1 48 47]
def r83_13:LA:=[lA 49 2 7,sD 2 4 49]
def tr83:TG:=[tT 0 [1,2,4],tT 1 [1,2,4,5,6],tT 2 [1,4,5,6,7],tT 3 [4,7,44],tT 4 [4,7],tT 5 [4]]
def tl83:TG:=[]
def rs83:List AResV:=[.cell 4 true 2]
def p83_0_0:PT St:=pS [sI 1,sP 4,sP 5,sP 6,sP 7] [eBox 4 [(cD (dX .f64)),xI],eBox 5 [xI,xI],eBox 6 [xI,xI],eBox 7 [(cD (dX .f64)),xI]]
def u83_0_0 {β:Type}(g:St->β):Int->Nat->Nat->Int->Int->Int->Int->Int->Nat->Nat->Int->β:=p83_0_0.unc g
def p83_0_1:PT St:=pS [sP 4,sP 7,sl 44 (aV false [(cD dB)])] [eBox 4 [(cD (dX .f64)),xI],eBox 7 [(cD (dX .f64)),xI]]
def u83_0_1 {β:Type}(g:St->β):Bool->Nat->Nat->Int->Nat->Nat->Int->β:=p83_0_1.unc g
def pr83_0_0:PT (List RV):=pRs [pR true [rD (dX .f64),rD (dI .i64)]]
def ur83_0_0 {β:Type}(g:List RV->β):Nat->Nat->Int->β:=pr83_0_0.unc g
def E83_0g (a:Tf63_0)(b:Tf109_0):EnvK:=EnvK.of [⟨63,nt63,[⟨pa63_0,Fn63_0 a⟩]⟩,⟨109,nt109,[⟨pa109_0,Fn109_0 b⟩]⟩] noSeq
def E83_0:EnvK:=E83_0g f63_0 f109_0
theorem eo83_0:E83_0.Ok Pg:=EnvK.of_ok noSeq_ok ⟨⟨io63_0,trivial⟩,⟨io109_0,trivial⟩,trivial⟩
def c83_0_8g:MCode:=(.region r83_9 [] (tO [4,7,44]))
def c83_0_8:MCode:=c83_0_8g
theorem g83_0_8:c83_0_8.Good Pg E83_0 sh83:=trivial
abbrev TJ83_0_0:Type 1:=(α:Type)->Int->Int->Int->(Bool->Op α)->Op α
def J83_0_0g (α:Type)(a b c:Int)(k1:Bool->Op α):Op α:=
 gK (a != 0) (cK ((Int.tmod b a) != 0)
 (k1 true)
 (gK (a != 0) (k1 ((Int.tmod c a) != 0))))
def J83_0_0 (α:Type)(a b c:Int)(k1:Bool->Op α):Op α:=J83_0_0g α a b c k1
def F83_0_0 (v:TJ83_0_0)(α:Type)(K:KT α):Int->Nat->Nat->Int->Int->Int->Int->Int->Nat->Nat->Int->Op α:=fun a b c d e m g o h i j=>v α a e g (fun l=>u83_0_1 (K .normal) l b c d h i j)
theorem m83_0_0g (a:Tf63_0)(b:Tf109_0)(α:Type)(K:KT α):F83_0_0 (J83_0_0g ) α K=p83_0_0.unc fun σ=>runM Pg (E83_0g a b) sh83 (c83_0_8g ) K σ:=by kernel_rfl
theorem m83_0_0:∀ (α:Type) (K:KT α),F83_0_0 J83_0_0 α K=p83_0_0.unc fun σ=>runM Pg E83_0 sh83 c83_0_8 K σ:=m83_0_0g f63_0 f109_0
abbrev Tf83_0:Type 1:=(α:Type)->Nat->Nat->Int->Int->(Nat->Nat->Int->Op α)->Op α
def f83_0g (i:TJ83_0_0)(j:Tf109_0)(b:Tf63_0)(α:Type)(l m:Nat)(o a:Int)(k1:Nat->Nat->Int->Op α):Op α:=
 ivK (f2i .f64 l .i64)
 (fun c=>ivK (f2i .f64 m .i64)
 (fun d=>b α c a
 (fun e=>b α d a
 (fun g=>j α o a
 (fun h=>i α a c d
 (fun p=>cK p
 (k1 (FloatKind.nearest .f64 e) (FloatKind.nearest .f64 g) (w64 (h+1)))
 (k1 (FloatKind.nearest .f64 e) (FloatKind.nearest .f64 g) h)))))))
def f83_0 (α:Type)(a b:Nat)(c d:Int)(k1:Nat->Nat->Int->Op α):Op α:=f83_0g J83_0_0 f109_0 f63_0 α a b c d k1
def pa83_0:PT (List DV):=pA [pV true [(dX .f64),(dI .i64)],vI]
def Fn83_0 (v:Tf83_0)(α:Type)(k:RT α):Nat->Nat->Int->Int->Op α:=fun a b c d=>v α a b c d (fun e g h=>ur83_0_0 k e g h)
def cm83_0g (a:TJ83_0_0):MCode:=(.seq (.region r83_2 [] (tO [1,2,4])) (.seq (.region r83_4 [(1,12),(7,12),(1,13),(7,13),(12,13),(7,14)] (tO [1,2,4,5,6])) (.seq (.region r83_6 [(1,3),(1,8),(4,8),(0,13),(1,13),(3,13),(4,13),(8,13),(11,13)] (tO [1,4,5,6,7])) (.seq (.seq (.mark [⟨p83_0_0,F83_0_0 a⟩] c83_0_8) (.cond (.tmp 44) (.region r83_11 [] (tO [4,7])) .skip)) (.seq (.region r83_13 [] (tO [4])) .ret)))))
def cm83_0:MCode:=cm83_0g J83_0_0
theorem gm83_0:cm83_0.Good Pg E83_0 sh83:=⟨trivial,trivial,trivial,⟨⟨g83_0_8,m83_0_0,trivial⟩,trivial,trivial⟩,trivial,trivial⟩
theorem fm83_0g (a:Tf63_0)(b:Tf109_0)(c:TJ83_0_0)(α:Type)(k:RT α):Fn83_0 (f83_0g c b a) α k=pa83_0.unc fun ds=>fnM Pg (E83_0g a b) sh83 (cm83_0g c) rs83 k ds:=by kernel_rfl
theorem fm83_0:∀ (α:Type) (k:RT α),Fn83_0 f83_0 α k=pa83_0.unc fun ds=>fnM Pg E83_0 sh83 cm83_0 rs83 k ds:=fm83_0g f63_0 f109_0 J83_0_0
theorem is83:FnIs Pg 83 nt83 tr83 tl83 cm83_0.erase rs83:=⟨Tryz.f83,Tryz.func83,rfl,by kernel_rfl,by kernel_rfl,by kernel_rfl⟩
theorem io83_0:InstOk Pg 83 nt83 ⟨pa83_0,Fn83_0 f83_0⟩:=inst_ok eo83_0 followsTry is83 ⟨⟨sh83,cm83_0,by kernel_rfl,gm83_0,fm83_0⟩⟩
abbrev nt146:Nat:=14
def sh146:SG:=[]
def r146_2:LA:=[mK 2 0]
def r146_4:LA:=[oM 4 0,oO 5 (.call 160 [.tmp 4]),oM 3 5]
def r146_7:LA:=[oM 6 3,oM 7 3,bT 8 .mul 6 7,oM 9 0,bT 10 .lss 8 9]
def r146_9:LA:=[oM 11 3,bK 12 .add 11 1,oM 3 12]
def r146_11:LA:=[oM 13 3,oM 2 13]
def tr146:TG:=[tT 0 [0],tT 1 [0,3],tT 2 [3,10],tT 3 [3],tT 4 [2]]
def tl146:TG:=[]
def rs146:List AResV:=[.tmp 2]
def pr146_0_0:PT (List RV):=pRs [wI]
def ur146_0_0 {β:Type}(g:List RV->β):Int->β:=pr146_0_0.unc g
def E146_0g (a:Tf160_0):EnvK:=EnvK.of [⟨160,nt160,[⟨pa160_0,Fn160_0 a⟩]⟩] noSeq
def E146_0:EnvK:=E146_0g f160_0
theorem eo146_0:E146_0.Ok Pg:=EnvK.of_ok noSeq_ok ⟨⟨io160_0,trivial⟩,trivial⟩
abbrev Tf146_0:Type 1:=(α:Type)->Int->(Int->Op α)->Op α
def f146_0g (c:Tf160_0)(α:Type)(b:Int)(k1:Int->Op α):Op α:=
 c α b
 (fun a=>cK (decide ((w64 (a*a)) < b))
 (k1 (w64 (a+1)))
 (k1 a))
def f146_0 (α:Type)(a:Int)(k1:Int->Op α):Op α:=f146_0g f160_0 α a k1
def pa146_0:PT (List DV):=pA [vI]
def Fn146_0 (v:Tf146_0)(α:Type)(k:RT α):Int->Op α:=fun a=>v α a (fun b=>ur146_0_0 k b)
def cm146_0g:MCode:=(.seq (.region r146_2 [] (tO [0])) (.seq (.region r146_4 [] (tO [0,3])) (.seq (.seq (.region r146_7 [] (tO [3,10])) (.cond (.tmp 10) (.region r146_9 [] (tO [3])) .skip)) (.seq (.region r146_11 [] (tO [2])) .ret))))
def cm146_0:MCode:=cm146_0g
theorem gm146_0:cm146_0.Good Pg E146_0 sh146:=⟨trivial,trivial,⟨trivial,trivial,trivial⟩,trivial,trivial⟩
theorem fm146_0g (a:Tf160_0)(α:Type)(k:RT α):Fn146_0 (f146_0g a) α k=pa146_0.unc fun ds=>fnM Pg (E146_0g a) sh146 (cm146_0g ) rs146 k ds:=by kernel_rfl
theorem fm146_0:∀ (α:Type) (k:RT α),Fn146_0 f146_0 α k=pa146_0.unc fun ds=>fnM Pg E146_0 sh146 cm146_0 rs146 k ds:=fm146_0g f160_0
theorem is146:FnIs Pg 146 nt146 tr146 tl146 cm146_0.erase rs146:=⟨Tryz.f146,Tryz.func146,rfl,by kernel_rfl,by kernel_rfl,by kernel_rfl⟩
theorem io146_0:InstOk Pg 146 nt146 ⟨pa146_0,Fn146_0 f146_0⟩:=inst_ok eo146_0 followsTry is146 ⟨⟨sh146,cm146_0,by kernel_rfl,gm146_0,fm146_0⟩⟩
abbrev nt33:Nat:=35
def sh33:SG:=[(15,iT),(16,iT),(22,iT),(23,iT),(29,iT),(30,iT)]
def r33_2:LA:=[oO 2 (.mv (.const (.slice none 0 0)))]
def r33_4:LA:=[oO 3 (.mv (.const (.slice none 0 0)))]
def r33_7:LA:=[mK 4 0]
def td33_9:OT:=(some ⟨[0,3,4],true,[⟨false,3,0,20003,2⟩],[]⟩)
def r33_12:LA:=[oM 5 4,bK 6 .add 5 2,oM 7 0,oO 8 (.len (.tmp 7)),bT 9 .lss 6 8]
def r33_16:LA:=[oM 12 3,oM 13 0,oM 14 4,oO 15 (.iaddr 1 none (.tmp 13) (.tmp 14)),lD 16 15,oO 17 (.pure (oB (.call { callee:=.builtin .min,args:=#[(kI 1099511627776),(.tmp 16)],argTypes:=#[3,3] }) 3)),oO 18 (.pure (oB (.call { callee:=.builtin .max,args:=#[(kI (-1099511627776)),(.tmp 17)],argTypes:=#[3,3] }) 3)),oM 19 0,oM 20 4,bK 21 .add 20 1,oO 22 (.iaddr 1 none (.tmp 19) (.tmp 21)),lD 23 22,oO 24 (.pure (oB (.call { callee:=.builtin .min,args:=#[(kI 1099511627776),(.tmp 23)],argTypes:=#[3,3] }) 3)),oO 25 (.pure (oB (.call { callee:=.builtin .max,args:=#[(kI (-1099511627776)),(.tmp 24)],argTypes:=#[3,3] }) 3)),oM 26 0,oM 27 4,bK 28 .add 27 2,oO 29 (.iaddr 1 none (.tmp 26) (.tmp 28)),lD 30 29,oO 31 (.call 49 [(.tmp 18),(.tmp 25),(.tmp 30)]),oO 32 (.bslice 2 1 [(.v (.complex Go.FloatKind.f64 0 0)),(.v (.int .i64 0))] [(0,(.tmp 31))]),oO 33 (.append 2 24 (.tmp 12) (.tmp 32)),oM 3 33]
def r33_17:LA:=[oM 10 4,bK 11 .add 10 3,oM 4 11]
def r33_19:LA:=[oM 34 3,oM 2 34]
def tr33:TG:=[tT 0 [0],tT 1 [0,3],tT 2 [0,3,4],tT 3 [0,3,4,9],tT 5 [0,3,4],tT 4 [0,3,4],(6,⟨[2],true,[⟨false,2,0,20002,2⟩],[]⟩)]
def tl33:TG:=[(3,⟨[0,3,4],true,[⟨false,3,0,20003,2⟩],[]⟩)]
def rs33:List AResV:=[.tmp 2]
def p33_0_0:PT St:=pS [sl 0 (aV false [(cD dL)]),sl 3 (aV false [(cRef 20003)]),sI 4] [eOwn 20003 2]
def u33_0_0 {β:Type}(g:St->β):Rows->Int->Rows->β:=p33_0_0.unc g
def p33_0_1:PT St:=pS [sl 0 (aV false [(cD dL)]),sl 3 (aV false [(cRef 20003)]),sI 4,sl 9 (aV false [(cD dB)])] [eOwn 20003 2]
def u33_0_1 {β:Type}(g:St->β):Rows->Int->Bool->Rows->β:=p33_0_1.unc g
def pr33_0_0:PT (List RV):=pRs [pR false [rO 2]]
def ur33_0_0 {β:Type}(g:List RV->β):Rows->β:=pr33_0_0.unc g
def E33_0g (a:Tf49_0):EnvK:=EnvK.of [⟨49,nt49,[⟨pa49_0,Fn49_0 a⟩]⟩] noSeq
def E33_0:EnvK:=E33_0g f49_0
theorem eo33_0:E33_0.Ok Pg:=EnvK.of_ok noSeq_ok ⟨⟨io49_0,trivial⟩,trivial⟩
def c33_0_9g:MCode:=(.seq (.seq (.region r33_12 [] (tO [0,3,4,9])) (.cond (.tmp 9) .skip (.exit 0))) (.seq (.block 1 (.region r33_16 [] (tO [0,3,4]))) (.region r33_17 [] (tO [0,3,4]))))
def c33_0_9:MCode:=c33_0_9g
theorem g33_0_9:c33_0_9.Good Pg E33_0 sh33:=⟨⟨trivial,trivial,trivial⟩,trivial,trivial⟩
def S33_0_0g (j:Tf49_0)(α:Type)(b:Rows)(a:Int)(e:Rows)(kn:Int->Rows->Op α)(k1:Int->Bool->Rows->Op α):Op α:=
 cK (decide ((w64 (a+2)) < ((List.length b:Nat):Int)))
 (rowK b a [.int .i64]
 (fun c=>rowK b (w64 (a+1)) [.int .i64]
 (fun d=>rowK b (w64 (a+2)) [.int .i64]
 (fun g=>j α (if (if c < 1099511627776 then c else 1099511627776) > (-1099511627776) then (if c < 1099511627776 then c else 1099511627776) else (-1099511627776)) (if (if d < 1099511627776 then d else 1099511627776) > (-1099511627776) then (if d < 1099511627776 then d else 1099511627776) else (-1099511627776))
 (fun h i=>gK (apOk 2 24 e [[DC.v (.complex .f64 h i),DC.v (.int .i64 g)]]) (kn (w64 (a+3)) (e++[[DC.v (.complex .f64 h i),DC.v (.int .i64 g)]])))))))
 (k1 a (decide ((w64 (a+2)) < ((List.length b:Nat):Int))) e)
def S33_0_0 (α:Type)(a:Rows)(b:Int)(c:Rows)(kn:Int->Rows->Op α)(k1:Int->Bool->Rows->Op α):Op α:=S33_0_0g f49_0 α a b c kn k1
def R33_0_0 (α:Type)(a:Rows)(k1:Int->Bool->Rows->Op α):Nat->Int->Rows->Op α
 | 0,_,_=>none
 | n+1,b,c=>S33_0_0 α a b c (R33_0_0 α a k1 n) k1
def L33_0_0 (α:Type)(a:Rows)(k1:Int->Bool->Rows->Op α)(b:Int)(c:Rows):Op α:=R33_0_0 α a k1 fuel b c
abbrev TL33_0_0:Type 1:=(α:Type)->Rows->(Int->Bool->Rows->Op α)->Int->Rows->Op α
def F33_0_0 (v:TL33_0_0)(α:Type)(K:KT α):Rows->Int->Rows->Op α:=fun a b c=>v α a (fun d e g=>u33_0_1 (K (.exit 0)) a d e g) b c
theorem r33_0_0g (d:Tf49_0)(α:Type)(K:KT α)(Kn:SK α)(a:Rows)(b:Int)(c:Rows):u33_0_0 (fun σ=>runM Pg (E33_0g d) sh33 (c33_0_9g ) (thenK (fun σ=>tidyK td33_9 σ Kn) K) σ) a b c=S33_0_0g d α a b c (fun b c=>u33_0_0 Kn a b c) (fun e g h=>u33_0_1 (K (.exit 0)) a e g h):=by kernel_rfl
theorem r33_0_0 (α:Type)(K:KT α)(Kn:SK α)(a:Rows)(b:Int)(c:Rows):u33_0_0 (fun σ=>runM Pg E33_0 sh33 c33_0_9 (thenK (fun σ=>tidyK td33_9 σ Kn) K) σ) a b c=S33_0_0 α a b c (fun b c=>u33_0_0 Kn a b c) (fun d e g=>u33_0_1 (K (.exit 0)) a d e g):=r33_0_0g f49_0 α K Kn a b c
theorem t33_0_0 (α:Type)(K:KT α):∀ (n:Nat) (a:Rows) (b:Int) (c:Rows),R33_0_0 α a (fun d e g=>u33_0_1 (K (.exit 0)) a d e g) n b c=u33_0_0 (loopT (runM Pg E33_0 sh33 c33_0_9) td33_9 K n) a b c:=by
 intro n
 induction n with
 | zero=>intros;rfl
 | succ n ih=>intro a b c;exact (congrArg (fun kn=>S33_0_0 α a b c kn (fun d e g=>u33_0_1 (K (.exit 0)) a d e g)) (funext fun b=>funext fun c=>ih a b c)).trans (r33_0_0 α K (loopT (runM Pg E33_0 sh33 c33_0_9) td33_9 K n) a b c).symm
theorem m33_0_0:∀ (α:Type) (K:KT α),F33_0_0 L33_0_0 α K=p33_0_0.unc fun σ=>loopT (runM Pg E33_0 sh33 c33_0_9) td33_9 K fuel σ:=fun α K=>by funext a b c;exact t33_0_0 α K fuel a b c
abbrev Tf33_0:Type 1:=(α:Type)->Rows->(Rows->Op α)->Op α
def f33_0g (a:TL33_0_0)(α:Type)(b:Rows)(k1:Rows->Op α):Op α:=
 a α b
 (fun d e c=>k1 c) 0 ([]:Rows)
def f33_0 (α:Type)(a:Rows)(k1:Rows->Op α):Op α:=f33_0g L33_0_0 α a k1
def pa33_0:PT (List DV):=pA [pV false [dL]]
def Fn33_0 (v:Tf33_0)(α:Type)(k:RT α):Rows->Op α:=fun a=>v α a (fun b=>ur33_0_0 k b)
def cm33_0g (a:TL33_0_0):MCode:=(.seq (.region r33_2 [] (tO [0])) (.seq (.region r33_4 [] (tO [0,3])) (.seq (.seq (.region r33_7 [] (tO [0,3,4])) (.block 0 (.loop td33_9 [⟨p33_0_0,F33_0_0 a⟩] c33_0_9))) (.seq (.region r33_19 [] (some ⟨[2],true,[⟨false,2,0,20002,2⟩],[]⟩)) .ret))))
def cm33_0:MCode:=cm33_0g L33_0_0
theorem gm33_0:cm33_0.Good Pg E33_0 sh33:=⟨trivial,trivial,⟨trivial,g33_0_9,m33_0_0,trivial⟩,trivial,trivial⟩
theorem fm33_0g (b:Tf49_0)(a:TL33_0_0)(α:Type)(k:RT α):Fn33_0 (f33_0g a) α k=pa33_0.unc fun ds=>fnM Pg (E33_0g b) sh33 (cm33_0g a) rs33 k ds:=by kernel_rfl
theorem fm33_0:∀ (α:Type) (k:RT α),Fn33_0 f33_0 α k=pa33_0.unc fun ds=>fnM Pg E33_0 sh33 cm33_0 rs33 k ds:=fm33_0g f49_0 L33_0_0
theorem is33:FnIs Pg 33 nt33 tr33 tl33 cm33_0.erase rs33:=⟨Tryz.f33,Tryz.func33,rfl,by kernel_rfl,by kernel_rfl,by kernel_rfl⟩
theorem io33_0:InstOk Pg 33 nt33 ⟨pa33_0,Fn33_0 f33_0⟩:=inst_ok eo33_0 followsTry is33 ⟨⟨sh33,cm33_0,by kernel_rfl,gm33_0,fm33_0⟩⟩
abbrev nt128:Nat:=12
def sh128:SG:=[]
def r128_2:LA:=[oO 2 (.mv (.const (.bool false)))]
def r128_4:LA:=[oM 3 0,oO 4 (.call 150 [.tmp 3]),oM 5 0,oO 6 (.bin .eql 117 (.tmp 4) (.tmp 5)),oM 7 6,oG 8 (.mv (.tmp 0)) 7 true,oG 9 (.call 151 [(.tmp 8),(kI 0)]) 7 true,oG 10 (.pure (oB (.unOp .not 4 (.tmp 9)) 4)) 7 true,oO 11 (.pick (.tmp 7) (.tmp 10) (.const (.bool false))),oM 2 11]
def tr128:TG:=[tT 0 [0],tT 1 [2]]
def tl128:TG:=[]
def rs128:List AResV:=[.tmp 2]
def pr128_0_0:PT (List RV):=pRs [pR false [rD dB]]
def ur128_0_0 {β:Type}(g:List RV->β):Bool->β:=pr128_0_0.unc g
def E128_0g (a:Tf150_0)(b:Tf151_0):EnvK:=EnvK.of [⟨150,nt150,[⟨pa150_0,Fn150_0 a⟩]⟩,⟨151,nt151,[⟨pa151_0,Fn151_0 b⟩]⟩] noSeq
def E128_0:EnvK:=E128_0g f150_0 f151_0
theorem eo128_0:E128_0.Ok Pg:=EnvK.of_ok noSeq_ok ⟨⟨io150_0,trivial⟩,⟨io151_0,trivial⟩,trivial⟩
abbrev Tf128_0:Type 1:=(α:Type)->Nat->(Bool->Op α)->Op α
def f128_0g (b:Tf150_0)(c:Tf151_0)(α:Type)(a:Nat)(k1:Bool->Op α):Op α:=
 b α a
 (k1 false)
 (fun d=>cK ((FloatKind.format .f64).order d a == some Ordering.eq)
 (c α a 0
 (fun e=>k1 (!e)))
 (k1 false))
def f128_0 (α:Type)(a:Nat)(k1:Bool->Op α):Op α:=f128_0g f150_0 f151_0 α a k1
def pa128_0:PT (List DV):=pA [pV false [(dF .f64)]]
def Fn128_0 (v:Tf128_0)(α:Type)(k:RT α):Nat->Op α:=fun a=>v α a (fun b=>ur128_0_0 k b)
def cm128_0g:MCode:=(.seq (.region r128_2 [] (tO [0])) (.seq (.region r128_4 [] (tO [2])) .ret))
def cm128_0:MCode:=cm128_0g
theorem gm128_0:cm128_0.Good Pg E128_0 sh128:=⟨trivial,trivial,trivial⟩
theorem fm128_0g (a:Tf150_0)(b:Tf151_0)(α:Type)(k:RT α):Fn128_0 (f128_0g a b) α k=pa128_0.unc fun ds=>fnM Pg (E128_0g a b) sh128 (cm128_0g ) rs128 k ds:=by kernel_rfl
theorem fm128_0:∀ (α:Type) (k:RT α),Fn128_0 f128_0 α k=pa128_0.unc fun ds=>fnM Pg E128_0 sh128 cm128_0 rs128 k ds:=fm128_0g f150_0 f151_0
theorem is128:FnIs Pg 128 nt128 tr128 tl128 cm128_0.erase rs128:=⟨Tryz.f128,Tryz.func128,rfl,by kernel_rfl,by kernel_rfl,by kernel_rfl⟩
theorem io128_0:InstOk Pg 128 nt128 ⟨pa128_0,Fn128_0 f128_0⟩:=inst_ok eo128_0 followsTry is128 ⟨⟨sh128,cm128_0,by kernel_rfl,gm128_0,fm128_0⟩⟩
abbrev nt157:Nat:=29
def sh157:SG:=[(6,iT),(12,iT),(18,iT),(24,iS 2),(27,iT)]
def r157_2:LA:=[oO 1 (.box (.tmp 0)),oO 2 (.alloc [(.d (.v (.complex Go.FloatKind.f64 0 0))),(cI 0)]),mK 3 0]
def r157_5:LA:=[fA 4 0 1,fA 5 0 4,lD 6 5,oO 7 (.call 137 [(.tmp 6),(kI 67108864)]),oO 8 (.pure (oB (.unOp .not 4 (.tmp 7)) 4)),oM 9 8,oG 10 (.faddr 0 (.tmp 1)) 9 false,oG 11 (.faddr 1 (.tmp 10)) 9 false,oG 12 (.load false 1 (.tmp 11)) 9 false,oG 13 (.call 137 [(.tmp 12),(kI 67108864)]) 9 false,oG 14 (.pure (oB (.unOp .not 4 (.tmp 13)) 4)) 9 false,oO 15 (.pick (.tmp 9) (.const (.bool true)) (.tmp 14)),oM 16 15,oG 17 (.faddr 2 (.tmp 1)) 16 false,oG 18 (.load false 1 (.tmp 17)) 16 false,oG 19 (.call 127 [(.tmp 18),(kI 0),(kI 67108864)]) 16 false,oG 20 (.pure (oB (.unOp .not 4 (.tmp 19)) 4)) 16 false,oO 21 (.pick (.tmp 16) (.const (.bool true)) (.tmp 20))]
def r157_8:LA:=[oO 22 (.build [(.d (.v (.complex Go.FloatKind.f64 0 0))),(cI 0)] []),sD 2 2 22,mK 3 8]
def r157_10:LA:=[fA 23 0 1,lA 24 2 23,oO 25 (.call 166 [.tmp 24]),fA 26 2 1,lD 27 26,oO 28 (.build [(.d (.v (.complex Go.FloatKind.f64 0 0))),(cI 0)] [(0,1,(.tmp 25)),(1,1,(.tmp 27))]),sD 2 2 28,mK 3 0]
def tr157:TG:=[tT 0 [1,2],tT 1 [1,2,21],tT 2 [2,3],tT 3 [2,3]]
def tl157:TG:=[]
def rs157:List AResV:=[.cell 2 true 2,.tmp 3]
def p157_0_0:PT St:=pS [sP 1,sP 2] [eBox 1 (xs 3),eBox 2 [(cD (dX .f64)),xI]]
def u157_0_0 {β:Type}(g:St->β):Int->Int->Int->Nat->Nat->Int->β:=p157_0_0.unc g
def p157_0_1:PT St:=pS [sP 1,sP 2,sl 21 (aV false [(cD dB)])] [eBox 1 (xs 3),eBox 2 [(cD (dX .f64)),xI]]
def u157_0_1 {β:Type}(g:St->β):Bool->Int->Int->Int->Nat->Nat->Int->β:=p157_0_1.unc g
def pr157_0_0:PT (List RV):=pRs [pR true [rD (dX .f64),rD (dI .i64)],wI]
def ur157_0_0 {β:Type}(g:List RV->β):Nat->Nat->Int->Int->β:=pr157_0_0.unc g
def E157_0g (a:Tf137_0)(b:Tf127_0)(c:Tf166_0):EnvK:=EnvK.of [⟨137,nt137,[⟨pa137_0,Fn137_0 a⟩]⟩,⟨127,nt127,[⟨pa127_0,Fn127_0 b⟩]⟩,⟨166,nt166,[⟨pa166_0,Fn166_0 c⟩]⟩] noSeq
def E157_0:EnvK:=E157_0g f137_0 f127_0 f166_0
theorem eo157_0:E157_0.Ok Pg:=EnvK.of_ok noSeq_ok ⟨⟨io137_0,trivial⟩,⟨io127_0,trivial⟩,⟨io166_0,trivial⟩,trivial⟩
def c157_0_4g:MCode:=(.region r157_5 [] (tO [1,2,21]))
def c157_0_4:MCode:=c157_0_4g
theorem g157_0_4:c157_0_4.Good Pg E157_0 sh157:=trivial
abbrev TJ157_0_0:Type 1:=(α:Type)->Int->Int->Int->(Bool->Op α)->Op α
def J157_0_0g (b:Tf127_0)(a:Tf137_0)(α:Type)(c d e:Int)(k1:Bool->Op α):Op α:=
 a α c 67108864
 (fun g=>cK (!g)
 (k1 true)
 (a α d 67108864
 (fun h=>cK (!h)
 (k1 true)
 (b α e 0 67108864
 (fun i=>k1 (!i))))))
def J157_0_0 (α:Type)(a b c:Int)(k1:Bool->Op α):Op α:=J157_0_0g f127_0 f137_0 α a b c k1
def F157_0_0 (v:TJ157_0_0)(α:Type)(K:KT α):Int->Int->Int->Nat->Nat->Int->Op α:=fun a b c d e g=>v α a b c (fun h=>u157_0_1 (K .normal) h a b c d e g)
theorem m157_0_0g (a:Tf137_0)(b:Tf127_0)(c:Tf166_0)(α:Type)(K:KT α):F157_0_0 (J157_0_0g b a) α K=p157_0_0.unc fun σ=>runM Pg (E157_0g a b c) sh157 (c157_0_4g ) K σ:=by kernel_rfl
theorem m157_0_0:∀ (α:Type) (K:KT α),F157_0_0 J157_0_0 α K=p157_0_0.unc fun σ=>runM Pg E157_0 sh157 c157_0_4 K σ:=m157_0_0g f137_0 f127_0 f166_0
abbrev Tf157_0:Type 1:=(α:Type)->Int->Int->Int->(Nat->Nat->Int->Int->Op α)->Op α
def f157_0g (d:TJ157_0_0)(e:Tf166_0)(α:Type)(a b c:Int)(k1:Nat->Nat->Int->Int->Op α):Op α:=
 d α a b c
 (fun g=>cK g
 (k1 0 0 0 8)
 (e α a b
 (fun h i=>k1 h i c 0)))
def f157_0 (α:Type)(a b c:Int)(k1:Nat->Nat->Int->Int->Op α):Op α:=f157_0g J157_0_0 f166_0 α a b c k1
def pa157_0:PT (List DV):=pA [pV true [(dI .i64),(dI .i64),(dI .i64)]]
def Fn157_0 (v:Tf157_0)(α:Type)(k:RT α):Int->Int->Int->Op α:=fun a b c=>v α a b c (fun d e g h=>ur157_0_0 k d e g h)
def cm157_0g (a:TJ157_0_0):MCode:=(.seq (.region r157_2 [] (tO [1,2])) (.seq (.seq (.mark [⟨p157_0_0,F157_0_0 a⟩] c157_0_4) (.cond (.tmp 21) (.seq (.region r157_8 [] (tO [2,3])) .ret) .skip)) (.seq (.region r157_10 [(2,4)] (tO [2,3])) .ret)))
def cm157_0:MCode:=cm157_0g J157_0_0
theorem gm157_0:cm157_0.Good Pg E157_0 sh157:=⟨trivial,⟨⟨g157_0_4,m157_0_0,trivial⟩,⟨trivial,trivial⟩,trivial⟩,trivial,trivial⟩
theorem fm157_0g (c:Tf137_0)(d:Tf127_0)(a:Tf166_0)(b:TJ157_0_0)(α:Type)(k:RT α):Fn157_0 (f157_0g b a) α k=pa157_0.unc fun ds=>fnM Pg (E157_0g c d a) sh157 (cm157_0g b) rs157 k ds:=by kernel_rfl
theorem fm157_0:∀ (α:Type) (k:RT α),Fn157_0 f157_0 α k=pa157_0.unc fun ds=>fnM Pg E157_0 sh157 cm157_0 rs157 k ds:=fm157_0g f137_0 f127_0 f166_0 J157_0_0
theorem is157:FnIs Pg 157 nt157 tr157 tl157 cm157_0.erase rs157:=⟨Tryz.f157,Tryz.func157,rfl,by kernel_rfl,by kernel_rfl,by kernel_rfl⟩
theorem io157_0:InstOk Pg 157 nt157 ⟨pa157_0,Fn157_0 f157_0⟩:=inst_ok eo157_0 followsTry is157 ⟨⟨sh157,cm157_0,by kernel_rfl,gm157_0,fm157_0⟩⟩
abbrev nt173:Nat:=24
def sh173:SG:=[(7,iS 2),(8,iS 2),(10,iS 2),(14,iT),(19,iT)]
def r173_2:LA:=[oO 2 (.box (.tmp 0)),oO 3 (.box (.tmp 1)),oO 4 (.alloc [(cI 0),(cI 0)])]
def r173_4:LA:=[lA 7 2 2,lA 8 2 3,oO 9 (.call 155 [(.tmp 7),(.tmp 8)]),oO 5 (.alloc [(cI 0),(cI 0)]),sD 2 5 9]
def r173_6:LA:=[lA 10 2 5,oO 11 (.call 131 [.tmp 10]),oO 12 (.call 160 [.tmp 11]),oM 6 12]
def r173_8:LA:=[fA 13 0 5,lD 14 13,bK 15 .mul 14 67108864,oM 16 6,bT 17 .quo 15 16,fA 18 1 5,lD 19 18,bK 20 .mul 19 67108864,oM 21 6,bT 22 .quo 20 21,oO 23 (.build [(cI 0),(cI 0)] [(0,1,(.tmp 17)),(1,1,(.tmp 22))]),sD 2 4 23]
def tr173:TG:=[tT 0 [2,3,4],tT 1 [4,5],tT 2 [4,5,6],tT 3 [4]]
def tl173:TG:=[]
def rs173:List AResV:=[.cell 4 true 2]
def pr173_0_0:PT (List RV):=pRs [pR true [rD (dI .i64),rD (dI .i64)]]
def ur173_0_0 {β:Type}(g:List RV->β):Int->Int->β:=pr173_0_0.unc g
def E173_0g (a:Tf155_0)(b:Tf131_0)(c:Tf160_0):EnvK:=EnvK.of [⟨155,nt155,[⟨pa155_0,Fn155_0 a⟩]⟩,⟨131,nt131,[⟨pa131_0,Fn131_0 b⟩]⟩,⟨160,nt160,[⟨pa160_0,Fn160_0 c⟩]⟩] noSeq
def E173_0:EnvK:=E173_0g f155_0 f131_0 f160_0
theorem eo173_0:E173_0.Ok Pg:=EnvK.of_ok noSeq_ok ⟨⟨io155_0,trivial⟩,⟨io131_0,trivial⟩,⟨io160_0,trivial⟩,trivial⟩
abbrev Tf173_0:Type 1:=(α:Type)->Int->Int->Int->Int->(Int->Int->Op α)->Op α
def f173_0g (d:Tf131_0)(e:Tf155_0)(g:Tf160_0)(α:Type)(h i j l:Int)(k1:Int->Int->Op α):Op α:=
 e α h i j l
 (fun b c=>d α b c
 (fun m=>g α m
 (fun a=>gK (a != 0) (gK (a != 0) (k1 (w64 (Int.tdiv (w64 (b*67108864)) a)) (w64 (Int.tdiv (w64 (c*67108864)) a)))))))
def f173_0 (α:Type)(a b c d:Int)(k1:Int->Int->Op α):Op α:=f173_0g f131_0 f155_0 f160_0 α a b c d k1
def pa173_0:PT (List DV):=pA [pV true [(dI .i64),(dI .i64)],pV true [(dI .i64),(dI .i64)]]
def Fn173_0 (v:Tf173_0)(α:Type)(k:RT α):I4 (Op α):=fun a b c d=>v α a b c d (fun e g=>ur173_0_0 k e g)
def cm173_0g:MCode:=(.seq (.region r173_2 [] (tO [2,3,4])) (.seq (.region r173_4 [] (tO [4,5])) (.seq (.region r173_6 [] (tO [4,5,6])) (.seq (.region r173_8 [] (tO [4])) .ret))))
def cm173_0:MCode:=cm173_0g
theorem gm173_0:cm173_0.Good Pg E173_0 sh173:=⟨trivial,trivial,trivial,trivial,trivial⟩
theorem fm173_0g (a:Tf155_0)(b:Tf131_0)(c:Tf160_0)(α:Type)(k:RT α):Fn173_0 (f173_0g b a c) α k=pa173_0.unc fun ds=>fnM Pg (E173_0g a b c) sh173 (cm173_0g ) rs173 k ds:=by kernel_rfl
theorem fm173_0:∀ (α:Type) (k:RT α),Fn173_0 f173_0 α k=pa173_0.unc fun ds=>fnM Pg E173_0 sh173 cm173_0 rs173 k ds:=fm173_0g f155_0 f131_0 f160_0
theorem is173:FnIs Pg 173 nt173 tr173 tl173 cm173_0.erase rs173:=⟨Tryz.f173,Tryz.func173,rfl,by kernel_rfl,by kernel_rfl,by kernel_rfl⟩
theorem io173_0:InstOk Pg 173 nt173 ⟨pa173_0,Fn173_0 f173_0⟩:=inst_ok eo173_0 followsTry is173 ⟨⟨sh173,cm173_0,by kernel_rfl,gm173_0,fm173_0⟩⟩
abbrev nt93:Nat:=25
def sh93:SG:=[(7,iT),(9,iT),(12,iT),(14,iT),(17,iT),(19,iT)]
def r93_2:LA:=[oO 2 (.box (.tmp 0)),oO 3 (.box (.tmp 1)),oO 4 (.alloc (zI 3)),mK 5 0]
def r93_4:LA:=[fA 6 0 2,lD 7 6,fA 8 0 3,lD 9 8,bT 10 .sub 7 9,fA 11 1 2,lD 12 11,fA 13 1 3,lD 14 13,bT 15 .sub 12 14,fA 16 2 2,lD 17 16,fA 18 2 3,lD 19 18,bT 20 .add 17 19,oO 21 (.build (zI 3) [(0,1,(.tmp 10)),(1,1,(.tmp 15)),(2,1,(.tmp 20))]),oO 22 (.call 59 [.tmp 21]),oO 23 (.extract 0 (.tmp 22)),oO 24 (.extract 1 (.tmp 22)),sD 3 4 23,oM 5 24]
def tr93:TG:=[tT 0 [2,3,4],tT 1 [4,5]]
def tl93:TG:=[]
def rs93:List AResV:=[.cell 4 true 3,.tmp 5]
def pr93_0_0:PT (List RV):=pRs [pR true [rD (dI .i64),rD (dI .i64),rD (dI .i64)],wI]
def ur93_0_0 {β:Type}(g:List RV->β):I4 β:=pr93_0_0.unc g
def E93_0g (a:Tf59_0):EnvK:=EnvK.of [⟨59,nt59,[⟨pa59_0,Fn59_0 a⟩]⟩] noSeq
def E93_0:EnvK:=E93_0g f59_0
theorem eo93_0:E93_0.Ok Pg:=EnvK.of_ok noSeq_ok ⟨⟨io59_0,trivial⟩,trivial⟩
abbrev Tf93_0:Type 1:=(α:Type)->Int->Int->Int->Int->Int->Int->(I4 (Op α))->Op α
def f93_0g (a:Tf59_0)(α:Type)(b c d e g h:Int)(k1:I4 (Op α)):Op α:=
 a α (w64 (b - e)) (w64 (c - g)) (w64 (d+h))
 (fun i j l m=>k1 i j l m)
def f93_0 (α:Type)(a b c d e g:Int)(k1:I4 (Op α)):Op α:=f93_0g f59_0 α a b c d e g k1
def pa93_0:PT (List DV):=pA [pV true [(dI .i64),(dI .i64),(dI .i64)],pV true [(dI .i64),(dI .i64),(dI .i64)]]
def Fn93_0 (v:Tf93_0)(α:Type)(k:RT α):I6 (Op α):=fun a b c d e g=>v α a b c d e g (fun h i j l=>ur93_0_0 k h i j l)
def cm93_0g:MCode:=(.seq (.region r93_2 [] (tO [2,3,4])) (.seq (.region r93_4 [] (tO [4,5])) .ret))
def cm93_0:MCode:=cm93_0g
theorem gm93_0:cm93_0.Good Pg E93_0 sh93:=⟨trivial,trivial,trivial⟩
theorem fm93_0g (a:Tf59_0)(α:Type)(k:RT α):Fn93_0 (f93_0g a) α k=pa93_0.unc fun ds=>fnM Pg (E93_0g a) sh93 (cm93_0g ) rs93 k ds:=by kernel_rfl
theorem fm93_0:∀ (α:Type) (k:RT α),Fn93_0 f93_0 α k=pa93_0.unc fun ds=>fnM Pg E93_0 sh93 cm93_0 rs93 k ds:=fm93_0g f59_0
theorem is93:FnIs Pg 93 nt93 tr93 tl93 cm93_0.erase rs93:=⟨Tryz.f93,Tryz.func93,rfl,by kernel_rfl,by kernel_rfl,by kernel_rfl⟩
theorem io93_0:InstOk Pg 93 nt93 ⟨pa93_0,Fn93_0 f93_0⟩:=inst_ok eo93_0 followsTry is93 ⟨⟨sh93,cm93_0,by kernel_rfl,gm93_0,fm93_0⟩⟩
abbrev nt41:Nat:=23
def sh41:SG:=[(19,iS 3),(20,iS 3)]
def r41_2:LA:=[mK 2 0]
def r41_5:LA:=[oM 4 0,oO 5 (.call 39 [.tmp 4]),bK 6 .geq 5 0]
def r41_8:LA:=[mK 2 0]
def r41_11:LA:=[oM 7 0,oO 8 (.len (.tmp 7)),bK 9 .quo 8 2,bK 10 .add 9 1,oM 3 10]
def td41_13:OT:=(tO [0,3])
def r41_16:LA:=[oM 11 3,oM 12 0,oO 13 (.len (.tmp 12)),bT 14 .lss 11 13]
def r41_21:LA:=[oM 17 0,oM 18 3,oO 19 (.iaddr 3 none (.tmp 17) (.tmp 18)),lA 20 3 19,oO 21 (.build (zI 3) []),oO 22 (.bin .neq 57 (.tmp 20) (.tmp 21))]
def r41_24:LA:=[mK 2 1]
def r41_25:LA:=[oM 15 3,bK 16 .add 15 1,oM 3 16]
def r41_27:LA:=[mK 2 2]
def tr41:TG:=[tT 0 [0],tT 1 [0,6],tT 2 [2],tT 3 [0,3],tT 4 [0,3,14],tT 6 [0,3,22],tT 7 [2],tT 5 [0,3],tT 8 [2]]
def tl41:TG:=[tT 4 [0,3]]
def rs41:List AResV:=[.tmp 2]
def p41_0_0:PT St:=pS [sl 0 (aV false [(cD dL)]),sI 3] []
def u41_0_0 {β:Type}(g:St->β):Rows->Int->β:=p41_0_0.unc g
def p41_0_1:PT St:=pS [sI 2] []
def u41_0_1 {β:Type}(g:St->β):Int->β:=p41_0_1.unc g
def p41_0_2:PT St:=pS [sl 0 (aV false [(cD dL)]),sI 3,sl 14 (aV false [(cD dB)])] []
def u41_0_2 {β:Type}(g:St->β):Rows->Int->Bool->β:=p41_0_2.unc g
def pr41_0_0:PT (List RV):=pRs [wI]
def ur41_0_0 {β:Type}(g:List RV->β):Int->β:=pr41_0_0.unc g
def E41_0g (a:Tf39_0):EnvK:=EnvK.of [⟨39,nt39,[⟨pa39_0,Fn39_0 a⟩]⟩] noSeq
def E41_0:EnvK:=E41_0g f39_0
theorem eo41_0:E41_0.Ok Pg:=EnvK.of_ok noSeq_ok ⟨⟨io39_0,trivial⟩,trivial⟩
def c41_0_13g:MCode:=(.seq (.seq (.region r41_16 [] (tO [0,3,14])) (.cond (.tmp 14) .skip (.exit 0))) (.seq (.block 1 (.seq (.region r41_21 [] (tO [0,3,22])) (.cond (.tmp 22) (.seq (.region r41_24 [] (tO [2])) .ret) .skip))) (.region r41_25 [] (tO [0,3]))))
def c41_0_13:MCode:=c41_0_13g
theorem g41_0_13:c41_0_13.Good Pg E41_0 sh41:=⟨⟨trivial,trivial,trivial⟩,⟨trivial,⟨trivial,trivial⟩,trivial⟩,trivial⟩
def S41_0_0g (α:Type)(b:Rows)(a:Int)(kn:Int->Op α)(k1:Op α)(k2:Int->Bool->Op α):Op α:=
 cK (decide (a < ((List.length b:Nat):Int)))
 (rowK b a [.int .i64,.int .i64,.int .i64]
 (fun c d e=>cK (!((c == 0) && ((d == 0) && ((e == 0) && true))))
 (k1)
 (kn (w64 (a+1)))))
 (k2 a (decide (a < ((List.length b:Nat):Int))))
def S41_0_0 (α:Type)(a:Rows)(b:Int)(kn:Int->Op α)(k1:Op α)(k2:Int->Bool->Op α):Op α:=S41_0_0g α a b kn k1 k2
def R41_0_0 (α:Type)(a:Rows)(k1:Op α)(k2:Int->Bool->Op α):Nat->Int->Op α
 | 0,_=>none
 | n+1,b=>S41_0_0 α a b (R41_0_0 α a k1 k2 n) k1 k2
def L41_0_0 (α:Type)(a:Rows)(k1:Op α)(k2:Int->Bool->Op α)(b:Int):Op α:=R41_0_0 α a k1 k2 fuel b
abbrev TL41_0_0:Type 1:=(α:Type)->Rows->(Op α)->(Int->Bool->Op α)->Int->Op α
def F41_0_0 (v:TL41_0_0)(α:Type)(K:KT α):Rows->Int->Op α:=fun a b=>v α a (u41_0_1 (K .ret) 1) (fun c d=>u41_0_2 (K (.exit 0)) a c d) b
theorem r41_0_0g (c:Tf39_0)(α:Type)(K:KT α)(Kn:SK α)(a:Rows)(b:Int):u41_0_0 (fun σ=>runM Pg (E41_0g c) sh41 (c41_0_13g ) (thenK (fun σ=>tidyK td41_13 σ Kn) K) σ) a b=S41_0_0g α a b (fun b=>u41_0_0 Kn a b) (u41_0_1 (K .ret) 1) (fun d e=>u41_0_2 (K (.exit 0)) a d e):=by kernel_rfl
theorem r41_0_0 (α:Type)(K:KT α)(Kn:SK α)(a:Rows)(b:Int):u41_0_0 (fun σ=>runM Pg E41_0 sh41 c41_0_13 (thenK (fun σ=>tidyK td41_13 σ Kn) K) σ) a b=S41_0_0 α a b (fun b=>u41_0_0 Kn a b) (u41_0_1 (K .ret) 1) (fun c d=>u41_0_2 (K (.exit 0)) a c d):=r41_0_0g f39_0 α K Kn a b
theorem t41_0_0 (α:Type)(K:KT α):∀ (n:Nat) (a:Rows) (b:Int),R41_0_0 α a (u41_0_1 (K .ret) 1) (fun c d=>u41_0_2 (K (.exit 0)) a c d) n b=u41_0_0 (loopT (runM Pg E41_0 sh41 c41_0_13) td41_13 K n) a b:=by
 intro n
 induction n with
 | zero=>intros;rfl
 | succ n ih=>intro a b;exact (congrArg (fun kn=>S41_0_0 α a b kn (u41_0_1 (K .ret) 1) (fun c d=>u41_0_2 (K (.exit 0)) a c d)) (funext fun b=>ih a b)).trans (r41_0_0 α K (loopT (runM Pg E41_0 sh41 c41_0_13) td41_13 K n) a b).symm
theorem m41_0_0:∀ (α:Type) (K:KT α),F41_0_0 L41_0_0 α K=p41_0_0.unc fun σ=>loopT (runM Pg E41_0 sh41 c41_0_13) td41_13 K fuel σ:=fun α K=>funext fun a=>funext fun b=>t41_0_0 α K fuel a b
abbrev Tf41_0:Type 1:=(α:Type)->Rows->(Int->Op α)->Op α
def f41_0g (b:TL41_0_0)(c:Tf39_0)(α:Type)(a:Rows)(k1:Int->Op α):Op α:=
 c α a
 (fun d=>cK (decide (0<=d))
 (k1 0)
 (b α a
 (k1 1)
 (fun e g=>k1 2) (w64 ((w64 (Int.tdiv ((List.length a:Nat):Int) 2))+1))))
def f41_0 (α:Type)(a:Rows)(k1:Int->Op α):Op α:=f41_0g L41_0_0 f39_0 α a k1
def pa41_0:PT (List DV):=pA [pV false [dL]]
def Fn41_0 (v:Tf41_0)(α:Type)(k:RT α):Rows->Op α:=fun a=>v α a (fun b=>ur41_0_0 k b)
def cm41_0g (a:TL41_0_0):MCode:=(.seq (.region r41_2 [] (tO [0])) (.seq (.seq (.region r41_5 [] (tO [0,6])) (.cond (.tmp 6) (.seq (.region r41_8 [] (tO [2])) .ret) .skip)) (.seq (.seq (.region r41_11 [] (tO [0,3])) (.block 0 (.loop td41_13 [⟨p41_0_0,F41_0_0 a⟩] c41_0_13))) (.seq (.region r41_27 [] (tO [2])) .ret))))
def cm41_0:MCode:=cm41_0g L41_0_0
theorem gm41_0:cm41_0.Good Pg E41_0 sh41:=⟨trivial,⟨trivial,⟨trivial,trivial⟩,trivial⟩,⟨trivial,g41_0_13,m41_0_0,trivial⟩,trivial,trivial⟩
theorem fm41_0g (a:Tf39_0)(b:TL41_0_0)(α:Type)(k:RT α):Fn41_0 (f41_0g b a) α k=pa41_0.unc fun ds=>fnM Pg (E41_0g a) sh41 (cm41_0g b) rs41 k ds:=by kernel_rfl
theorem fm41_0:∀ (α:Type) (k:RT α),Fn41_0 f41_0 α k=pa41_0.unc fun ds=>fnM Pg E41_0 sh41 cm41_0 rs41 k ds:=fm41_0g f39_0 L41_0_0
theorem is41:FnIs Pg 41 nt41 tr41 tl41 cm41_0.erase rs41:=⟨Tryz.f41,Tryz.func41,rfl,by kernel_rfl,by kernel_rfl,by kernel_rfl⟩
theorem io41_0:InstOk Pg 41 nt41 ⟨pa41_0,Fn41_0 f41_0⟩:=inst_ok eo41_0 followsTry is41 ⟨⟨sh41,cm41_0,by kernel_rfl,gm41_0,fm41_0⟩⟩
abbrev nt40:Nat:=20
def sh40:SG:=[(14,iS 3),(15,iS 3)]
def r40_2:LA:=[oO 2 (.mv (.const (.slice none 0 0)))]
def r40_4:LA:=[oO 3 (.mv (.const (.slice none 0 0)))]
def r40_7:LA:=[mK 4 0]
def td40_9:OT:=(some ⟨[0,3,4],true,[⟨false,3,0,20003,2⟩],[]⟩)
def r40_12:LA:=[oM 5 4,oM 6 0,oO 7 (.len (.tmp 6)),bT 8 .lss 5 7]
def r40_16:LA:=[oM 11 3,oM 12 0,oM 13 4,oO 14 (.iaddr 3 none (.tmp 12) (.tmp 13)),lA 15 3 14,oO 16 (.call 27 [.tmp 15]),oO 17 (.bslice 2 1 [(.v (.complex Go.FloatKind.f64 0 0)),(.v (.int .i64 0))] [(0,(.tmp 16))]),oO 18 (.append 2 24 (.tmp 11) (.tmp 17)),oM 3 18]
def r40_17:LA:=[oM 9 4,bK 10 .add 9 1,oM 4 10]
def r40_19:LA:=[oM 19 3,oM 2 19]
def tr40:TG:=[tT 0 [0],tT 1 [0,3],tT 2 [0,3,4],tT 3 [0,3,4,8],tT 5 [0,3,4],tT 4 [0,3,4],(6,⟨[2],true,[⟨false,2,0,20002,2⟩],[]⟩)]
def tl40:TG:=[(3,⟨[0,3,4],true,[⟨false,3,0,20003,2⟩],[]⟩)]
def rs40:List AResV:=[.tmp 2]
def p40_0_0:PT St:=pS [sl 0 (aV false [(cD dL)]),sl 3 (aV false [(cRef 20003)]),sI 4] [eOwn 20003 2]
def u40_0_0 {β:Type}(g:St->β):Rows->Int->Rows->β:=p40_0_0.unc g
def p40_0_1:PT St:=pS [sl 0 (aV false [(cD dL)]),sl 3 (aV false [(cRef 20003)]),sI 4,sl 8 (aV false [(cD dB)])] [eOwn 20003 2]
def u40_0_1 {β:Type}(g:St->β):Rows->Int->Bool->Rows->β:=p40_0_1.unc g
def pr40_0_0:PT (List RV):=pRs [pR false [rO 2]]
def ur40_0_0 {β:Type}(g:List RV->β):Rows->β:=pr40_0_0.unc g
def E40_0g (a:Tf27_0):EnvK:=EnvK.of [⟨27,nt27,[⟨pa27_0,Fn27_0 a⟩]⟩] noSeq
def E40_0:EnvK:=E40_0g f27_0
theorem eo40_0:E40_0.Ok Pg:=EnvK.of_ok noSeq_ok ⟨⟨io27_0,trivial⟩,trivial⟩
def c40_0_9g:MCode:=(.seq (.seq (.region r40_12 [] (tO [0,3,4,8])) (.cond (.tmp 8) .skip (.exit 0))) (.seq (.block 1 (.region r40_16 [] (tO [0,3,4]))) (.region r40_17 [] (tO [0,3,4]))))
def c40_0_9:MCode:=c40_0_9g
theorem g40_0_9:c40_0_9.Good Pg E40_0 sh40:=⟨⟨trivial,trivial,trivial⟩,trivial,trivial⟩
def S40_0_0g (h:Tf27_0)(α:Type)(b:Rows)(a:Int)(c:Rows)(kn:Int->Rows->Op α)(k1:Int->Bool->Rows->Op α):Op α:=
 cK (decide (a < ((List.length b:Nat):Int)))
 (rowK b a [.int .i64,.int .i64,.int .i64]
 (fun i j d=>h α i j
 (fun e g=>gK (apOk 2 24 c [[DC.v (.complex .f64 e g),DC.v (.int .i64 d)]]) (kn (w64 (a+1)) (c++[[DC.v (.complex .f64 e g),DC.v (.int .i64 d)]])))))
 (k1 a (decide (a < ((List.length b:Nat):Int))) c)
def S40_0_0 (α:Type)(a:Rows)(b:Int)(c:Rows)(kn:Int->Rows->Op α)(k1:Int->Bool->Rows->Op α):Op α:=S40_0_0g f27_0 α a b c kn k1
def R40_0_0 (α:Type)(a:Rows)(k1:Int->Bool->Rows->Op α):Nat->Int->Rows->Op α
 | 0,_,_=>none
 | n+1,b,c=>S40_0_0 α a b c (R40_0_0 α a k1 n) k1
def L40_0_0 (α:Type)(a:Rows)(k1:Int->Bool->Rows->Op α)(b:Int)(c:Rows):Op α:=R40_0_0 α a k1 fuel b c
abbrev TL40_0_0:Type 1:=(α:Type)->Rows->(Int->Bool->Rows->Op α)->Int->Rows->Op α
def F40_0_0 (v:TL40_0_0)(α:Type)(K:KT α):Rows->Int->Rows->Op α:=fun a b c=>v α a (fun d e g=>u40_0_1 (K (.exit 0)) a d e g) b c
theorem r40_0_0g (d:Tf27_0)(α:Type)(K:KT α)(Kn:SK α)(a:Rows)(b:Int)(c:Rows):u40_0_0 (fun σ=>runM Pg (E40_0g d) sh40 (c40_0_9g ) (thenK (fun σ=>tidyK td40_9 σ Kn) K) σ) a b c=S40_0_0g d α a b c (fun b c=>u40_0_0 Kn a b c) (fun e g h=>u40_0_1 (K (.exit 0)) a e g h):=by kernel_rfl
theorem r40_0_0 (α:Type)(K:KT α)(Kn:SK α)(a:Rows)(b:Int)(c:Rows):u40_0_0 (fun σ=>runM Pg E40_0 sh40 c40_0_9 (thenK (fun σ=>tidyK td40_9 σ Kn) K) σ) a b c=S40_0_0 α a b c (fun b c=>u40_0_0 Kn a b c) (fun d e g=>u40_0_1 (K (.exit 0)) a d e g):=r40_0_0g f27_0 α K Kn a b c
theorem t40_0_0 (α:Type)(K:KT α):∀ (n:Nat) (a:Rows) (b:Int) (c:Rows),R40_0_0 α a (fun d e g=>u40_0_1 (K (.exit 0)) a d e g) n b c=u40_0_0 (loopT (runM Pg E40_0 sh40 c40_0_9) td40_9 K n) a b c:=by
 intro n
 induction n with
 | zero=>intros;rfl
 | succ n ih=>intro a b c;exact (congrArg (fun kn=>S40_0_0 α a b c kn (fun d e g=>u40_0_1 (K (.exit 0)) a d e g)) (funext fun b=>funext fun c=>ih a b c)).trans (r40_0_0 α K (loopT (runM Pg E40_0 sh40 c40_0_9) td40_9 K n) a b c).symm
theorem m40_0_0:∀ (α:Type) (K:KT α),F40_0_0 L40_0_0 α K=p40_0_0.unc fun σ=>loopT (runM Pg E40_0 sh40 c40_0_9) td40_9 K fuel σ:=fun α K=>by funext a b c;exact t40_0_0 α K fuel a b c
abbrev Tf40_0:Type 1:=(α:Type)->Rows->(Rows->Op α)->Op α
def f40_0g (a:TL40_0_0)(α:Type)(b:Rows)(k1:Rows->Op α):Op α:=
 a α b
 (fun d e c=>k1 c) 0 ([]:Rows)
def f40_0 (α:Type)(a:Rows)(k1:Rows->Op α):Op α:=f40_0g L40_0_0 α a k1
def pa40_0:PT (List DV):=pA [pV false [dL]]
def Fn40_0 (v:Tf40_0)(α:Type)(k:RT α):Rows->Op α:=fun a=>v α a (fun b=>ur40_0_0 k b)
def cm40_0g (a:TL40_0_0):MCode:=(.seq (.region r40_2 [] (tO [0])) (.seq (.region r40_4 [] (tO [0,3])) (.seq (.seq (.region r40_7 [] (tO [0,3,4])) (.block 0 (.loop td40_9 [⟨p40_0_0,F40_0_0 a⟩] c40_0_9))) (.seq (.region r40_19 [] (some ⟨[2],true,[⟨false,2,0,20002,2⟩],[]⟩)) .ret))))
def cm40_0:MCode:=cm40_0g L40_0_0
theorem gm40_0:cm40_0.Good Pg E40_0 sh40:=⟨trivial,trivial,⟨trivial,g40_0_9,m40_0_0,trivial⟩,trivial,trivial⟩
theorem fm40_0g (b:Tf27_0)(a:TL40_0_0)(α:Type)(k:RT α):Fn40_0 (f40_0g a) α k=pa40_0.unc fun ds=>fnM Pg (E40_0g b) sh40 (cm40_0g a) rs40 k ds:=by kernel_rfl
theorem fm40_0:∀ (α:Type) (k:RT α),Fn40_0 f40_0 α k=pa40_0.unc fun ds=>fnM Pg E40_0 sh40 cm40_0 rs40 k ds:=fm40_0g f27_0 L40_0_0
theorem is40:FnIs Pg 40 nt40 tr40 tl40 cm40_0.erase rs40:=⟨Tryz.f40,Tryz.func40,rfl,by kernel_rfl,by kernel_rfl,by kernel_rfl⟩
theorem io40_0:InstOk Pg 40 nt40 ⟨pa40_0,Fn40_0 f40_0⟩:=inst_ok eo40_0 followsTry is40 ⟨⟨sh40,cm40_0,by kernel_rfl,gm40_0,fm40_0⟩⟩
abbrev nt60:Nat:=25
def sh60:SG:=[(7,iT),(9,iT),(12,iT),(14,iT),(17,iT),(19,iT)]
def r60_2:LA:=[oO 2 (.box (.tmp 0)),oO 3 (.box (.tmp 1)),oO 4 (.alloc (zI 3)),mK 5 0]
def r60_4:LA:=[fA 6 0 2,lD 7 6,fA 8 0 3,lD 9 8,bT 10 .add 7 9,fA 11 1 2,lD 12 11,fA 13 1 3,lD 14 13,bT 15 .add 12 14,fA 16 2 2,lD 17 16,fA 18 2 3,lD 19 18,bT 20 .add 17 19,oO 21 (.build (zI 3) [(0,1,(.tmp 10)),(1,1,(.tmp 15)),(2,1,(.tmp 20))]),oO 22 (.call 59 [.tmp 21]),oO 23 (.extract 0 (.tmp 22)),oO 24 (.extract 1 (.tmp 22)),sD 3 4 23,oM 5 24]
def tr60:TG:=[tT 0 [2,3,4],tT 1 [4,5]]
def tl60:TG:=[]
def rs60:List AResV:=[.cell 4 true 3,.tmp 5]
def pr60_0_0:PT (List RV):=pRs [pR true [rD (dI .i64),rD (dI .i64),rD (dI .i64)],wI]
def ur60_0_0 {β:Type}(g:List RV->β):I4 β:=pr60_0_0.unc g
def E60_0g (a:Tf59_0):EnvK:=EnvK.of [⟨59,nt59,[⟨pa59_0,Fn59_0 a⟩]⟩] noSeq
def E60_0:EnvK:=E60_0g f59_0
theorem eo60_0:E60_0.Ok Pg:=EnvK.of_ok noSeq_ok ⟨⟨io59_0,trivial⟩,trivial⟩
abbrev Tf60_0:Type 1:=(α:Type)->Int->Int->Int->Int->Int->Int->(I4 (Op α))->Op α
def f60_0g (a:Tf59_0)(α:Type)(b c d e g h:Int)(k1:I4 (Op α)):Op α:=
 a α (w64 (b+e)) (w64 (c+g)) (w64 (d+h))
 (fun i j l m=>k1 i j l m)
def f60_0 (α:Type)(a b c d e g:Int)(k1:I4 (Op α)):Op α:=f60_0g f59_0 α a b c d e g k1
def pa60_0:PT (List DV):=pA [pV true [(dI .i64),(dI .i64),(dI .i64)],pV true [(dI .i64),(dI .i64),(dI .i64)]]
def Fn60_0 (v:Tf60_0)(α:Type)(k:RT α):I6 (Op α):=fun a b c d e g=>v α a b c d e g (fun h i j l=>ur60_0_0 k h i j l)
def cm60_0g:MCode:=(.seq (.region r60_2 [] (tO [2,3,4])) (.seq (.region r60_4 [] (tO [4,5])) .ret))
def cm60_0:MCode:=cm60_0g
theorem gm60_0:cm60_0.Good Pg E60_0 sh60:=⟨trivial,trivial,trivial⟩
theorem fm60_0g (a:Tf59_0)(α:Type)(k:RT α):Fn60_0 (f60_0g a) α k=pa60_0.unc fun ds=>fnM Pg (E60_0g a) sh60 (cm60_0g ) rs60 k ds:=by kernel_rfl
theorem fm60_0:∀ (α:Type) (k:RT α),Fn60_0 f60_0 α k=pa60_0.unc fun ds=>fnM Pg E60_0 sh60 cm60_0 rs60 k ds:=fm60_0g f59_0
theorem is60:FnIs Pg 60 nt60 tr60 tl60 cm60_0.erase rs60:=⟨Tryz.f60,Tryz.func60,rfl,by kernel_rfl,by kernel_rfl,by kernel_rfl⟩
theorem io60_0:InstOk Pg 60 nt60 ⟨pa60_0,Fn60_0 f60_0⟩:=inst_ok eo60_0 followsTry is60 ⟨⟨sh60,cm60_0,by kernel_rfl,gm60_0,fm60_0⟩⟩
abbrev nt125:Nat:=70
def sh125:SG:=[(12,iT),(14,iT),(17,iT),(19,iT),(27,iT),(29,iT),(32,iT),(34,iT),(42,iS 3),(45,iT),(47,iS 3),(50,iT),(54,iT),(56,iT)]
def r125_2:LA:=[oO 2 (.box (.tmp 0)),oO 3 (.box (.tmp 1)),oO 4 (.alloc (zI 3)),mK 5 0]
def r125_4:LA:=[fA 11 0 2,lD 12 11,fA 13 0 3,lD 14 13,bT 15 .mul 12 14,fA 16 1 2,lD 17 16,fA 18 1 3,lD 19 18,bT 20 .mul 17 19,bT 21 .sub 15 20,oO 22 (.call 147 [(.tmp 21),(kI 1048576)]),oM 10 22,oO 23 (.extract 0 (.tmp 10)),oO 24 (.extract 1 (.tmp 10)),oM 6 23,oM 7 24]
def r125_6:LA:=[fA 26 0 2,lD 27 26,fA 28 1 3,lD 29 28,bT 30 .mul 27 29,fA 31 1 2,lD 32 31,fA 33 0 3,lD 34 33,bT 35 .mul 32 34,bT 36 .add 30 35,oO 37 (.call 147 [(.tmp 36),(kI 1048576)]),oM 25 37,oO 38 (.extract 0 (.tmp 25)),oO 39 (.extract 1 (.tmp 25)),oM 8 38,oM 9 39]
def r125_8:LA:=[oM 40 6,oM 41 8,lA 42 3 2,oO 43 (.call 148 [.tmp 42]),fA 44 2 3,lD 45 44,bT 46 .mul 43 45,lA 47 3 3,oO 48 (.call 148 [.tmp 47]),fA 49 2 2,lD 50 49,bT 51 .mul 48 50,bT 52 .add 46 51,fA 53 2 2,lD 54 53,fA 55 2 3,lD 56 55,bT 57 .mul 54 56,bT 58 .add 52 57,oO 59 (.call 77 [(.tmp 58),(kI 1048576)]),oM 60 7,oM 61 60,oG 62 (.mv (.tmp 9)) 61 false,oO 63 (.pick (.tmp 61) (.const (.bool true)) (.tmp 62)),oO 64 (.call 149 [.tmp 63]),bT 65 .add 59 64,oO 66 (.build (zI 3) [(0,1,(.tmp 40)),(1,1,(.tmp 41)),(2,1,(.tmp 65))]),oO 67 (.call 59 [.tmp 66]),oO 68 (.extract 0 (.tmp 67)),oO 69 (.extract 1 (.tmp 67)),sD 3 4 68,oM 5 69]
def tr125:TG:=[tT 0 [2,3,4],tT 1 [2,3,4,6,7],tT 2 [2,3,4,6,7,8,9],tT 3 [4,5]]
def tl125:TG:=[]
def rs125:List AResV:=[.cell 4 true 3,.tmp 5]
def pr125_0_0:PT (List RV):=pRs [pR true [rD (dI .i64),rD (dI .i64),rD (dI .i64)],wI]
def ur125_0_0 {β:Type}(g:List RV->β):I4 β:=pr125_0_0.unc g
def E125_0g (a:Tf147_0)(b:Tf148_0)(c:Tf77_0)(d:Tf149_0)(e:Tf59_0):EnvK:=EnvK.of [⟨147,nt147,[⟨pa147_0,Fn147_0 a⟩]⟩,⟨148,nt148,[⟨pa148_0,Fn148_0 b⟩]⟩,⟨77,nt77,[⟨pa77_0,Fn77_0 c⟩]⟩,⟨149,nt149,[⟨pa149_0,Fn149_0 d⟩]⟩,⟨59,nt59,[⟨pa59_0,Fn59_0 e⟩]⟩] noSeq
def E125_0:EnvK:=E125_0g f147_0 f148_0 f77_0 f149_0 f59_0
theorem eo125_0:E125_0.Ok Pg:=EnvK.of_ok noSeq_ok ⟨⟨io147_0,trivial⟩,⟨io148_0,trivial⟩,⟨io77_0,trivial⟩,⟨io149_0,trivial⟩,⟨io59_0,trivial⟩,trivial⟩
abbrev Tf125_0:Type 1:=(α:Type)->Int->Int->Int->Int->Int->Int->(I4 (Op α))->Op α
def f125_0g (e:Tf147_0)(g:Tf148_0)(h:Tf149_0)(i:Tf59_0)(q:Tf77_0)(α:Type)(a b j c d l:Int)(k1:I4 (Op α)):Op α:=
 e α (w64 ((w64 (a*c)) - (w64 (b*d)))) 1048576
 (fun m r=>e α (w64 ((w64 (a*d))+(w64 (b*c)))) 1048576
 (fun o s=>g α a b
 (fun t=>g α c d
 (fun w=>q α (w64 ((w64 ((w64 (t*l))+(w64 (w*j))))+(w64 (j*l)))) 1048576
 (fun p=>cK r
 (h α true
 (fun z=>i α m o (w64 (p+z))
 (fun A B C D=>k1 A B C D)))
 (h α s
 (fun F=>i α m o (w64 (p+F))
 (fun G H I J=>k1 G H I J))))))))
def f125_0 (α:Type)(a b c d e g:Int)(k1:I4 (Op α)):Op α:=f125_0g f147_0 f148_0 f149_0 f59_0 f77_0 α a b c d e g k1
def pa125_0:PT (List DV):=pA [pV true [(dI .i64),(dI .i64),(dI .i64)],pV true [(dI .i64),(dI .i64),(dI .i64)]]
def Fn125_0 (v:Tf125_0)(α:Type)(k:RT α):I6 (Op α):=fun a b c d e g=>v α a b c d e g (fun h i j l=>ur125_0_0 k h i j l)
def cm125_0g:MCode:=(.seq (.region r125_2 [] (tO [2,3,4])) (.seq (.region r125_4 [] (tO [2,3,4,6,7])) (.seq (.region r125_6 [] (tO [2,3,4,6,7,8,9])) (.seq (.region r125_8 [(3,5),(3,7),(5,8),(3,10),(8,10),(3,14),(8,14),(3,16),(8,16)] (tO [4,5])) .ret))))
def cm125_0:MCode:=cm125_0g
theorem gm125_0:cm125_0.Good Pg E125_0 sh125:=⟨trivial,trivial,trivial,trivial,trivial⟩
theorem fm125_0g (a:Tf147_0)(b:Tf148_0)(c:Tf77_0)(d:Tf149_0)(e:Tf59_0)(α:Type)(k:RT α):Fn125_0 (f125_0g a b d e c) α k=pa125_0.unc fun ds=>fnM Pg (E125_0g a b c d e) sh125 (cm125_0g ) rs125 k ds:=by kernel_rfl
theorem fm125_0:∀ (α:Type) (k:RT α),Fn125_0 f125_0 α k=pa125_0.unc fun ds=>fnM Pg E125_0 sh125 cm125_0 rs125 k ds:=fm125_0g f147_0 f148_0 f77_0 f149_0 f59_0
theorem is125:FnIs Pg 125 nt125 tr125 tl125 cm125_0.erase rs125:=⟨Tryz.f125,Tryz.func125,rfl,by kernel_rfl,by kernel_rfl,by kernel_rfl⟩
theorem io125_0:InstOk Pg 125 nt125 ⟨pa125_0,Fn125_0 f125_0⟩:=inst_ok eo125_0 followsTry is125 ⟨⟨sh125,cm125_0,by kernel_rfl,gm125_0,fm125_0⟩⟩
abbrev nt158:Nat:=73
def sh158:SG:=[(12,iT),(17,iT),(23,iT),(25,iT),(29,iT),(31,iT),(38,iT),(44,iT),(51,iT),(59,iT),(61,iT),(69,iS 3)]
def r158_2:LA:=[oO 1 (.box (.tmp 0)),oO 2 (.alloc (zI 3)),mK 3 0]
def r158_5:LA:=[fA 11 0 1,lD 12 11,oO 13 (.call 57 [(.tmp 12),(kI (-1099511627776)),(kI 1099511627776)]),oO 14 (.pure (oB (.unOp .not 4 (.tmp 13)) 4)),oM 15 14,oG 16 (.faddr 1 (.tmp 1)) 15 false,oG 17 (.load false 1 (.tmp 16)) 15 false,oG 18 (.call 57 [(.tmp 17),(kI (-1099511627776)),(kI 1099511627776)]) 15 false,oG 19 (.pure (oB (.unOp .not 4 (.tmp 18)) 4)) 15 false,oO 20 (.pick (.tmp 15) (.const (.bool true)) (.tmp 19))]
def r158_8:LA:=[oO 21 (.build (zI 3) []),sD 3 2 21,mK 3 2]
def r158_11:LA:=[fA 22 0 1,lD 23 22,fA 24 1 1,lD 25 24,bT 26 .gtr 23 25]
def r158_14:LA:=[oO 27 (.build (zI 3) []),sD 3 2 27,mK 3 10]
def r158_16:LA:=[fA 28 0 1,lD 29 28,fA 30 1 1,lD 31 30,bT 32 .add 29 31,oO 33 (.call 76 [(.tmp 32),(kI 2)]),oM 4 33]
def r158_18:LA:=[oM 34 4,oO 35 (.call 167 [.tmp 34]),oO 5 (.alloc [(cI 0),(cI 0)]),sD 2 5 35]
def r158_20:LA:=[oO 37 (.iaddr 1 (some 2) (.tmp 5) (kI 0)),lD 38 37,oO 39 (.call 147 [(.tmp 38),(kI 64)]),oM 36 39,oO 40 (.extract 0 (.tmp 36)),oO 41 (.extract 1 (.tmp 36)),oM 6 40,oM 7 41]
def r158_22:LA:=[oO 43 (.iaddr 1 (some 2) (.tmp 5) (kI 1)),lD 44 43,oO 45 (.call 147 [(.tmp 44),(kI 64)]),oM 42 45,oO 46 (.extract 0 (.tmp 42)),oO 47 (.extract 1 (.tmp 42)),oM 8 46,oM 9 47]
def r158_24:LA:=[oM 48 6,oM 49 8,fA 50 1 1,lD 51 50,oM 52 4,bT 53 .sub 51 52,oO 54 (.bin .mul 3 (kI 11) (.tmp 53)),oO 55 (.call 77 [(.tmp 54),(kI 7)]),oO 56 (.bin .add 3 (kI 2) (.tmp 55)),oO 57 (.build (zI 3) [(0,1,(.tmp 48)),(1,1,(.tmp 49)),(2,1,(.tmp 56))]),oO 10 (.alloc (zI 3)),sD 3 10 57]
def r158_27:LA:=[fA 58 0 1,lD 59 58,fA 60 1 1,lD 61 60,bT 62 .eql 59 61,oM 63 62,oG 64 (.mv (.tmp 4)) 63 true,oG 65 (.call 91 [(.tmp 64),(kI 1048576)]) 63 true,oG 66 (.bin .eql 3 (.tmp 65) (kI 0)) 63 true,oO 67 (.pick (.tmp 63) (.tmp 66) (.const (.bool false)))]
def r158_29:LA:=[fA 68 2 10,oD (.store 1 (.tmp 68) (kI 0))]
def r158_31:LA:=[lA 69 3 10,oO 70 (.call 59 [.tmp 69]),oO 71 (.extract 0 (.tmp 70)),oO 72 (.extract 1 (.tmp 70)),sD 3 2 71,oM 3 72]
def tr158:TG:=[tT 0 [1,2],tT 1 [1,2,20],tT 2 [2,3],tT 3 [1,2,26],tT 4 [2,3],tT 5 [1,2,4],tT 6 [1,2,4,5],tT 7 [1,2,4,5,6],tT 8 [1,2,4,6,8],tT 9 [1,2,4,10],tT 10 [2,10,67],tT 11 [2,10],tT 12 [2,3]]
def tl158:TG:=[]
def rs158:List AResV:=[.cell 2 true 3,.tmp 3]
def p158_0_0:PT St:=pS [sP 1,sP 2,sI 4,sP 10] [eBox 1 [xI,xI],eBox 2 (xs 3),eBox 10 (xs 3)]
def u158_0_0 {β:Type}(g:St->β):I9 β:=p158_0_0.unc g
def p158_0_1:PT St:=pS [sP 2,sP 10] [eBox 2 (xs 3),eBox 10 (xs 3)]
def u158_0_1 {β:Type}(g:St->β):I6 β:=p158_0_1.unc g
def p158_0_2:PT St:=pS [sP 2,sP 10,sl 67 (aV false [(cD dB)])] [eBox 2 (xs 3),eBox 10 (xs 3)]
def u158_0_2 {β:Type}(g:St->β):Bool->I6 β:=p158_0_2.unc g
def pr158_0_0:PT (List RV):=pRs [pR true [rD (dI .i64),rD (dI .i64),rD (dI .i64)],wI]
def ur158_0_0 {β:Type}(g:List RV->β):I4 β:=pr158_0_0.unc g
def E158_0g (a:Tf57_0)(b:Tf76_0)(c:Tf167_0)(d:Tf147_0)(e:Tf77_0)(g:Tf91_0)(h:Tf59_0):EnvK:=EnvK.of [⟨57,nt57,[⟨pa57_0,Fn57_0 a⟩]⟩,⟨76,nt76,[⟨pa76_0,Fn76_0 b⟩]⟩,⟨167,nt167,[⟨pa167_0,Fn167_0 c⟩]⟩,⟨147,nt147,[⟨pa147_0,Fn147_0 d⟩]⟩,⟨77,nt77,[⟨pa77_0,Fn77_0 e⟩]⟩,⟨91,nt91,[⟨pa91_0,Fn91_0 g⟩]⟩,⟨59,nt59,[⟨pa59_0,Fn59_0 h⟩]⟩] noSeq
def E158_0:EnvK:=E158_0g f57_0 f76_0 f167_0 f147_0 f77_0 f91_0 f59_0
theorem eo158_0:E158_0.Ok Pg:=EnvK.of_ok noSeq_ok ⟨⟨io57_0,trivial⟩,⟨io76_0,trivial⟩,⟨io167_0,trivial⟩,⟨io147_0,trivial⟩,⟨io77_0,trivial⟩,⟨io91_0,trivial⟩,⟨io59_0,trivial⟩,trivial⟩
def c158_0_25g:MCode:=(.seq (.region r158_27 [] (tO [2,10,67])) (.cond (.tmp 67) (.region r158_29 [] (tO [2,10])) .skip))
def c158_0_25:MCode:=c158_0_25g
theorem g158_0_25:c158_0_25.Good Pg E158_0 sh158:=⟨trivial,trivial,trivial⟩
abbrev TJ158_0_0:Type 1:=(α:Type)->Int->Int->Int->(Op α)->(Bool->Op α)->Op α
def J158_0_0g (b:Tf91_0)(α:Type)(c d e:Int)(k1:Op α)(k2:Bool->Op α):Op α:=
 cK (d == e)
 (b α c 1048576
 (fun a=>cK (a == 0)
 (k1)
 (k2 (a == 0))))
 (k2 false)
def J158_0_0 (α:Type)(a b c:Int)(k1:Op α)(k2:Bool->Op α):Op α:=J158_0_0g f91_0 α a b c k1 k2
def F158_0_0 (v:TJ158_0_0)(α:Type)(K:KT α):I9 (Op α):=fun g h i a b c d e j=>v α g h i (u158_0_1 (K .normal) a b c d e 0) (fun l=>u158_0_2 (K .normal) l a b c d e j)
theorem m158_0_0g (b:Tf57_0)(c:Tf76_0)(d:Tf167_0)(e:Tf147_0)(g:Tf77_0)(a:Tf91_0)(h:Tf59_0)(α:Type)(K:KT α):F158_0_0 (J158_0_0g a) α K=p158_0_0.unc fun σ=>runM Pg (E158_0g b c d e g a h) sh158 (c158_0_25g ) K σ:=by kernel_rfl
theorem m158_0_0:∀ (α:Type) (K:KT α),F158_0_0 J158_0_0 α K=p158_0_0.unc fun σ=>runM Pg E158_0 sh158 c158_0_25 K σ:=m158_0_0g f57_0 f76_0 f167_0 f147_0 f77_0 f91_0 f59_0
abbrev Tf158_0:Type 1:=(α:Type)->Int->Int->(I4 (Op α))->Op α
def f158_0g (j:TJ158_0_0)(d:Tf147_0)(l:Tf167_0)(e:Tf57_0)(g:Tf59_0)(m:Tf76_0)(o:Tf77_0)(α:Type)(b a:Int)(k1:I4 (Op α)):Op α:=
 e α b (-1099511627776) 1099511627776
 (fun p=>cK (!p)
 (k1 0 0 0 2)
 (e α a (-1099511627776) 1099511627776
 (fun q=>cK (!q)
 (k1 0 0 0 2)
 (cK (decide (a < b))
 (k1 0 0 0 10)
 (m α (w64 (b+a)) 2
 (fun c=>l α c
 (fun r s=>d α r 64
 (fun h H=>d α s 64
 (fun i I=>o α (w64 (11*(w64 (a - c)))) 7
 (fun t=>j α c b a
 (g α h i 0
 (fun w z A B=>k1 w z A B))
 (fun J=>g α h i (w64 (2+t))
 (fun C D F G=>k1 C D F G))))))))))))
def f158_0 (α:Type)(a b:Int)(k1:I4 (Op α)):Op α:=f158_0g J158_0_0 f147_0 f167_0 f57_0 f59_0 f76_0 f77_0 α a b k1
def pa158_0:PT (List DV):=pA [pV true [(dI .i64),(dI .i64)]]
def Fn158_0 (v:Tf158_0)(α:Type)(k:RT α):Int->Int->Op α:=fun a b=>v α a b (fun c d e g=>ur158_0_0 k c d e g)
def cm158_0g (a:TJ158_0_0):MCode:=(.seq (.region r158_2 [] (tO [1,2])) (.seq (.seq (.region r158_5 [] (tO [1,2,20])) (.cond (.tmp 20) (.seq (.region r158_8 [] (tO [2,3])) .ret) .skip)) (.seq (.seq (.region r158_11 [] (tO [1,2,26])) (.cond (.tmp 26) (.seq (.region r158_14 [] (tO [2,3])) .ret) .skip)) (.seq (.region r158_16 [] (tO [1,2,4])) (.seq (.region r158_18 [] (tO [1,2,4,5])) (.seq (.region r158_20 [] (tO [1,2,4,5,6])) (.seq (.region r158_22 [] (tO [1,2,4,6,8])) (.seq (.region r158_24 [] (tO [1,2,4,10])) (.seq (.mark [⟨p158_0_0,F158_0_0 a⟩] c158_0_25) (.seq (.region r158_31 [] (tO [2,3])) .ret))))))))))
def cm158_0:MCode:=cm158_0g J158_0_0
theorem gm158_0:cm158_0.Good Pg E158_0 sh158:=⟨trivial,⟨trivial,⟨trivial,trivial⟩,trivial⟩,⟨trivial,⟨trivial,trivial⟩,trivial⟩,trivial,trivial,trivial,trivial,trivial,⟨g158_0_25,m158_0_0,trivial⟩,trivial,trivial⟩
theorem fm158_0g (a:Tf57_0)(b:Tf76_0)(c:Tf167_0)(d:Tf147_0)(e:Tf77_0)(i:Tf91_0)(g:Tf59_0)(h:TJ158_0_0)(α:Type)(k:RT α):Fn158_0 (f158_0g h d c a g b e) α k=pa158_0.unc fun ds=>fnM Pg (E158_0g a b c d e i g) sh158 (cm158_0g h) rs158 k ds:=by kernel_rfl
theorem fm158_0:∀ (α:Type) (k:RT α),Fn158_0 f158_0 α k=pa158_0.unc fun ds=>fnM Pg E158_0 sh158 cm158_0 rs158 k ds:=fm158_0g f57_0 f76_0 f167_0 f147_0 f77_0 f91_0 f59_0 J158_0_0
theorem is158:FnIs Pg 158 nt158 tr158 tl158 cm158_0.erase rs158:=⟨Tryz.f158,Tryz.func158,rfl,by kernel_rfl,by kernel_rfl,by kernel_rfl⟩
theorem io158_0:InstOk Pg 158 nt158 ⟨pa158_0,Fn158_0 f158_0⟩:=inst_ok eo158_0 followsTry is158 ⟨⟨sh158,cm158_0,by kernel_rfl,gm158_0,fm158_0⟩⟩
abbrev nt119:Nat:=6
def sh119:SG:=[(3,iS 2)]
def r119_2:LA:=[oO 1 (.box (.tmp 0)),mK 2 0]
def r119_4:LA:=[lA 3 2 1,oO 4 (.call 131 [.tmp 3]),oO 5 (.call 146 [.tmp 4]),oM 2 5]
def tr119:TG:=[tT 0 [1],tT 1 [2]]
def tl119:TG:=[]
def rs119:List AResV:=[.tmp 2]
def pr119_0_0:PT (List RV):=pRs [wI]
def ur119_0_0 {β:Type}(g:List RV->β):Int->β:=pr119_0_0.unc g
def E119_0g (a:Tf131_0)(b:Tf146_0):EnvK:=EnvK.of [⟨131,nt131,[⟨pa131_0,Fn131_0 a⟩]⟩,⟨146,nt146,[⟨pa146_0,Fn146_0 b⟩]⟩] noSeq
def E119_0:EnvK:=E119_0g f131_0 f146_0
theorem eo119_0:E119_0.Ok Pg:=EnvK.of_ok noSeq_ok ⟨⟨io131_0,trivial⟩,⟨io146_0,trivial⟩,trivial⟩
abbrev Tf119_0:Type 1:=(α:Type)->Int->Int->(Int->Op α)->Op α
def f119_0g (a:Tf131_0)(b:Tf146_0)(α:Type)(c d:Int)(k1:Int->Op α):Op α:=
 a α c d
 (fun e=>b α e
 (fun g=>k1 g))
def f119_0 (α:Type)(a b:Int)(k1:Int->Op α):Op α:=f119_0g f131_0 f146_0 α a b k1
def pa119_0:PT (List DV):=pA [pV true [(dI .i64),(dI .i64)]]
def Fn119_0 (v:Tf119_0)(α:Type)(k:RT α):Int->Int->Op α:=fun a b=>v α a b (fun c=>ur119_0_0 k c)
def cm119_0g:MCode:=(.seq (.region r119_2 [] (tO [1])) (.seq (.region r119_4 [] (tO [2])) .ret))
def cm119_0:MCode:=cm119_0g
theorem gm119_0:cm119_0.Good Pg E119_0 sh119:=⟨trivial,trivial,trivial⟩
theorem fm119_0g (a:Tf131_0)(b:Tf146_0)(α:Type)(k:RT α):Fn119_0 (f119_0g a b) α k=pa119_0.unc fun ds=>fnM Pg (E119_0g a b) sh119 (cm119_0g ) rs119 k ds:=by kernel_rfl
theorem fm119_0:∀ (α:Type) (k:RT α),Fn119_0 f119_0 α k=pa119_0.unc fun ds=>fnM Pg E119_0 sh119 cm119_0 rs119 k ds:=fm119_0g f131_0 f146_0
theorem is119:FnIs Pg 119 nt119 tr119 tl119 cm119_0.erase rs119:=⟨Tryz.f119,Tryz.func119,rfl,by kernel_rfl,by kernel_rfl,by kernel_rfl⟩
theorem io119_0:InstOk Pg 119 nt119 ⟨pa119_0,Fn119_0 f119_0⟩:=inst_ok eo119_0 followsTry is119 ⟨⟨sh119,cm119_0,by kernel_rfl,gm119_0,fm119_0⟩⟩
abbrev nt95:Nat:=37
def sh95:SG:=[(16,[.flt .f64,.flt .f64]),(25,[.flt .f64,.flt .f64])]
def r95_2:LA:=[oO 4 (.alloc [(cI 0),(cI 0)]),mK 5 0]
def r95_4:LA:=[oM 11 0,oO 12 (.pure (oB (.call { callee:=.builtin .real,args:=#[(.tmp 11)],argTypes:=#[43] }) 117)),oM 13 0,oO 14 (.pure (oB (.call { callee:=.builtin .imag,args:=#[(.tmp 13)],argTypes:=#[43] }) 117)),oO 15 (.build [(.d (.v (.float Go.FloatKind.f64 0))),(.d (.v (.float Go.FloatKind.f64 0)))] [(0,1,(.tmp 12)),(1,1,(.tmp 14))]),oO 6 (.alloc [(.d (.v (.float Go.FloatKind.f64 0))),(.d (.v (.float Go.FloatKind.f64 0)))]),sD 2 6 15]
def r95_7:LA:=[lA 16 2 6,mK 17 0]
def td95_9:OT:=(tO [0,1,4,6,16,17])
def r95_11:LA:=[bK 18 .lss 17 2]
def r95_17:LA:=[oO 19 (.index false 2 1 (.tmp 16) (.tmp 17)),oM 8 19]
def r95_19:LA:=[oM 20 8,oO 21 (.call 128 [.tmp 20]),oO 22 (.pure (oB (.unOp .not 4 (.tmp 21)) 4))]
def r95_22:LA:=[oO 23 (.build [(cI 0),(cI 0)] []),sD 2 4 23,mK 5 27]
def r95_23:LA:=[bK 24 .add 17 1,oM 17 24]
def r95_26:LA:=[lA 25 2 6,mK 26 0]
def td95_28:OT:=(tO [0,1,4,25,26])
def r95_30:LA:=[bK 27 .lss 26 2]
def r95_36:LA:=[oO 28 (.index false 2 1 (.tmp 25) (.tmp 26)),oM 10 28]
def r95_38:LA:=[oM 29 10,oO 30 (.call 129 [.tmp 29]),oM 31 1,oO 32 (.bin .gtr 117 (.tmp 30) (.tmp 31))]
def r95_41:LA:=[oO 33 (.build [(cI 0),(cI 0)] []),sD 2 4 33,mK 5 2]
def r95_42:LA:=[bK 34 .add 26 1,oM 26 34]
def r95_44:LA:=[oM 35 0,oO 36 (.call 130 [.tmp 35]),sD 2 4 36,mK 5 0]
def tr95:TG:=[tT 0 [0,1,4],tT 1 [0,1,4,6],tT 2 [0,1,4,6,16,17],tT 3 [0,1,4,6,16,17,18],tT 4 [0,1,4,6,8,16,17],tT 5 [0,1,4,6,16,17,22],tT 6 [4,5],tT 7 [0,1,4,6,16,17],tT 8 [0,1,4,25,26],tT 9 [0,1,4,25,26,27],tT 10 [0,1,4,10,25,26],tT 11 [0,1,4,25,26,32],tT 12 [4,5],tT 13 [0,1,4,25,26],tT 14 [4,5]]
def tl95:TG:=[tT 3 [0,1,4,6,16,17],tT 9 [0,1,4,25,26]]
def rs95:List AResV:=[.cell 4 true 2,.tmp 5]
def p95_0_0:PT St:=pS [sl 0 (aV false [(cD (dX .f64))]),sl 1 (aV false [(cD (dF .f64))]),sP 4,sP 6,sl 16 (aV true [(cD (dF .f64)),(cD (dF .f64))]),sI 17,sl 18 (aV false [(cD dB)])] [eBox 4 [xI,xI],eBox 6 [(cD (dF .f64)),(cD (dF .f64))]]
def u95_0_0 {β:Type}(g:St->β):Nat->Nat->Nat->Nat->Nat->Int->Bool->Int->Int->Nat->Nat->β:=p95_0_0.unc g
def p95_0_1:PT St:=pS [sl 0 (aV false [(cD (dX .f64))]),sl 1 (aV false [(cD (dF .f64))]),sP 4,sP 6,sl 8 (aV false [(cD (dF .f64))]),sl 16 (aV true [(cD (dF .f64)),(cD (dF .f64))]),sI 17] [eBox 4 [xI,xI],eBox 6 [(cD (dF .f64)),(cD (dF .f64))]]
def u95_0_1 {β:Type}(g:St->β):Nat->Nat->Nat->Nat->Nat->Nat->Int->Int->Int->Nat->Nat->β:=p95_0_1.unc g
def p95_0_2:PT St:=pS [sl 0 (aV false [(cD (dX .f64))]),sl 1 (aV false [(cD (dF .f64))]),sP 4,sP 6,sl 16 (aV true [(cD (dF .f64)),(cD (dF .f64))]),sI 17] [eBox 4 [xI,xI],eBox 6 [(cD (dF .f64)),(cD (dF .f64))]]
def u95_0_2 {β:Type}(g:St->β):Nat->Nat->Nat->Nat->Nat->Int->Int->Int->Nat->Nat->β:=p95_0_2.unc g
def p95_0_3:PT St:=pS [sP 4,sI 5] [eBox 4 [xI,xI]]
def u95_0_3 {β:Type}(g:St->β):Int->Int->Int->β:=p95_0_3.unc g
def p95_0_4:PT St:=pS [sl 0 (aV false [(cD (dX .f64))]),sl 1 (aV false [(cD (dF .f64))]),sP 4,sl 25 (aV true [(cD (dF .f64)),(cD (dF .f64))]),sI 26,sl 27 (aV false [(cD dB)])] [eBox 4 [xI,xI]]
def u95_0_4 {β:Type}(g:St->β):Nat->Nat->Nat->Nat->Nat->Int->Bool->Int->Int->β:=p95_0_4.unc g
def p95_0_5:PT St:=pS [sl 0 (aV false [(cD (dX .f64))]),sl 1 (aV false [(cD (dF .f64))]),sP 4,sl 10 (aV false [(cD (dF .f64))]),sl 25 (aV true [(cD (dF .f64)),(cD (dF .f64))]),sI 26] [eBox 4 [xI,xI]]
def u95_0_5 {β:Type}(g:St->β):Nat->Nat->Nat->Nat->Nat->Nat->Int->Int->Int->β:=p95_0_5.unc g
def p95_0_6:PT St:=pS [sl 0 (aV false [(cD (dX .f64))]),sl 1 (aV false [(cD (dF .f64))]),sP 4,sl 25 (aV true [(cD (dF .f64)),(cD (dF .f64))]),sI 26] [eBox 4 [xI,xI]]
def u95_0_6 {β:Type}(g:St->β):Nat->Nat->Nat->Nat->Nat->Int->Int->Int->β:=p95_0_6.unc g
def pr95_0_0:PT (List RV):=pRs [pR true [rD (dI .i64),rD (dI .i64)],wI]
def ur95_0_0 {β:Type}(g:List RV->β):Int->Int->Int->β:=pr95_0_0.unc g
def E95_0g (a:Tf128_0)(b:Tf129_0)(c:Tf130_0):EnvK:=EnvK.of [⟨128,nt128,[⟨pa128_0,Fn128_0 a⟩]⟩,⟨129,nt129,[⟨pa129_0,Fn129_0 b⟩]⟩,⟨130,nt130,[⟨pa130_0,Fn130_0 c⟩]⟩] noSeq
def E95_0:EnvK:=E95_0g f128_0 f129_0 f130_0
theorem eo95_0:E95_0.Ok Pg:=EnvK.of_ok noSeq_ok ⟨⟨io128_0,trivial⟩,⟨io129_0,trivial⟩,⟨io130_0,trivial⟩,trivial⟩
def c95_0_35g:MCode:=(.region r95_36 [] (tO [0,1,4,10,25,26]))
def c95_0_35:MCode:=c95_0_35g
theorem g95_0_35:c95_0_35.Good Pg E95_0 sh95:=trivial
abbrev TJ95_0_2:Type 1:=(α:Type)->Nat->Nat->Int->(Nat->Op α)->Op α
def J95_0_2g (α:Type)(b c:Nat)(a:Int)(k1:Nat->Op α):Op α:=
 cK (a == 1)
 (k1 c)
 (cK (a == 0)
 (k1 b)
 (none))
def J95_0_2 (α:Type)(a b:Nat)(c:Int)(k1:Nat->Op α):Op α:=J95_0_2g α a b c k1
def F95_0_2 (v:TJ95_0_2)(α:Type)(K:KT α):Nat->Nat->Nat->Nat->Nat->Int->Bool->Int->Int->Op α:=fun d e g a b c l h i=>v α a b c (fun j=>u95_0_5 (K .normal) d e g j a b c h i)
theorem m95_0_2g (a:Tf128_0)(b:Tf129_0)(c:Tf130_0)(α:Type)(K:KT α):F95_0_2 (J95_0_2g ) α K=p95_0_4.unc fun σ=>runM Pg (E95_0g a b c) sh95 (c95_0_35g ) K σ:=by kernel_rfl
theorem m95_0_2:∀ (α:Type) (K:KT α),F95_0_2 J95_0_2 α K=p95_0_4.unc fun σ=>runM Pg E95_0 sh95 c95_0_35 K σ:=m95_0_2g f128_0 f129_0 f130_0
def c95_0_28g (a:TJ95_0_2):MCode:=(.seq (.region r95_30 [] (tO [0,1,4,25,26,27])) (.seq (.cond (.tmp 27) .skip (.exit 2)) (.seq (.block 3 (.seq (.mark [⟨p95_0_4,F95_0_2 a⟩] c95_0_35) (.seq (.region r95_38 [] (tO [0,1,4,25,26,32])) (.cond (.tmp 32) (.seq (.region r95_41 [] (tO [4,5])) .ret) .skip)))) (.region r95_42 [] (tO [0,1,4,25,26])))))
def c95_0_28:MCode:=c95_0_28g J95_0_2
theorem g95_0_28:c95_0_28.Good Pg E95_0 sh95:=⟨trivial,⟨trivial,trivial⟩,⟨⟨g95_0_35,m95_0_2,trivial⟩,trivial,⟨trivial,trivial⟩,trivial⟩,trivial⟩
def S95_0_3g (b:TJ95_0_2)(c:Tf129_0)(α:Type)(d e g:Nat)(a:Int)(kn:Int->Op α)(k1:Op α)(k2:Int->Bool->Op α):Op α:=
 cK (decide (a < 2))
 (b α e g a
 (fun h=>c α h
 (fun i=>cK ((FloatKind.format .f64).order i d == some Ordering.gt)
 (k1)
 (kn (w64 (a+1))))))
 (k2 a (decide (a < 2)))
def S95_0_3 (α:Type)(a b c:Nat)(d:Int)(kn:Int->Op α)(k1:Op α)(k2:Int->Bool->Op α):Op α:=S95_0_3g J95_0_2 f129_0 α a b c d kn k1 k2
def R95_0_3 (α:Type)(a b c:Nat)(k1:Op α)(k2:Int->Bool->Op α):Nat->Int->Op α
 | 0,_=>none
 | n+1,d=>S95_0_3 α a b c d (R95_0_3 α a b c k1 k2 n) k1 k2
def L95_0_3 (α:Type)(a b c:Nat)(k1:Op α)(k2:Int->Bool->Op α)(d:Int):Op α:=R95_0_3 α a b c k1 k2 fuel d
abbrev TL95_0_3:Type 1:=(α:Type)->Nat->Nat->Nat->(Op α)->(Int->Bool->Op α)->Int->Op α
def F95_0_3 (v:TL95_0_3)(α:Type)(K:KT α):Nat->Nat->Nat->Nat->Nat->Int->Int->Int->Op α:=fun d e a b c g h i=>v α a b c (u95_0_3 (K .ret) 2 0 0) (fun j l=>u95_0_4 (K (.exit 2)) d e a b c j l h i) g
theorem r95_0_3g (m:Tf128_0)(j:Tf129_0)(o:Tf130_0)(l:TJ95_0_2)(α:Type)(K:KT α)(Kn:SK α)(e g a b c:Nat)(d h i:Int):u95_0_6 (fun σ=>runM Pg (E95_0g m j o) sh95 (c95_0_28g l) (thenK (fun σ=>tidyK td95_28 σ Kn) K) σ) e g a b c d h i=S95_0_3g l j α a b c d (fun d=>u95_0_6 Kn e g a b c d h i) (u95_0_3 (K .ret) 2 0 0) (fun p q=>u95_0_4 (K (.exit 2)) e g a b c p q h i):=by kernel_rfl
theorem r95_0_3 (α:Type)(K:KT α)(Kn:SK α)(e g a b c:Nat)(d h i:Int):u95_0_6 (fun σ=>runM Pg E95_0 sh95 c95_0_28 (thenK (fun σ=>tidyK td95_28 σ Kn) K) σ) e g a b c d h i=S95_0_3 α a b c d (fun d=>u95_0_6 Kn e g a b c d h i) (u95_0_3 (K .ret) 2 0 0) (fun j l=>u95_0_4 (K (.exit 2)) e g a b c j l h i):=r95_0_3g f128_0 f129_0 f130_0 J95_0_2 α K Kn e g a b c d h i
theorem t95_0_3 (α:Type)(K:KT α):∀ (n:Nat) (e g a b c:Nat) (d h i:Int),R95_0_3 α a b c (u95_0_3 (K .ret) 2 0 0) (fun j l=>u95_0_4 (K (.exit 2)) e g a b c j l h i) n d=u95_0_6 (loopT (runM Pg E95_0 sh95 c95_0_28) td95_28 K n) e g a b c d h i:=by
 intro n
 induction n with
 | zero=>intros;rfl
 | succ n ih=>intro e g a b c d h i;exact (congrArg (fun kn=>S95_0_3 α a b c d kn (u95_0_3 (K .ret) 2 0 0) (fun j l=>u95_0_4 (K (.exit 2)) e g a b c j l h i)) (funext fun d=>ih e g a b c d h i)).trans (r95_0_3 α K (loopT (runM Pg E95_0 sh95 c95_0_28) td95_28 K n) e g a b c d h i).symm
theorem m95_0_3:∀ (α:Type) (K:KT α),F95_0_3 L95_0_3 α K=p95_0_6.unc fun σ=>loopT (runM Pg E95_0 sh95 c95_0_28) td95_28 K fuel σ:=fun α K=>by funext a b c d e g h i;exact t95_0_3 α K fuel a b c d e g h i
def c95_0_16g:MCode:=(.region r95_17 [] (tO [0,1,4,6,8,16,17]))
def c95_0_16:MCode:=c95_0_16g
theorem g95_0_16:c95_0_16.Good Pg E95_0 sh95:=trivial
abbrev TJ95_0_0:Type 1:=(α:Type)->Nat->Nat->Int->(Nat->Op α)->Op α
def J95_0_0g (α:Type)(b c:Nat)(a:Int)(k1:Nat->Op α):Op α:=
 cK (a == 1)
 (k1 c)
 (cK (a == 0)
 (k1 b)
 (none))
def J95_0_0 (α:Type)(a b:Nat)(c:Int)(k1:Nat->Op α):Op α:=J95_0_0g α a b c k1
def F95_0_0 (v:TJ95_0_0)(α:Type)(K:KT α):Nat->Nat->Nat->Nat->Nat->Int->Bool->Int->Int->Nat->Nat->Op α:=fun d e g a b c o h i j l=>v α a b c (fun m=>u95_0_1 (K .normal) d e g m a b c h i j l)
theorem m95_0_0g (a:Tf128_0)(b:Tf129_0)(c:Tf130_0)(α:Type)(K:KT α):F95_0_0 (J95_0_0g ) α K=p95_0_0.unc fun σ=>runM Pg (E95_0g a b c) sh95 (c95_0_16g ) K σ:=by kernel_rfl
theorem m95_0_0:∀ (α:Type) (K:KT α),F95_0_0 J95_0_0 α K=p95_0_0.unc fun σ=>runM Pg E95_0 sh95 c95_0_16 K σ:=m95_0_0g f128_0 f129_0 f130_0
def c95_0_9g (a:TJ95_0_0):MCode:=(.seq (.region r95_11 [] (tO [0,1,4,6,16,17,18])) (.seq (.cond (.tmp 18) .skip (.exit 0)) (.seq (.block 1 (.seq (.mark [⟨p95_0_0,F95_0_0 a⟩] c95_0_16) (.seq (.region r95_19 [] (tO [0,1,4,6,16,17,22])) (.cond (.tmp 22) (.seq (.region r95_22 [] (tO [4,5])) .ret) .skip)))) (.region r95_23 [] (tO [0,1,4,6,16,17])))))
def c95_0_9:MCode:=c95_0_9g J95_0_0
theorem g95_0_9:c95_0_9.Good Pg E95_0 sh95:=⟨trivial,⟨trivial,trivial⟩,⟨⟨g95_0_16,m95_0_0,trivial⟩,trivial,⟨trivial,trivial⟩,trivial⟩,trivial⟩
def S95_0_1g (b:TJ95_0_0)(c:Tf128_0)(α:Type)(d e:Nat)(a:Int)(kn:Int->Op α)(k1:Op α)(k2:Int->Bool->Op α):Op α:=
 cK (decide (a < 2))
 (b α d e a
 (fun g=>c α g
 (fun h=>cK (!h)
 (k1)
 (kn (w64 (a+1))))))
 (k2 a (decide (a < 2)))
def S95_0_1 (α:Type)(a b:Nat)(c:Int)(kn:Int->Op α)(k1:Op α)(k2:Int->Bool->Op α):Op α:=S95_0_1g J95_0_0 f128_0 α a b c kn k1 k2
def R95_0_1 (α:Type)(a b:Nat)(k1:Op α)(k2:Int->Bool->Op α):Nat->Int->Op α
 | 0,_=>none
 | n+1,c=>S95_0_1 α a b c (R95_0_1 α a b k1 k2 n) k1 k2
def L95_0_1 (α:Type)(a b:Nat)(k1:Op α)(k2:Int->Bool->Op α)(c:Int):Op α:=R95_0_1 α a b k1 k2 fuel c
abbrev TL95_0_1:Type 1:=(α:Type)->Nat->Nat->(Op α)->(Int->Bool->Op α)->Int->Op α
def F95_0_1 (v:TL95_0_1)(α:Type)(K:KT α):Nat->Nat->Nat->Nat->Nat->Int->Int->Int->Nat->Nat->Op α:=fun c d e a b g h i j l=>v α a b (u95_0_3 (K .ret) 27 0 0) (fun m o=>u95_0_0 (K (.exit 0)) c d e a b m o h i j l) g
theorem r95_0_1g (m:Tf128_0)(p:Tf129_0)(q:Tf130_0)(o:TJ95_0_0)(α:Type)(K:KT α)(Kn:SK α)(d e g a b:Nat)(c h i:Int)(j l:Nat):u95_0_2 (fun σ=>runM Pg (E95_0g m p q) sh95 (c95_0_9g o) (thenK (fun σ=>tidyK td95_9 σ Kn) K) σ) d e g a b c h i j l=S95_0_1g o m α a b c (fun c=>u95_0_2 Kn d e g a b c h i j l) (u95_0_3 (K .ret) 27 0 0) (fun r s=>u95_0_0 (K (.exit 0)) d e g a b r s h i j l):=by kernel_rfl
theorem r95_0_1 (α:Type)(K:KT α)(Kn:SK α)(d e g a b:Nat)(c h i:Int)(j l:Nat):u95_0_2 (fun σ=>runM Pg E95_0 sh95 c95_0_9 (thenK (fun σ=>tidyK td95_9 σ Kn) K) σ) d e g a b c h i j l=S95_0_1 α a b c (fun c=>u95_0_2 Kn d e g a b c h i j l) (u95_0_3 (K .ret) 27 0 0) (fun m o=>u95_0_0 (K (.exit 0)) d e g a b m o h i j l):=r95_0_1g f128_0 f129_0 f130_0 J95_0_0 α K Kn d e g a b c h i j l
theorem t95_0_1 (α:Type)(K:KT α):∀ (n:Nat) (d e g a b:Nat) (c h i:Int) (j l:Nat),R95_0_1 α a b (u95_0_3 (K .ret) 27 0 0) (fun m o=>u95_0_0 (K (.exit 0)) d e g a b m o h i j l) n c=u95_0_2 (loopT (runM Pg E95_0 sh95 c95_0_9) td95_9 K n) d e g a b c h i j l:=by
 intro n
 induction n with
 | zero=>intros;rfl
 | succ n ih=>intro d e g a b c h i j l;exact (congrArg (fun kn=>S95_0_1 α a b c kn (u95_0_3 (K .ret) 27 0 0) (fun m o=>u95_0_0 (K (.exit 0)) d e g a b m o h i j l)) (funext fun c=>ih d e g a b c h i j l)).trans (r95_0_1 α K (loopT (runM Pg E95_0 sh95 c95_0_9) td95_9 K n) d e g a b c h i j l).symm
theorem m95_0_1:∀ (α:Type) (K:KT α),F95_0_1 L95_0_1 α K=p95_0_2.unc fun σ=>loopT (runM Pg E95_0 sh95 c95_0_9) td95_9 K fuel σ:=fun α K=>by funext a b c d e g h i j l;exact t95_0_1 α K fuel a b c d e g h i j l
abbrev Tf95_0:Type 1:=(α:Type)->Nat->Nat->Nat->(Int->Int->Int->Op α)->Op α
def f95_0g (c:TL95_0_1)(d:TL95_0_3)(e:Tf130_0)(α:Type)(a b g:Nat)(k1:Int->Int->Int->Op α):Op α:=
 c α a b
 (k1 0 0 27)
 (fun j l=>d α g a b
 (k1 0 0 2)
 (fun m o=>e α a b
 (fun h i=>k1 h i 0)) 0) 0
def f95_0 (α:Type)(a b c:Nat)(k1:Int->Int->Int->Op α):Op α:=f95_0g L95_0_1 L95_0_3 f130_0 α a b c k1
def pa95_0:PT (List DV):=pA [pV false [(dX .f64)],pV false [(dF .f64)]]
def Fn95_0 (v:Tf95_0)(α:Type)(k:RT α):Nat->Nat->Nat->Op α:=fun a b c=>v α a b c (fun d e g=>ur95_0_0 k d e g)
def cm95_0g (a:TL95_0_1)(b:TL95_0_3):MCode:=(.seq (.region r95_2 [] (tO [0,1,4])) (.seq (.region r95_4 [] (tO [0,1,4,6])) (.seq (.seq (.region r95_7 [] (tO [0,1,4,6,16,17])) (.block 0 (.loop td95_9 [⟨p95_0_2,F95_0_1 a⟩] c95_0_9))) (.seq (.seq (.region r95_26 [] (tO [0,1,4,25,26])) (.block 2 (.loop td95_28 [⟨p95_0_6,F95_0_3 b⟩] c95_0_28))) (.seq (.region r95_44 [] (tO [4,5])) .ret)))))
def cm95_0:MCode:=cm95_0g L95_0_1 L95_0_3
theorem gm95_0:cm95_0.Good Pg E95_0 sh95:=⟨trivial,trivial,⟨trivial,g95_0_9,m95_0_1,trivial⟩,⟨trivial,g95_0_28,m95_0_3,trivial⟩,trivial,trivial⟩
theorem fm95_0g (d:Tf128_0)(e:Tf129_0)(a:Tf130_0)(b:TL95_0_1)(c:TL95_0_3)(α:Type)(k:RT α):Fn95_0 (f95_0g b c a) α k=pa95_0.unc fun ds=>fnM Pg (E95_0g d e a) sh95 (cm95_0g b c) rs95 k ds:=by kernel_rfl
theorem fm95_0:∀ (α:Type) (k:RT α),Fn95_0 f95_0 α k=pa95_0.unc fun ds=>fnM Pg E95_0 sh95 cm95_0 rs95 k ds:=fm95_0g f128_0 f129_0 f130_0 L95_0_1 L95_0_3
theorem is95:FnIs Pg 95 nt95 tr95 tl95 cm95_0.erase rs95:=⟨Tryz.f95,Tryz.func95,rfl,by kernel_rfl,by kernel_rfl,by kernel_rfl⟩
theorem io95_0:InstOk Pg 95 nt95 ⟨pa95_0,Fn95_0 f95_0⟩:=inst_ok eo95_0 followsTry is95 ⟨⟨sh95,cm95_0,by kernel_rfl,gm95_0,fm95_0⟩⟩
end
end Go.AM.K
