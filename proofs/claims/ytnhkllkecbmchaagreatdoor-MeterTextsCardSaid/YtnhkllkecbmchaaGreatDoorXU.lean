/- Printed by KGen. -/
import Derived.Test.YtnhkllkecbmchaaGreatDoorXA1
namespace Go.AM.K
open Go.Proofs
set_option maxRecDepth 100000
set_option linter.unusedVariables false
noncomputable section
abbrev nt300:Nat:=13
def sh300:SG:=[(6,iT),(10,iT)]
def r300_2:LA:=[oO 3 (.alloc [(cI 0),(cI 0)])]
def r300_4:LA:=[oM 4 0,fA 5 2 1,lD 6 5,bT 7 .sub 4 6,oM 8 0,fA 9 2 1,lD 10 9,bT 11 .add 8 10,oO 12 (.build [(cI 0),(cI 0)] [(0,1,(.tmp 7)),(1,1,(.tmp 11))]),sD 2 3 12]
def tr300:TG:=[tT 0 [0,1,3],tT 1 [3]]
def tl300:TG:=[]
def rs300:List AResV:=[.cell 3 true 2]
def pr300_0_0:PT (List RV):=pRs [pR true [rD (dI .i64),rD (dI .i64)]]
def ur300_0_0 {β:Type}(g:List RV->β):Int->Int->β:=pr300_0_0.unc g
def E300_0g:EnvK:=EnvK.of [] noSeq
def E300_0:EnvK:=E300_0g
theorem eo300_0:E300_0.Ok Pg:=EnvK.of_ok noSeq_ok TT
abbrev Tf300_0:Type 1:=(α:Type)->Int->Int->Int->Int->(Int->Int->Op α)->Op α
def f300_0g (α:Type)(a c d b:Int)(k1:Int->Int->Op α):Op α:=
 k1 (w64 (a - b)) (w64 (a+b))
def f300_0 (α:Type)(a b c d:Int)(k1:Int->Int->Op α):Op α:=f300_0g α a b c d k1
def pa300_0:PT (List DV):=pA [vI,pV false [(dP [(dI .i64),(dI .i64),(dI .i64)] 0)]]
def Fn300_0 (v:Tf300_0)(α:Type)(k:RT α):I4 (Op α):=fun a b c d=>v α a b c d (fun e g=>ur300_0_0 k e g)
def cm300_0g:MCode:=(.seq (.region r300_2 [] (tO [0,1,3])) (.seq (.region r300_4 [] (tO [3])) .ret))
def cm300_0:MCode:=cm300_0g
theorem gm300_0:cm300_0.Good Pg E300_0 sh300:=⟨TT,TT,TT⟩
theorem fm300_0g (α:Type)(k:RT α):Fn300_0 (f300_0g ) α k=pa300_0.unc fun ds=>fnM Pg (E300_0g ) sh300 (cm300_0g ) rs300 k ds:=by kernel_rfl
theorem fm300_0:∀ (α:Type) (k:RT α),Fn300_0 f300_0 α k=pa300_0.unc fun ds=>fnM Pg E300_0 sh300 cm300_0 rs300 k ds:=fm300_0g
theorem is300:FnIs Pg 300 nt300 tr300 tl300 cm300_0.erase rs300:=⟨Tryz.f300,Tryz.func300,rfl,by kernel_rfl,by kernel_rfl,by kernel_rfl⟩
theorem io300_0:InstOk Pg 300 nt300 ⟨pa300_0,Fn300_0 f300_0⟩:=inst_ok eo300_0 followsTry is300 ⟨⟨sh300,cm300_0,by kernel_rfl,gm300_0,fm300_0⟩⟩
abbrev nt346:Nat:=10
def sh346:SG:=[]
def r346_2:LA:=[oO 2 (.alloc [(cI 0),(cI 0)])]
def r346_4:LA:=[oM 3 0,oO 4 (.pure (oB (.call { callee:=.builtin .real,args:=#[(.tmp 3)],argTypes:=#[98] }) 231)),oO 5 (.pure (oB (.convert 231 3 (.tmp 4)) 3)),oM 6 0,oO 7 (.pure (oB (.call { callee:=.builtin .imag,args:=#[(.tmp 6)],argTypes:=#[98] }) 231)),oO 8 (.pure (oB (.convert 231 3 (.tmp 7)) 3)),oO 9 (.build [(cI 0),(cI 0)] [(0,1,(.tmp 5)),(1,1,(.tmp 8))]),sD 2 2 9]
def tr346:TG:=[tT 0 [0,2],tT 1 [2]]
def tl346:TG:=[]
def rs346:List AResV:=[.cell 2 true 2]
def pr346_0_0:PT (List RV):=pRs [pR true [rD (dI .i64),rD (dI .i64)]]
def ur346_0_0 {β:Type}(g:List RV->β):Int->Int->β:=pr346_0_0.unc g
def E346_0g:EnvK:=EnvK.of [] noSeq
def E346_0:EnvK:=E346_0g
theorem eo346_0:E346_0.Ok Pg:=EnvK.of_ok noSeq_ok TT
abbrev Tf346_0:Type 1:=(α:Type)->Nat->Nat->(Int->Int->Op α)->Op α
def f346_0g (α:Type)(a b:Nat)(k1:Int->Int->Op α):Op α:=
 ivK (f2i .f64 a .i64)
 (fun c=>ivK (f2i .f64 b .i64)
 (fun d=>k1 c d))
def f346_0 (α:Type)(a b:Nat)(k1:Int->Int->Op α):Op α:=f346_0g α a b k1
def pa346_0:PT (List DV):=pA [pV false [(dX .f64)]]
def Fn346_0 (v:Tf346_0)(α:Type)(k:RT α):Nat->Nat->Op α:=fun a b=>v α a b (fun c d=>ur346_0_0 k c d)
def cm346_0g:MCode:=(.seq (.region r346_2 [] (tO [0,2])) (.seq (.region r346_4 [] (tO [2])) .ret))
def cm346_0:MCode:=cm346_0g
theorem gm346_0:cm346_0.Good Pg E346_0 sh346:=⟨TT,TT,TT⟩
theorem fm346_0g (α:Type)(k:RT α):Fn346_0 (f346_0g ) α k=pa346_0.unc fun ds=>fnM Pg (E346_0g ) sh346 (cm346_0g ) rs346 k ds:=by kernel_rfl
theorem fm346_0:∀ (α:Type) (k:RT α),Fn346_0 f346_0 α k=pa346_0.unc fun ds=>fnM Pg E346_0 sh346 cm346_0 rs346 k ds:=fm346_0g
theorem is346:FnIs Pg 346 nt346 tr346 tl346 cm346_0.erase rs346:=⟨Tryz.f346,Tryz.func346,rfl,by kernel_rfl,by kernel_rfl,by kernel_rfl⟩
theorem io346_0:InstOk Pg 346 nt346 ⟨pa346_0,Fn346_0 f346_0⟩:=inst_ok eo346_0 followsTry is346 ⟨⟨sh346,cm346_0,by kernel_rfl,gm346_0,fm346_0⟩⟩
abbrev nt273:Nat:=7
def sh273:SG:=[]
def r273_2:LA:=[oO 2 (.mv (.const (.float Go.FloatKind.f64 0)))]
def r273_4:LA:=[oM 3 0,oO 4 (.pure (oB (.call { callee:=.value (.func 243),args:=#[(.tmp 3)],argTypes:=#[231] }) 370)),oO 5 (.bin .andNot 370 (.tmp 4) (.const (.int .u64 9223372036854775808))),oO 6 (.pure (oB (.call { callee:=.value (.func 310),args:=#[(.tmp 5)],argTypes:=#[370] }) 231)),oM 2 6]
def tr273:TG:=[tT 0 [0],tT 1 [2]]
def tl273:TG:=[]
def rs273:List AResV:=[.tmp 2]
def pr273_0_0:PT (List RV):=pRs [pR false [rD (dF .f64)]]
def ur273_0_0 {β:Type}(g:List RV->β):Nat->β:=pr273_0_0.unc g
def E273_0g:EnvK:=EnvK.of [] noSeq
def E273_0:EnvK:=E273_0g
theorem eo273_0:E273_0.Ok Pg:=EnvK.of_ok noSeq_ok TT
abbrev Tf273_0:Type 1:=(α:Type)->Nat->(Nat->Op α)->Op α
def f273_0g (α:Type)(a:Nat)(k1:Nat->Op α):Op α:=
 k1 (Int.toNat (iAndNot .u64 ((a:Nat):Int) 9223372036854775808))
def f273_0 (α:Type)(a:Nat)(k1:Nat->Op α):Op α:=f273_0g α a k1
def pa273_0:PT (List DV):=pA [pV false [(dF .f64)]]
def Fn273_0 (v:Tf273_0)(α:Type)(k:RT α):Nat->Op α:=fun a=>v α a (fun b=>ur273_0_0 k b)
def cm273_0g:MCode:=(.seq (.region r273_2 [] (tO [0])) (.seq (.region r273_4 [] (tO [2])) .ret))
def cm273_0:MCode:=cm273_0g
theorem gm273_0:cm273_0.Good Pg E273_0 sh273:=⟨TT,TT,TT⟩
theorem fm273_0g (α:Type)(k:RT α):Fn273_0 (f273_0g ) α k=pa273_0.unc fun ds=>fnM Pg (E273_0g ) sh273 (cm273_0g ) rs273 k ds:=by kernel_rfl
theorem fm273_0:∀ (α:Type) (k:RT α),Fn273_0 f273_0 α k=pa273_0.unc fun ds=>fnM Pg E273_0 sh273 cm273_0 rs273 k ds:=fm273_0g
theorem is273:FnIs Pg 273 nt273 tr273 tl273 cm273_0.erase rs273:=⟨Tryz.f273,Tryz.func273,rfl,by kernel_rfl,by kernel_rfl,by kernel_rfl⟩
theorem io273_0:InstOk Pg 273 nt273 ⟨pa273_0,Fn273_0 f273_0⟩:=inst_ok eo273_0 followsTry is273 ⟨⟨sh273,cm273_0,by kernel_rfl,gm273_0,fm273_0⟩⟩
abbrev nt221:Nat:=7
def sh221:SG:=[]
def r221_2:LA:=[oO 2 (.mv (.const (.float Go.FloatKind.f64 0)))]
def r221_6:LA:=[oM 3 0,oO 4 (.pure (oB (.call { callee:=.value (.func 277),args:=#[(.tmp 3)],argTypes:=#[231] }) 231)),oM 2 4]
def r221_8:LA:=[oM 5 0,oO 6 (.call 278 [.tmp 5]),oM 2 6]
def tr221:TG:=[tT 0 [0],tT 1 [2],tT 2 [2]]
def tl221:TG:=[]
def rs221:List AResV:=[.tmp 2]
def pr221_0_0:PT (List RV):=pRs [pR false [rD (dNan .f64)]]
def ur221_0_0 {β:Type}(g:List RV->β):β:=pr221_0_0.unc g
def pr221_0_1:PT (List RV):=pRs [pR false [rD (dF .f64)]]
def ur221_0_1 {β:Type}(g:List RV->β):Nat->β:=pr221_0_1.unc g
def E221_0g:EnvK:=EnvK.of [] noSeq
def E221_0:EnvK:=E221_0g
theorem eo221_0:E221_0.Ok Pg:=EnvK.of_ok noSeq_ok TT
abbrev Tf221_0:Type 1:=(α:Type)->Nat->(Op α)->(Nat->Op α)->Op α
def f221_0g (α:Type)(a:Nat)(k1:Op α)(k2:Nat->Op α):Op α:=
 cK (isNaNb .f64 a)
 (k1)
 (k2 (truncF a))
def f221_0 (α:Type)(a:Nat)(k1:Op α)(k2:Nat->Op α):Op α:=f221_0g α a k1 k2
def pa221_0:PT (List DV):=pA [pV false [(dF .f64)]]
def Fn221_0 (v:Tf221_0)(α:Type)(k:RT α):Nat->Op α:=fun a=>v α a (ur221_0_0 k ) (fun b=>ur221_0_1 k b)
def cm221_0g:MCode:=(.seq (.region r221_2 [] (tO [0])) (.seq (.cond (.const (.bool true)) (.seq (.region r221_6 [] (tO [2])) .ret) .skip) (.seq (.region r221_8 [] (tO [2])) .ret)))
def cm221_0:MCode:=cm221_0g
theorem gm221_0:cm221_0.Good Pg E221_0 sh221:=⟨TT,⟨⟨TT,TT⟩,TT⟩,TT,TT⟩
theorem fm221_0g (α:Type)(k:RT α):Fn221_0 (f221_0g ) α k=pa221_0.unc fun ds=>fnM Pg (E221_0g ) sh221 (cm221_0g ) rs221 k ds:=by kernel_rfl
theorem fm221_0:∀ (α:Type) (k:RT α),Fn221_0 f221_0 α k=pa221_0.unc fun ds=>fnM Pg E221_0 sh221 cm221_0 rs221 k ds:=fm221_0g
theorem is221:FnIs Pg 221 nt221 tr221 tl221 cm221_0.erase rs221:=⟨Tryz.f221,Tryz.func221,rfl,by kernel_rfl,by kernel_rfl,by kernel_rfl⟩
theorem io221_0:InstOk Pg 221 nt221 ⟨pa221_0,Fn221_0 f221_0⟩:=inst_ok eo221_0 followsTry is221 ⟨⟨sh221,cm221_0,by kernel_rfl,gm221_0,fm221_0⟩⟩
abbrev nt344:Nat:=10
def sh344:SG:=[(4,iT),(7,iT)]
def r344_2:LA:=[oO 1 (.box (.tmp 0)),oO 2 (.mv (.const (.complex Go.FloatKind.f64 0 0)))]
def r344_4:LA:=[fA 3 0 1,lD 4 3,oO 5 (.pure (oB (.convert 3 231 (.tmp 4)) 231)),fA 6 1 1,lD 7 6,oO 8 (.pure (oB (.convert 3 231 (.tmp 7)) 231)),oO 9 (.pure (oB (.call { callee:=.builtin .complex,args:=#[(.tmp 5),(.tmp 8)],argTypes:=#[231,231] }) 98)),oM 2 9]
def tr344:TG:=[tT 0 [1],tT 1 [2]]
def tl344:TG:=[]
def rs344:List AResV:=[.tmp 2]
def pr344_0_0:PT (List RV):=pRs [pR false [rD (dX .f64)]]
def ur344_0_0 {β:Type}(g:List RV->β):Nat->Nat->β:=pr344_0_0.unc g
def E344_0g:EnvK:=EnvK.of [] noSeq
def E344_0:EnvK:=E344_0g
theorem eo344_0:E344_0.Ok Pg:=EnvK.of_ok noSeq_ok TT
abbrev Tf344_0:Type 1:=(α:Type)->Int->Int->(Nat->Nat->Op α)->Op α
def f344_0g (α:Type)(a b:Int)(k1:Nat->Nat->Op α):Op α:=
 k1 (FloatKind.nearest .f64 a) (FloatKind.nearest .f64 b)
def f344_0 (α:Type)(a b:Int)(k1:Nat->Nat->Op α):Op α:=f344_0g α a b k1
def pa344_0:PT (List DV):=pA [pV true [(dI .i64),(dI .i64)]]
def Fn344_0 (v:Tf344_0)(α:Type)(k:RT α):Int->Int->Op α:=fun a b=>v α a b (fun c d=>ur344_0_0 k c d)
def cm344_0g:MCode:=(.seq (.region r344_2 [] (tO [1])) (.seq (.region r344_4 [] (tO [2])) .ret))
def cm344_0:MCode:=cm344_0g
theorem gm344_0:cm344_0.Good Pg E344_0 sh344:=⟨TT,TT,TT⟩
theorem fm344_0g (α:Type)(k:RT α):Fn344_0 (f344_0g ) α k=pa344_0.unc fun ds=>fnM Pg (E344_0g ) sh344 (cm344_0g ) rs344 k ds:=by kernel_rfl
theorem fm344_0:∀ (α:Type) (k:RT α),Fn344_0 f344_0 α k=pa344_0.unc fun ds=>fnM Pg E344_0 sh344 cm344_0 rs344 k ds:=fm344_0g
theorem is344:FnIs Pg 344 nt344 tr344 tl344 cm344_0.erase rs344:=⟨Tryz.f344,Tryz.func344,rfl,by kernel_rfl,by kernel_rfl,by kernel_rfl⟩
theorem io344_0:InstOk Pg 344 nt344 ⟨pa344_0,Fn344_0 f344_0⟩:=inst_ok eo344_0 followsTry is344 ⟨⟨sh344,cm344_0,by kernel_rfl,gm344_0,fm344_0⟩⟩
abbrev nt342:Nat:=16
def sh342:SG:=[(9,iT),(12,iT),(15,iS 2)]
def r342_2:LA:=[oO 2 (.box (.tmp 0)),oO 4 (.alloc [(cI 0),(cI 0)])]
def r342_5:LA:=[oM 5 1,mK 6 0]
def td342_7:OT:=(tO [2,4,5,6])
def r342_9:LA:=[bT 7 .lss 6 5]
def r342_14:LA:=[fA 8 1 2,lD 9 8,oO 10 (.pure (oB (.unOp .neg 3 (.tmp 9)) 3)),fA 11 0 2,lD 12 11,oO 13 (.build [(cI 0),(cI 0)] [(0,1,(.tmp 10)),(1,1,(.tmp 12))]),sD 2 2 13]
def r342_15:LA:=[bK 14 .add 6 1,oM 6 14]
def r342_17:LA:=[lA 15 2 2,sD 2 4 15]
def tr342:TG:=[tT 0 [1,2,4],tT 1 [2,4,5,6],tT 2 [2,4,5,6,7],tT 3 [2,4,5,6],tT 4 [2,4,5,6],tT 5 [4]]
def tl342:TG:=[tT 2 [2,4,5,6]]
def rs342:List AResV:=[.cell 4 true 2]
def p342_0_0:PT St:=pS [sP 2,sP 4,sI 5,sI 6] [eBox 2 [xI,xI],eBox 4 [xI,xI]]
def u342_0_0 {β:Type}(g:St->β):I6 β:=p342_0_0.unc g
def p342_0_1:PT St:=pS [sP 2,sP 4,sI 5,sI 6,sY 7 dB] [eBox 2 [xI,xI],eBox 4 [xI,xI]]
def u342_0_1 {β:Type}(g:St->β):Int->Int->Bool->I4 β:=p342_0_1.unc g
def pr342_0_0:PT (List RV):=pRs [pR true [rD (dI .i64),rD (dI .i64)]]
def ur342_0_0 {β:Type}(g:List RV->β):Int->Int->β:=pr342_0_0.unc g
def E342_0g:EnvK:=EnvK.of [] noSeq
def E342_0:EnvK:=E342_0g
theorem eo342_0:E342_0.Ok Pg:=EnvK.of_ok noSeq_ok TT
def c342_0_7g:MCode:=(.seq (.region r342_9 [] (tO [2,4,5,6,7])) (.seq (.cond (.tmp 7) .skip (.exit 0)) (.seq (.block 1 (.region r342_14 [] (tO [2,4,5,6]))) (.region r342_15 [] (tO [2,4,5,6])))))
def c342_0_7:MCode:=c342_0_7g
theorem g342_0_7:c342_0_7.Good Pg E342_0 sh342:=⟨TT,⟨TT,TT⟩,TT,TT⟩
def S342_0_0g (α:Type)(b a c d:Int)(kn:Int->Int->Int->Op α)(k1:Int->Bool->Int->Int->Op α):Op α:=
 cK (decide (a < b))
 (kn (w64 (a+1)) (w64 (0 - d)) c)
 (k1 a (decide (a < b)) c d)
def S342_0_0 (α:Type)(a b c d:Int)(kn:Int->Int->Int->Op α)(k1:Int->Bool->Int->Int->Op α):Op α:=S342_0_0g α a b c d kn k1
def R342_0_0 (α:Type)(a:Int)(k1:Int->Bool->Int->Int->Op α):Nat->Int->Int->Int->Op α
 | 0,_,_,_=>none
 | n+1,b,c,d=>S342_0_0 α a b c d (R342_0_0 α a k1 n) k1
def L342_0_0 (α:Type)(a:Int)(k1:Int->Bool->Int->Int->Op α)(b c d:Int):Op α:=R342_0_0 α a k1 fuel b c d
abbrev TL342_0_0:Type 1:=(α:Type)->Int->(Int->Bool->Int->Int->Op α)->Int->Int->Int->Op α
def F342_0_0 (v:TL342_0_0)(α:Type)(K:KT α):I6 (Op α):=fun a b c d e g=>v α a (fun h i j l=>u342_0_1 (K (.exit 0)) a h i j l e g) b c d
theorem r342_0_0g (α:Type)(K:KT α)(Kn:SK α)(a b c d e g:Int):u342_0_0 (fun σ=>runM Pg (E342_0g ) sh342 (c342_0_7g ) (thenK (fun σ=>tidyK td342_7 σ Kn) K) σ) a b c d e g=S342_0_0g α a b c d (fun b c d=>u342_0_0 Kn a b c d e g) (fun h i j l=>u342_0_1 (K (.exit 0)) a h i j l e g):=by kernel_rfl
theorem r342_0_0 (α:Type)(K:KT α)(Kn:SK α)(a b c d e g:Int):u342_0_0 (fun σ=>runM Pg E342_0 sh342 c342_0_7 (thenK (fun σ=>tidyK td342_7 σ Kn) K) σ) a b c d e g=S342_0_0 α a b c d (fun b c d=>u342_0_0 Kn a b c d e g) (fun h i j l=>u342_0_1 (K (.exit 0)) a h i j l e g):=r342_0_0g α K Kn a b c d e g
theorem t342_0_0 (α:Type)(K:KT α):∀ (n:Nat) (a b c d e g:Int),R342_0_0 α a (fun h i j l=>u342_0_1 (K (.exit 0)) a h i j l e g) n b c d=u342_0_0 (loopT (runM Pg E342_0 sh342 c342_0_7) td342_7 K n) a b c d e g:=by
 intro n
 induction n with
 | zero=>intros;rfl
 | succ n ih=>intro a b c d e g;exact (congrArg (fun kn=>S342_0_0 α a b c d kn (fun h i j l=>u342_0_1 (K (.exit 0)) a h i j l e g)) (funext fun b=>funext fun c=>funext fun d=>ih a b c d e g)).trans (r342_0_0 α K (loopT (runM Pg E342_0 sh342 c342_0_7) td342_7 K n) a b c d e g).symm
theorem m342_0_0:∀ (α:Type) (K:KT α),F342_0_0 L342_0_0 α K=p342_0_0.unc fun σ=>loopT (runM Pg E342_0 sh342 c342_0_7) td342_7 K fuel σ:=fun α K=>by funext a b c d e g;exact t342_0_0 α K fuel a b c d e g
abbrev Tf342_0:Type 1:=(α:Type)->Int->Int->Int->(Int->Int->Op α)->Op α
def f342_0g (a:TL342_0_0)(α:Type)(b c d:Int)(k1:Int->Int->Op α):Op α:=
 a α d
 (fun h i e g=>k1 e g) 0 b c
def f342_0 (α:Type)(a b c:Int)(k1:Int->Int->Op α):Op α:=f342_0g L342_0_0 α a b c k1
def pa342_0:PT (List DV):=pA [pV true [(dI .i64),(dI .i64)],vI]
def Fn342_0 (v:Tf342_0)(α:Type)(k:RT α):Int->Int->Int->Op α:=fun a b c=>v α a b c (fun d e=>ur342_0_0 k d e)
def cm342_0g (a:TL342_0_0):MCode:=(.seq (.region r342_2 [] (tO [1,2,4])) (.seq (.seq (.region r342_5 [] (tO [2,4,5,6])) (.block 0 (.loop td342_7 [⟨p342_0_0,F342_0_0 a⟩] c342_0_7))) (.seq (.region r342_17 [] (tO [4])) .ret)))
def cm342_0:MCode:=cm342_0g L342_0_0
theorem gm342_0:cm342_0.Good Pg E342_0 sh342:=⟨TT,⟨TT,g342_0_7,m342_0_0,TT⟩,TT,TT⟩
theorem fm342_0g (a:TL342_0_0)(α:Type)(k:RT α):Fn342_0 (f342_0g a) α k=pa342_0.unc fun ds=>fnM Pg (E342_0g ) sh342 (cm342_0g a) rs342 k ds:=by kernel_rfl
theorem fm342_0:∀ (α:Type) (k:RT α),Fn342_0 f342_0 α k=pa342_0.unc fun ds=>fnM Pg E342_0 sh342 cm342_0 rs342 k ds:=fm342_0g L342_0_0
theorem is342:FnIs Pg 342 nt342 tr342 tl342 cm342_0.erase rs342:=⟨Tryz.f342,Tryz.func342,rfl,by kernel_rfl,by kernel_rfl,by kernel_rfl⟩
theorem io342_0:InstOk Pg 342 nt342 ⟨pa342_0,Fn342_0 f342_0⟩:=inst_ok eo342_0 followsTry is342 ⟨⟨sh342,cm342_0,by kernel_rfl,gm342_0,fm342_0⟩⟩
abbrev nt352:Nat:=14
def sh352:SG:=[(4,iT),(6,iT),(9,iT),(11,iT)]
def r352_2:LA:=[oO 1 (.box (.tmp 0)),mK 2 0]
def r352_4:LA:=[fA 3 0 1,lD 4 3,fA 5 0 1,lD 6 5,bT 7 .mul 4 6,fA 8 1 1,lD 9 8,fA 10 1 1,lD 11 10,bT 12 .mul 9 11,bT 13 .add 7 12,oM 2 13]
def tr352:TG:=[tT 0 [1],tT 1 [2]]
def tl352:TG:=[]
def rs352:List AResV:=[.tmp 2]
def pr352_0_0:PT (List RV):=pRs [wI]
def ur352_0_0 {β:Type}(g:List RV->β):Int->β:=pr352_0_0.unc g
def E352_0g:EnvK:=EnvK.of [] noSeq
def E352_0:EnvK:=E352_0g
theorem eo352_0:E352_0.Ok Pg:=EnvK.of_ok noSeq_ok TT
abbrev Tf352_0:Type 1:=(α:Type)->Int->Int->(Int->Op α)->Op α
def f352_0g (α:Type)(a b:Int)(k1:Int->Op α):Op α:=
 k1 (w64 ((w64 (a*a))+(w64 (b*b))))
def f352_0 (α:Type)(a b:Int)(k1:Int->Op α):Op α:=f352_0g α a b k1
def pa352_0:PT (List DV):=pA [pV true [(dI .i64),(dI .i64)]]
def Fn352_0 (v:Tf352_0)(α:Type)(k:RT α):Int->Int->Op α:=fun a b=>v α a b (fun c=>ur352_0_0 k c)
def cm352_0g:MCode:=(.seq (.region r352_2 [] (tO [1])) (.seq (.region r352_4 [] (tO [2])) .ret))
def cm352_0:MCode:=cm352_0g
theorem gm352_0:cm352_0.Good Pg E352_0 sh352:=⟨TT,TT,TT⟩
theorem fm352_0g (α:Type)(k:RT α):Fn352_0 (f352_0g ) α k=pa352_0.unc fun ds=>fnM Pg (E352_0g ) sh352 (cm352_0g ) rs352 k ds:=by kernel_rfl
theorem fm352_0:∀ (α:Type) (k:RT α),Fn352_0 f352_0 α k=pa352_0.unc fun ds=>fnM Pg E352_0 sh352 cm352_0 rs352 k ds:=fm352_0g
theorem is352:FnIs Pg 352 nt352 tr352 tl352 cm352_0.erase rs352:=⟨Tryz.f352,Tryz.func352,rfl,by kernel_rfl,by kernel_rfl,by kernel_rfl⟩
theorem io352_0:InstOk Pg 352 nt352 ⟨pa352_0,Fn352_0 f352_0⟩:=inst_ok eo352_0 followsTry is352 ⟨⟨sh352,cm352_0,by kernel_rfl,gm352_0,fm352_0⟩⟩
abbrev nt336:Nat:=16
def sh336:SG:=[(6,iT),(8,iT),(11,iT),(13,iT)]
def r336_2:LA:=[oO 2 (.box (.tmp 0)),oO 3 (.box (.tmp 1)),oO 4 (.alloc [(cI 0),(cI 0)])]
def r336_4:LA:=[fA 5 0 2,lD 6 5,fA 7 0 3,lD 8 7,bT 9 .add 6 8,fA 10 1 2,lD 11 10,fA 12 1 3,lD 13 12,bT 14 .add 11 13,oO 15 (.build [(cI 0),(cI 0)] [(0,1,(.tmp 9)),(1,1,(.tmp 14))]),sD 2 4 15]
def tr336:TG:=[tT 0 [2,3,4],tT 1 [4]]
def tl336:TG:=[]
def rs336:List AResV:=[.cell 4 true 2]
def pr336_0_0:PT (List RV):=pRs [pR true [rD (dI .i64),rD (dI .i64)]]
def ur336_0_0 {β:Type}(g:List RV->β):Int->Int->β:=pr336_0_0.unc g
def E336_0g:EnvK:=EnvK.of [] noSeq
def E336_0:EnvK:=E336_0g
theorem eo336_0:E336_0.Ok Pg:=EnvK.of_ok noSeq_ok TT
abbrev Tf336_0:Type 1:=(α:Type)->Int->Int->Int->Int->(Int->Int->Op α)->Op α
def f336_0g (α:Type)(a b c d:Int)(k1:Int->Int->Op α):Op α:=
 k1 (w64 (a+c)) (w64 (b+d))
def f336_0 (α:Type)(a b c d:Int)(k1:Int->Int->Op α):Op α:=f336_0g α a b c d k1
def pa336_0:PT (List DV):=pA [pV true [(dI .i64),(dI .i64)],pV true [(dI .i64),(dI .i64)]]
def Fn336_0 (v:Tf336_0)(α:Type)(k:RT α):I4 (Op α):=fun a b c d=>v α a b c d (fun e g=>ur336_0_0 k e g)
def cm336_0g:MCode:=(.seq (.region r336_2 [] (tO [2,3,4])) (.seq (.region r336_4 [] (tO [4])) .ret))
def cm336_0:MCode:=cm336_0g
theorem gm336_0:cm336_0.Good Pg E336_0 sh336:=⟨TT,TT,TT⟩
theorem fm336_0g (α:Type)(k:RT α):Fn336_0 (f336_0g ) α k=pa336_0.unc fun ds=>fnM Pg (E336_0g ) sh336 (cm336_0g ) rs336 k ds:=by kernel_rfl
theorem fm336_0:∀ (α:Type) (k:RT α),Fn336_0 f336_0 α k=pa336_0.unc fun ds=>fnM Pg E336_0 sh336 cm336_0 rs336 k ds:=fm336_0g
theorem is336:FnIs Pg 336 nt336 tr336 tl336 cm336_0.erase rs336:=⟨Tryz.f336,Tryz.func336,rfl,by kernel_rfl,by kernel_rfl,by kernel_rfl⟩
theorem io336_0:InstOk Pg 336 nt336 ⟨pa336_0,Fn336_0 f336_0⟩:=inst_ok eo336_0 followsTry is336 ⟨⟨sh336,cm336_0,by kernel_rfl,gm336_0,fm336_0⟩⟩
abbrev nt351:Nat:=5
def sh351:SG:=[]
def r351_2:LA:=[oO 2 (.mv (.const (.float Go.FloatKind.f64 0)))]
def r351_4:LA:=[oM 3 0,oO 4 (.pure (oB (.call { callee:=.value (.func 353),args:=#[(.tmp 3)],argTypes:=#[231] }) 231)),oM 2 4]
def tr351:TG:=[tT 0 [0],tT 1 [2]]
def tl351:TG:=[]
def rs351:List AResV:=[.tmp 2]
def pr351_0_0:PT (List RV):=pRs [pR false [rD (dF .f64)]]
def ur351_0_0 {β:Type}(g:List RV->β):Nat->β:=pr351_0_0.unc g
def E351_0g:EnvK:=EnvK.of [] noSeq
def E351_0:EnvK:=E351_0g
theorem eo351_0:E351_0.Ok Pg:=EnvK.of_ok noSeq_ok TT
abbrev Tf351_0:Type 1:=(α:Type)->Nat->(Nat->Op α)->Op α
def f351_0g (α:Type)(a:Nat)(k1:Nat->Op α):Op α:=
 flK ((FloatKind.format .f64).sqrt a)
 (fun b=>k1 b)
def f351_0 (α:Type)(a:Nat)(k1:Nat->Op α):Op α:=f351_0g α a k1
def pa351_0:PT (List DV):=pA [pV false [(dF .f64)]]
def Fn351_0 (v:Tf351_0)(α:Type)(k:RT α):Nat->Op α:=fun a=>v α a (fun b=>ur351_0_0 k b)
def cm351_0g:MCode:=(.seq (.region r351_2 [] (tO [0])) (.seq (.region r351_4 [] (tO [2])) .ret))
def cm351_0:MCode:=cm351_0g
theorem gm351_0:cm351_0.Good Pg E351_0 sh351:=⟨TT,TT,TT⟩
theorem fm351_0g (α:Type)(k:RT α):Fn351_0 (f351_0g ) α k=pa351_0.unc fun ds=>fnM Pg (E351_0g ) sh351 (cm351_0g ) rs351 k ds:=by kernel_rfl
theorem fm351_0:∀ (α:Type) (k:RT α),Fn351_0 f351_0 α k=pa351_0.unc fun ds=>fnM Pg E351_0 sh351 cm351_0 rs351 k ds:=fm351_0g
theorem is351:FnIs Pg 351 nt351 tr351 tl351 cm351_0.erase rs351:=⟨Tryz.f351,Tryz.func351,rfl,by kernel_rfl,by kernel_rfl,by kernel_rfl⟩
theorem io351_0:InstOk Pg 351 nt351 ⟨pa351_0,Fn351_0 f351_0⟩:=inst_ok eo351_0 followsTry is351 ⟨⟨sh351,cm351_0,by kernel_rfl,gm351_0,fm351_0⟩⟩
abbrev nt297:Nat:=16
def sh297:SG:=[]
def r297_2:LA:=[mK 4 0]
def r297_4:LA:=[oM 6 0,oM 7 1,bT 8 .quo 6 7,oM 5 8]
def r297_7:LA:=[oM 9 0,oM 10 1,bT 11 .rem 9 10,bK 12 .lss 11 0]
def r297_9:LA:=[oM 13 5,bK 14 .sub 13 1,oM 5 14]
def r297_11:LA:=[oM 15 5,oM 4 15]
def tr297:TG:=[tT 0 [0,1],tT 1 [0,1,5],tT 2 [5,12],tT 3 [5],tT 4 [4]]
def tl297:TG:=[]
def rs297:List AResV:=[.tmp 4]
def pr297_0_0:PT (List RV):=pRs [wI]
def ur297_0_0 {β:Type}(g:List RV->β):Int->β:=pr297_0_0.unc g
def E297_0g:EnvK:=EnvK.of [] noSeq
def E297_0:EnvK:=E297_0g
theorem eo297_0:E297_0.Ok Pg:=EnvK.of_ok noSeq_ok TT
abbrev Tf297_0:Type 1:=(α:Type)->Int->Int->(Int->Op α)->Op α
def f297_0g (α:Type)(b a:Int)(k1:Int->Op α):Op α:=
 gK (a != 0) (gK (a != 0) (cK (decide ((Int.tmod b a) < 0))
 (k1 (w64 ((w64 (Int.tdiv b a)) - 1)))
 (k1 (w64 (Int.tdiv b a)))))
def f297_0 (α:Type)(a b:Int)(k1:Int->Op α):Op α:=f297_0g α a b k1
def pa297_0:PT (List DV):=pA [vI,vI]
def Fn297_0 (v:Tf297_0)(α:Type)(k:RT α):Int->Int->Op α:=fun a b=>v α a b (fun c=>ur297_0_0 k c)
def cm297_0g:MCode:=(.seq (.region r297_2 [] (tO [0,1])) (.seq (.region r297_4 [] (tO [0,1,5])) (.seq (.seq (.region r297_7 [] (tO [5,12])) (.cond (.tmp 12) (.region r297_9 [] (tO [5])) .skip)) (.seq (.region r297_11 [] (tO [4])) .ret))))
def cm297_0:MCode:=cm297_0g
theorem gm297_0:cm297_0.Good Pg E297_0 sh297:=⟨TT,TT,⟨TT,TT,TT⟩,TT,TT⟩
theorem fm297_0g (α:Type)(k:RT α):Fn297_0 (f297_0g ) α k=pa297_0.unc fun ds=>fnM Pg (E297_0g ) sh297 (cm297_0g ) rs297 k ds:=by kernel_rfl
theorem fm297_0:∀ (α:Type) (k:RT α),Fn297_0 f297_0 α k=pa297_0.unc fun ds=>fnM Pg E297_0 sh297 cm297_0 rs297 k ds:=fm297_0g
theorem is297:FnIs Pg 297 nt297 tr297 tl297 cm297_0.erase rs297:=⟨Tryz.f297,Tryz.func297,rfl,by kernel_rfl,by kernel_rfl,by kernel_rfl⟩
theorem io297_0:InstOk Pg 297 nt297 ⟨pa297_0,Fn297_0 f297_0⟩:=inst_ok eo297_0 followsTry is297 ⟨⟨sh297,cm297_0,by kernel_rfl,gm297_0,fm297_0⟩⟩
abbrev nt295:Nat:=15
def sh295:SG:=[]
def r295_2:LA:=[oO 6 (.mv (.const (.bool false)))]
def r295_4:LA:=[oM 7 1,oM 8 0,bT 9 .leq 7 8,oM 10 9,oG 11 (.mv (.tmp 0)) 10 true,oG 12 (.mv (.tmp 2)) 10 true,oG 13 (.bin .leq 3 (.tmp 11) (.tmp 12)) 10 true,oO 14 (.pick (.tmp 10) (.tmp 13) (.const (.bool false))),oM 6 14]
def tr295:TG:=[tT 0 [0,1,2],tT 1 [6]]
def tl295:TG:=[]
def rs295:List AResV:=[.tmp 6]
def pr295_0_0:PT (List RV):=pRs [pR false [rD dB]]
def ur295_0_0 {β:Type}(g:List RV->β):Bool->β:=pr295_0_0.unc g
def E295_0g:EnvK:=EnvK.of [] noSeq
def E295_0:EnvK:=E295_0g
theorem eo295_0:E295_0.Ok Pg:=EnvK.of_ok noSeq_ok TT
abbrev Tf295_0:Type 1:=(α:Type)->Int->Int->Int->(Bool->Op α)->Op α
def f295_0g (α:Type)(a b c:Int)(k1:Bool->Op α):Op α:=
 cK (decide (b<=a))
 (k1 (decide (a<=c)))
 (k1 false)
def f295_0 (α:Type)(a b c:Int)(k1:Bool->Op α):Op α:=f295_0g α a b c k1
def pa295_0:PT (List DV):=pA [vI,vI,vI]
def Fn295_0 (v:Tf295_0)(α:Type)(k:RT α):Int->Int->Int->Op α:=fun a b c=>v α a b c (fun d=>ur295_0_0 k d)
def cm295_0g:MCode:=(.seq (.region r295_2 [] (tO [0,1,2])) (.seq (.region r295_4 [] (tO [6])) .ret))
def cm295_0:MCode:=cm295_0g
theorem gm295_0:cm295_0.Good Pg E295_0 sh295:=⟨TT,TT,TT⟩
theorem fm295_0g (α:Type)(k:RT α):Fn295_0 (f295_0g ) α k=pa295_0.unc fun ds=>fnM Pg (E295_0g ) sh295 (cm295_0g ) rs295 k ds:=by kernel_rfl
theorem fm295_0:∀ (α:Type) (k:RT α),Fn295_0 f295_0 α k=pa295_0.unc fun ds=>fnM Pg E295_0 sh295 cm295_0 rs295 k ds:=fm295_0g
theorem is295:FnIs Pg 295 nt295 tr295 tl295 cm295_0.erase rs295:=⟨Tryz.f295,Tryz.func295,rfl,by kernel_rfl,by kernel_rfl,by kernel_rfl⟩
theorem io295_0:InstOk Pg 295 nt295 ⟨pa295_0,Fn295_0 f295_0⟩:=inst_ok eo295_0 followsTry is295 ⟨⟨sh295,cm295_0,by kernel_rfl,gm295_0,fm295_0⟩⟩
abbrev nt222:Nat:=15
def sh222:SG:=[]
def r222_2:LA:=[oO 4 (.mv (.const (.bool false)))]
def r222_5:LA:=[oM 5 1,bK 6 .eql 5 0]
def r222_7:LA:=[oM 7 0,oO 8 (.call 273 [.tmp 7]),oM 0 8]
def r222_9:LA:=[oM 9 1,bK 10 .lss 9 0]
def r222_11:LA:=[oM 11 0,oO 12 (.pure (oB (.unOp .neg 231 (.tmp 11)) 231)),oM 0 12]
def r222_13:LA:=[oM 13 0,oO 14 (.bin .gtr 231 (.tmp 13) (.const (.float Go.FloatKind.f64 9218868437227405311))),oM 4 14]
def tr222:TG:=[tT 0 [0,1],tT 1 [0,1,6],tT 2 [0],tT 3 [0,10],tT 4 [0],tT 5 [4]]
def tl222:TG:=[]
def rs222:List AResV:=[.tmp 4]
def pr222_0_0:PT (List RV):=pRs [pR false [rD dB]]
def ur222_0_0 {β:Type}(g:List RV->β):Bool->β:=pr222_0_0.unc g
def E222_0g (a:Tf273_0):EnvK:=EnvK.of [⟨273,nt273,[⟨pa273_0,Fn273_0 a⟩]⟩] noSeq
def E222_0:EnvK:=E222_0g f273_0
theorem eo222_0:E222_0.Ok Pg:=EnvK.of_ok noSeq_ok ⟨⟨io273_0,TT⟩,TT⟩
abbrev Tf222_0:Type 1:=(α:Type)->Nat->Int->(Bool->Op α)->Op α
def f222_0g (c:Tf273_0)(α:Type)(a:Nat)(b:Int)(k1:Bool->Op α):Op α:=
 cK (b == 0)
 (c α a
 (fun d=>k1 ((FloatKind.format .f64).order d 9218868437227405311 == some Ordering.gt)))
 (cK (decide (b < 0))
 (k1 ((FloatKind.format .f64).order (Op.negFloat .f64 a) 9218868437227405311 == some Ordering.gt))
 (k1 ((FloatKind.format .f64).order a 9218868437227405311 == some Ordering.gt)))
def f222_0 (α:Type)(a:Nat)(b:Int)(k1:Bool->Op α):Op α:=f222_0g f273_0 α a b k1
def pa222_0:PT (List DV):=pA [pV false [(dF .f64)],vI]
def Fn222_0 (v:Tf222_0)(α:Type)(k:RT α):Nat->Int->Op α:=fun a b=>v α a b (fun c=>ur222_0_0 k c)
def cm222_0g:MCode:=(.seq (.region r222_2 [] (tO [0,1])) (.seq (.seq (.region r222_5 [] (tO [0,1,6])) (.cond (.tmp 6) (.region r222_7 [] (tO [0])) (.seq (.region r222_9 [] (tO [0,10])) (.cond (.tmp 10) (.region r222_11 [] (tO [0])) .skip)))) (.seq (.region r222_13 [] (tO [4])) .ret)))
def cm222_0:MCode:=cm222_0g
theorem gm222_0:cm222_0.Good Pg E222_0 sh222:=⟨TT,⟨TT,TT,TT,TT,TT⟩,TT,TT⟩
theorem fm222_0g (a:Tf273_0)(α:Type)(k:RT α):Fn222_0 (f222_0g a) α k=pa222_0.unc fun ds=>fnM Pg (E222_0g a) sh222 (cm222_0g ) rs222 k ds:=by kernel_rfl
theorem fm222_0:∀ (α:Type) (k:RT α),Fn222_0 f222_0 α k=pa222_0.unc fun ds=>fnM Pg E222_0 sh222 cm222_0 rs222 k ds:=fm222_0g f273_0
theorem is222:FnIs Pg 222 nt222 tr222 tl222 cm222_0.erase rs222:=⟨Tryz.f222,Tryz.func222,rfl,by kernel_rfl,by kernel_rfl,by kernel_rfl⟩
theorem io222_0:InstOk Pg 222 nt222 ⟨pa222_0,Fn222_0 f222_0⟩:=inst_ok eo222_0 followsTry is222 ⟨⟨sh222,cm222_0,by kernel_rfl,gm222_0,fm222_0⟩⟩
abbrev nt331:Nat:=17
def sh331:SG:=[]
def r331_2:LA:=[mK 4 0,oO 5 (.mv (.const (.bool false)))]
def r331_4:LA:=[oM 6 0,oO 7 (.bin .mul 3 (kI 2) (.tmp 6)),oM 8 1,bT 9 .add 7 8,oM 10 1,oO 11 (.bin .mul 3 (kI 2) (.tmp 10)),oO 12 (.call 297 [(.tmp 9),(.tmp 11)]),oM 13 0,oM 14 1,bT 15 .rem 13 14,bK 16 .neq 15 0,oM 4 12,oM 5 16]
def tr331:TG:=[tT 0 [0,1],tT 1 [4,5]]
def tl331:TG:=[]
def rs331:List AResV:=[.tmp 4,.tmp 5]
def pr331_0_0:PT (List RV):=pRs [wI,pR false [rD dB]]
def ur331_0_0 {β:Type}(g:List RV->β):Int->Bool->β:=pr331_0_0.unc g
def E331_0g (a:Tf297_0):EnvK:=EnvK.of [⟨297,nt297,[⟨pa297_0,Fn297_0 a⟩]⟩] noSeq
def E331_0:EnvK:=E331_0g f297_0
theorem eo331_0:E331_0.Ok Pg:=EnvK.of_ok noSeq_ok ⟨⟨io297_0,TT⟩,TT⟩
abbrev Tf331_0:Type 1:=(α:Type)->Int->Int->(Int->Bool->Op α)->Op α
def f331_0g (c:Tf297_0)(α:Type)(b a:Int)(k1:Int->Bool->Op α):Op α:=
 c α (w64 ((w64 (2*b))+a)) (w64 (2*a))
 (fun d=>gK (a != 0) (k1 d ((Int.tmod b a) != 0)))
def f331_0 (α:Type)(a b:Int)(k1:Int->Bool->Op α):Op α:=f331_0g f297_0 α a b k1
def pa331_0:PT (List DV):=pA [vI,vI]
def Fn331_0 (v:Tf331_0)(α:Type)(k:RT α):Int->Int->Op α:=fun a b=>v α a b (fun c d=>ur331_0_0 k c d)
def cm331_0g:MCode:=(.seq (.region r331_2 [] (tO [0,1])) (.seq (.region r331_4 [] (tO [4,5])) .ret))
def cm331_0:MCode:=cm331_0g
theorem gm331_0:cm331_0.Good Pg E331_0 sh331:=⟨TT,TT,TT⟩
theorem fm331_0g (a:Tf297_0)(α:Type)(k:RT α):Fn331_0 (f331_0g a) α k=pa331_0.unc fun ds=>fnM Pg (E331_0g a) sh331 (cm331_0g ) rs331 k ds:=by kernel_rfl
theorem fm331_0:∀ (α:Type) (k:RT α),Fn331_0 f331_0 α k=pa331_0.unc fun ds=>fnM Pg E331_0 sh331 cm331_0 rs331 k ds:=fm331_0g f297_0
theorem is331:FnIs Pg 331 nt331 tr331 tl331 cm331_0.erase rs331:=⟨Tryz.f331,Tryz.func331,rfl,by kernel_rfl,by kernel_rfl,by kernel_rfl⟩
theorem io331_0:InstOk Pg 331 nt331 ⟨pa331_0,Fn331_0 f331_0⟩:=inst_ok eo331_0 followsTry is331 ⟨⟨sh331,cm331_0,by kernel_rfl,gm331_0,fm331_0⟩⟩
abbrev nt349:Nat:=25
def sh349:SG:=[]
def r349_2:LA:=[mK 2 0]
def r349_4:LA:=[oM 4 0,oO 5 (.pure (oB (.convert 3 231 (.tmp 4)) 231)),oO 6 (.call 351 [.tmp 5]),oO 7 (.pure (oB (.convert 231 3 (.tmp 6)) 3)),oM 3 7]
def td349_7:OT:=(tO [0,3])
def r349_10:LA:=[oM 8 3,oM 9 3,bT 10 .mul 8 9,oM 11 0,bT 12 .gtr 10 11]
def r349_13:LA:=[oM 13 3,bK 14 .sub 13 1,oM 3 14]
def td349_16:OT:=(tO [0,3])
def r349_19:LA:=[oM 15 3,bK 16 .add 15 1,oM 17 3,bK 18 .add 17 1,bT 19 .mul 16 18,oM 20 0,bT 21 .leq 19 20]
def r349_22:LA:=[oM 22 3,bK 23 .add 22 1,oM 3 23]
def r349_24:LA:=[oM 24 3,oM 2 24]
def tr349:TG:=[tT 0 [0],tT 1 [0,3],tT 2 [0,3,12],tT 3 [0,3],tT 4 [0,3,21],tT 5 [0,3],tT 6 [2]]
def tl349:TG:=[tT 2 [0,3],tT 4 [0,3]]
def rs349:List AResV:=[.tmp 2]
def p349_0_0:PT St:=pS [sI 0,sI 3] []
def u349_0_0 {β:Type}(g:St->β):Int->Int->β:=p349_0_0.unc g
def p349_0_1:PT St:=pS [sI 0,sI 3,sY 12 dB] []
def u349_0_1 {β:Type}(g:St->β):Int->Int->Bool->β:=p349_0_1.unc g
def p349_0_2:PT St:=pS [sI 0,sI 3,sY 21 dB] []
def u349_0_2 {β:Type}(g:St->β):Int->Int->Bool->β:=p349_0_2.unc g
def pr349_0_0:PT (List RV):=pRs [wI]
def ur349_0_0 {β:Type}(g:List RV->β):Int->β:=pr349_0_0.unc g
def E349_0g (a:Tf351_0):EnvK:=EnvK.of [⟨351,nt351,[⟨pa351_0,Fn351_0 a⟩]⟩] noSeq
def E349_0:EnvK:=E349_0g f351_0
theorem eo349_0:E349_0.Ok Pg:=EnvK.of_ok noSeq_ok ⟨⟨io351_0,TT⟩,TT⟩
def c349_0_16g:MCode:=(.seq (.seq (.region r349_19 [] (tO [0,3,21])) (.cond (.tmp 21) .skip (.exit 2))) (.block 3 (.region r349_22 [] (tO [0,3]))))
def c349_0_16:MCode:=c349_0_16g
theorem g349_0_16:c349_0_16.Good Pg E349_0 sh349:=⟨⟨TT,TT,TT⟩,TT⟩
def S349_0_1g (α:Type)(b a:Int)(kn:Int->Op α)(k1:Int->Bool->Op α):Op α:=
 cK (decide ((w64 ((w64 (a+1))*(w64 (a+1))))<=b))
 (kn (w64 (a+1)))
 (k1 a (decide ((w64 ((w64 (a+1))*(w64 (a+1))))<=b)))
def S349_0_1 (α:Type)(a b:Int)(kn:Int->Op α)(k1:Int->Bool->Op α):Op α:=S349_0_1g α a b kn k1
def R349_0_1 (α:Type)(a:Int)(k1:Int->Bool->Op α):Nat->Int->Op α
 | 0,_=>none
 | n+1,b=>S349_0_1 α a b (R349_0_1 α a k1 n) k1
def L349_0_1 (α:Type)(a:Int)(k1:Int->Bool->Op α)(b:Int):Op α:=R349_0_1 α a k1 fuel b
abbrev TL349_0_1:Type 1:=(α:Type)->Int->(Int->Bool->Op α)->Int->Op α
def F349_0_1 (v:TL349_0_1)(α:Type)(K:KT α):Int->Int->Op α:=fun a b=>v α a (fun c d=>u349_0_2 (K (.exit 2)) a c d) b
theorem r349_0_1g (c:Tf351_0)(α:Type)(K:KT α)(Kn:SK α)(a b:Int):u349_0_0 (fun σ=>runM Pg (E349_0g c) sh349 (c349_0_16g ) (thenK (fun σ=>tidyK td349_16 σ Kn) K) σ) a b=S349_0_1g α a b (fun b=>u349_0_0 Kn a b) (fun d e=>u349_0_2 (K (.exit 2)) a d e):=by kernel_rfl
theorem r349_0_1 (α:Type)(K:KT α)(Kn:SK α)(a b:Int):u349_0_0 (fun σ=>runM Pg E349_0 sh349 c349_0_16 (thenK (fun σ=>tidyK td349_16 σ Kn) K) σ) a b=S349_0_1 α a b (fun b=>u349_0_0 Kn a b) (fun c d=>u349_0_2 (K (.exit 2)) a c d):=r349_0_1g f351_0 α K Kn a b
theorem t349_0_1 (α:Type)(K:KT α):∀ (n:Nat) (a b:Int),R349_0_1 α a (fun c d=>u349_0_2 (K (.exit 2)) a c d) n b=u349_0_0 (loopT (runM Pg E349_0 sh349 c349_0_16) td349_16 K n) a b:=by
 intro n
 induction n with
 | zero=>intros;rfl
 | succ n ih=>intro a b;exact (congrArg (fun kn=>S349_0_1 α a b kn (fun c d=>u349_0_2 (K (.exit 2)) a c d)) (funext fun b=>ih a b)).trans (r349_0_1 α K (loopT (runM Pg E349_0 sh349 c349_0_16) td349_16 K n) a b).symm
theorem m349_0_1:∀ (α:Type) (K:KT α),F349_0_1 L349_0_1 α K=p349_0_0.unc fun σ=>loopT (runM Pg E349_0 sh349 c349_0_16) td349_16 K fuel σ:=fun α K=>funext fun a=>funext fun b=>t349_0_1 α K fuel a b
def c349_0_7g:MCode:=(.seq (.seq (.region r349_10 [] (tO [0,3,12])) (.cond (.tmp 12) .skip (.exit 0))) (.block 1 (.region r349_13 [] (tO [0,3]))))
def c349_0_7:MCode:=c349_0_7g
theorem g349_0_7:c349_0_7.Good Pg E349_0 sh349:=⟨⟨TT,TT,TT⟩,TT⟩
def S349_0_0g (α:Type)(b a:Int)(kn:Int->Op α)(k1:Int->Bool->Op α):Op α:=
 cK (decide (b < (w64 (a*a))))
 (kn (w64 (a - 1)))
 (k1 a (decide (b < (w64 (a*a)))))
def S349_0_0 (α:Type)(a b:Int)(kn:Int->Op α)(k1:Int->Bool->Op α):Op α:=S349_0_0g α a b kn k1
def R349_0_0 (α:Type)(a:Int)(k1:Int->Bool->Op α):Nat->Int->Op α
 | 0,_=>none
 | n+1,b=>S349_0_0 α a b (R349_0_0 α a k1 n) k1
def L349_0_0 (α:Type)(a:Int)(k1:Int->Bool->Op α)(b:Int):Op α:=R349_0_0 α a k1 fuel b
abbrev TL349_0_0:Type 1:=(α:Type)->Int->(Int->Bool->Op α)->Int->Op α
def F349_0_0 (v:TL349_0_0)(α:Type)(K:KT α):Int->Int->Op α:=fun a b=>v α a (fun c d=>u349_0_1 (K (.exit 0)) a c d) b
theorem r349_0_0g (c:Tf351_0)(α:Type)(K:KT α)(Kn:SK α)(a b:Int):u349_0_0 (fun σ=>runM Pg (E349_0g c) sh349 (c349_0_7g ) (thenK (fun σ=>tidyK td349_7 σ Kn) K) σ) a b=S349_0_0g α a b (fun b=>u349_0_0 Kn a b) (fun d e=>u349_0_1 (K (.exit 0)) a d e):=by kernel_rfl
theorem r349_0_0 (α:Type)(K:KT α)(Kn:SK α)(a b:Int):u349_0_0 (fun σ=>runM Pg E349_0 sh349 c349_0_7 (thenK (fun σ=>tidyK td349_7 σ Kn) K) σ) a b=S349_0_0 α a b (fun b=>u349_0_0 Kn a b) (fun c d=>u349_0_1 (K (.exit 0)) a c d):=r349_0_0g f351_0 α K Kn a b
theorem t349_0_0 (α:Type)(K:KT α):∀ (n:Nat) (a b:Int),R349_0_0 α a (fun c d=>u349_0_1 (K (.exit 0)) a c d) n b=u349_0_0 (loopT (runM Pg E349_0 sh349 c349_0_7) td349_7 K n) a b:=by
 intro n
 induction n with
 | zero=>intros;rfl
 | succ n ih=>intro a b;exact (congrArg (fun kn=>S349_0_0 α a b kn (fun c d=>u349_0_1 (K (.exit 0)) a c d)) (funext fun b=>ih a b)).trans (r349_0_0 α K (loopT (runM Pg E349_0 sh349 c349_0_7) td349_7 K n) a b).symm
theorem m349_0_0:∀ (α:Type) (K:KT α),F349_0_0 L349_0_0 α K=p349_0_0.unc fun σ=>loopT (runM Pg E349_0 sh349 c349_0_7) td349_7 K fuel σ:=fun α K=>funext fun a=>funext fun b=>t349_0_0 α K fuel a b
abbrev Tf349_0:Type 1:=(α:Type)->Int->(Int->Op α)->Op α
def f349_0g (b:TL349_0_0)(c:TL349_0_1)(d:Tf351_0)(α:Type)(a:Int)(k1:Int->Op α):Op α:=
 d α (FloatKind.nearest .f64 a)
 (fun e=>ivK (f2i .f64 e .i64)
 (fun g=>b α a
 (fun h j=>c α a
 (fun i l=>k1 i) h) g))
def f349_0 (α:Type)(a:Int)(k1:Int->Op α):Op α:=f349_0g L349_0_0 L349_0_1 f351_0 α a k1
def pa349_0:PT (List DV):=pA [vI]
def Fn349_0 (v:Tf349_0)(α:Type)(k:RT α):Int->Op α:=fun a=>v α a (fun b=>ur349_0_0 k b)
def cm349_0g (a:TL349_0_0)(b:TL349_0_1):MCode:=(.seq (.region r349_2 [] (tO [0])) (.seq (.region r349_4 [] (tO [0,3])) (.seq (.block 0 (.loop td349_7 [⟨p349_0_0,F349_0_0 a⟩] c349_0_7)) (.seq (.block 2 (.loop td349_16 [⟨p349_0_0,F349_0_1 b⟩] c349_0_16)) (.seq (.region r349_24 [] (tO [2])) .ret)))))
def cm349_0:MCode:=cm349_0g L349_0_0 L349_0_1
theorem gm349_0:cm349_0.Good Pg E349_0 sh349:=⟨TT,TT,⟨g349_0_7,m349_0_0,TT⟩,⟨g349_0_16,m349_0_1,TT⟩,TT,TT⟩
theorem fm349_0g (a:Tf351_0)(b:TL349_0_0)(c:TL349_0_1)(α:Type)(k:RT α):Fn349_0 (f349_0g b c a) α k=pa349_0.unc fun ds=>fnM Pg (E349_0g a) sh349 (cm349_0g b c) rs349 k ds:=by kernel_rfl
theorem fm349_0:∀ (α:Type) (k:RT α),Fn349_0 f349_0 α k=pa349_0.unc fun ds=>fnM Pg E349_0 sh349 cm349_0 rs349 k ds:=fm349_0g f351_0 L349_0_0 L349_0_1
theorem is349:FnIs Pg 349 nt349 tr349 tl349 cm349_0.erase rs349:=⟨Tryz.f349,Tryz.func349,rfl,by kernel_rfl,by kernel_rfl,by kernel_rfl⟩
theorem io349_0:InstOk Pg 349 nt349 ⟨pa349_0,Fn349_0 f349_0⟩:=inst_ok eo349_0 followsTry is349 ⟨⟨sh349,cm349_0,by kernel_rfl,gm349_0,fm349_0⟩⟩
abbrev nt298:Nat:=10
def sh298:SG:=[]
def r298_2:LA:=[mK 4 0]
def r298_4:LA:=[oM 5 0,oO 6 (.pure (oB (.unOp .neg 3 (.tmp 5)) 3)),oM 7 1,oO 8 (.call 297 [(.tmp 6),(.tmp 7)]),oO 9 (.pure (oB (.unOp .neg 3 (.tmp 8)) 3)),oM 4 9]
def tr298:TG:=[tT 0 [0,1],tT 1 [4]]
def tl298:TG:=[]
def rs298:List AResV:=[.tmp 4]
def pr298_0_0:PT (List RV):=pRs [wI]
def ur298_0_0 {β:Type}(g:List RV->β):Int->β:=pr298_0_0.unc g
def E298_0g (a:Tf297_0):EnvK:=EnvK.of [⟨297,nt297,[⟨pa297_0,Fn297_0 a⟩]⟩] noSeq
def E298_0:EnvK:=E298_0g f297_0
theorem eo298_0:E298_0.Ok Pg:=EnvK.of_ok noSeq_ok ⟨⟨io297_0,TT⟩,TT⟩
abbrev Tf298_0:Type 1:=(α:Type)->Int->Int->(Int->Op α)->Op α
def f298_0g (a:Tf297_0)(α:Type)(b c:Int)(k1:Int->Op α):Op α:=
 a α (w64 (0 - b)) c
 (fun d=>k1 (w64 (0 - d)))
def f298_0 (α:Type)(a b:Int)(k1:Int->Op α):Op α:=f298_0g f297_0 α a b k1
def pa298_0:PT (List DV):=pA [vI,vI]
def Fn298_0 (v:Tf298_0)(α:Type)(k:RT α):Int->Int->Op α:=fun a b=>v α a b (fun c=>ur298_0_0 k c)
def cm298_0g:MCode:=(.seq (.region r298_2 [] (tO [0,1])) (.seq (.region r298_4 [] (tO [4])) .ret))
def cm298_0:MCode:=cm298_0g
theorem gm298_0:cm298_0.Good Pg E298_0 sh298:=⟨TT,TT,TT⟩
theorem fm298_0g (a:Tf297_0)(α:Type)(k:RT α):Fn298_0 (f298_0g a) α k=pa298_0.unc fun ds=>fnM Pg (E298_0g a) sh298 (cm298_0g ) rs298 k ds:=by kernel_rfl
theorem fm298_0:∀ (α:Type) (k:RT α),Fn298_0 f298_0 α k=pa298_0.unc fun ds=>fnM Pg E298_0 sh298 cm298_0 rs298 k ds:=fm298_0g f297_0
theorem is298:FnIs Pg 298 nt298 tr298 tl298 cm298_0.erase rs298:=⟨Tryz.f298,Tryz.func298,rfl,by kernel_rfl,by kernel_rfl,by kernel_rfl⟩
theorem io298_0:InstOk Pg 298 nt298 ⟨pa298_0,Fn298_0 f298_0⟩:=inst_ok eo298_0 followsTry is298 ⟨⟨sh298,cm298_0,by kernel_rfl,gm298_0,fm298_0⟩⟩
abbrev nt294:Nat:=10
def sh294:SG:=[]
def r294_2:LA:=[oO 4 (.mv (.const (.bool false)))]
def r294_4:LA:=[oM 5 0,oM 6 1,oO 7 (.pure (oB (.unOp .neg 3 (.tmp 6)) 3)),oM 8 1,oO 9 (.call 295 [(.tmp 5),(.tmp 7),(.tmp 8)]),oM 4 9]
def tr294:TG:=[tT 0 [0,1],tT 1 [4]]
def tl294:TG:=[]
def rs294:List AResV:=[.tmp 4]
def pr294_0_0:PT (List RV):=pRs [pR false [rD dB]]
def ur294_0_0 {β:Type}(g:List RV->β):Bool->β:=pr294_0_0.unc g
def E294_0g (a:Tf295_0):EnvK:=EnvK.of [⟨295,nt295,[⟨pa295_0,Fn295_0 a⟩]⟩] noSeq
def E294_0:EnvK:=E294_0g f295_0
theorem eo294_0:E294_0.Ok Pg:=EnvK.of_ok noSeq_ok ⟨⟨io295_0,TT⟩,TT⟩
abbrev Tf294_0:Type 1:=(α:Type)->Int->Int->(Bool->Op α)->Op α
def f294_0g (b:Tf295_0)(α:Type)(c a:Int)(k1:Bool->Op α):Op α:=
 b α c (w64 (0 - a)) a
 (fun d=>k1 d)
def f294_0 (α:Type)(a b:Int)(k1:Bool->Op α):Op α:=f294_0g f295_0 α a b k1
def pa294_0:PT (List DV):=pA [vI,vI]
def Fn294_0 (v:Tf294_0)(α:Type)(k:RT α):Int->Int->Op α:=fun a b=>v α a b (fun c=>ur294_0_0 k c)
def cm294_0g:MCode:=(.seq (.region r294_2 [] (tO [0,1])) (.seq (.region r294_4 [] (tO [4])) .ret))
def cm294_0:MCode:=cm294_0g
theorem gm294_0:cm294_0.Good Pg E294_0 sh294:=⟨TT,TT,TT⟩
theorem fm294_0g (a:Tf295_0)(α:Type)(k:RT α):Fn294_0 (f294_0g a) α k=pa294_0.unc fun ds=>fnM Pg (E294_0g a) sh294 (cm294_0g ) rs294 k ds:=by kernel_rfl
theorem fm294_0:∀ (α:Type) (k:RT α),Fn294_0 f294_0 α k=pa294_0.unc fun ds=>fnM Pg E294_0 sh294 cm294_0 rs294 k ds:=fm294_0g f295_0
theorem is294:FnIs Pg 294 nt294 tr294 tl294 cm294_0.erase rs294:=⟨Tryz.f294,Tryz.func294,rfl,by kernel_rfl,by kernel_rfl,by kernel_rfl⟩
theorem io294_0:InstOk Pg 294 nt294 ⟨pa294_0,Fn294_0 f294_0⟩:=inst_ok eo294_0 followsTry is294 ⟨⟨sh294,cm294_0,by kernel_rfl,gm294_0,fm294_0⟩⟩
abbrev nt345:Nat:=12
def sh345:SG:=[]
def r345_2:LA:=[oO 2 (.mv (.const (.bool false)))]
def r345_4:LA:=[oM 3 0,oO 4 (.call 221 [.tmp 3]),oM 5 0,oO 6 (.bin .eql 231 (.tmp 4) (.tmp 5)),oM 7 6,oG 8 (.mv (.tmp 0)) 7 true,oG 9 (.call 222 [(.tmp 8),(kI 0)]) 7 true,oG 10 (.pure (oB (.unOp .not 4 (.tmp 9)) 4)) 7 true,oO 11 (.pick (.tmp 7) (.tmp 10) (.const (.bool false))),oM 2 11]
def tr345:TG:=[tT 0 [0],tT 1 [2]]
def tl345:TG:=[]
def rs345:List AResV:=[.tmp 2]
def pr345_0_0:PT (List RV):=pRs [pR false [rD dB]]
def ur345_0_0 {β:Type}(g:List RV->β):Bool->β:=pr345_0_0.unc g
def E345_0g (a:Tf221_0)(b:Tf222_0):EnvK:=EnvK.of [⟨221,nt221,[⟨pa221_0,Fn221_0 a⟩]⟩,⟨222,nt222,[⟨pa222_0,Fn222_0 b⟩]⟩] noSeq
def E345_0:EnvK:=E345_0g f221_0 f222_0
theorem eo345_0:E345_0.Ok Pg:=EnvK.of_ok noSeq_ok ⟨⟨io221_0,TT⟩,⟨io222_0,TT⟩,TT⟩
abbrev Tf345_0:Type 1:=(α:Type)->Nat->(Bool->Op α)->Op α
def f345_0g (b:Tf221_0)(c:Tf222_0)(α:Type)(a:Nat)(k1:Bool->Op α):Op α:=
 b α a
 (k1 false)
 (fun d=>cK ((FloatKind.format .f64).order d a == some Ordering.eq)
 (c α a 0
 (fun e=>k1 (!e)))
 (k1 false))
def f345_0 (α:Type)(a:Nat)(k1:Bool->Op α):Op α:=f345_0g f221_0 f222_0 α a k1
def pa345_0:PT (List DV):=pA [pV false [(dF .f64)]]
def Fn345_0 (v:Tf345_0)(α:Type)(k:RT α):Nat->Op α:=fun a=>v α a (fun b=>ur345_0_0 k b)
def cm345_0g:MCode:=(.seq (.region r345_2 [] (tO [0])) (.seq (.region r345_4 [] (tO [2])) .ret))
def cm345_0:MCode:=cm345_0g
theorem gm345_0:cm345_0.Good Pg E345_0 sh345:=⟨TT,TT,TT⟩
theorem fm345_0g (a:Tf221_0)(b:Tf222_0)(α:Type)(k:RT α):Fn345_0 (f345_0g a b) α k=pa345_0.unc fun ds=>fnM Pg (E345_0g a b) sh345 (cm345_0g ) rs345 k ds:=by kernel_rfl
theorem fm345_0:∀ (α:Type) (k:RT α),Fn345_0 f345_0 α k=pa345_0.unc fun ds=>fnM Pg E345_0 sh345 cm345_0 rs345 k ds:=fm345_0g f221_0 f222_0
theorem is345:FnIs Pg 345 nt345 tr345 tl345 cm345_0.erase rs345:=⟨Tryz.f345,Tryz.func345,rfl,by kernel_rfl,by kernel_rfl,by kernel_rfl⟩
theorem io345_0:InstOk Pg 345 nt345 ⟨pa345_0,Fn345_0 f345_0⟩:=inst_ok eo345_0 followsTry is345 ⟨⟨sh345,cm345_0,by kernel_rfl,gm345_0,fm345_0⟩⟩
abbrev nt332:Nat:=29
def sh332:SG:=[(6,iT),(12,iT),(18,iT),(24,iS 2),(27,iT)]
def r332_2:LA:=[oO 1 (.box (.tmp 0)),oO 2 (.alloc [(.d (.v (.complex Go.FloatKind.f64 0 0))),(cI 0)]),mK 3 0]
def r332_5:LA:=[fA 4 0 1,fA 5 0 4,lD 6 5,oO 7 (.call 294 [(.tmp 6),(kI 67108864)]),oO 8 (.pure (oB (.unOp .not 4 (.tmp 7)) 4)),oM 9 8,oG 10 (.faddr 0 (.tmp 1)) 9 false,oG 11 (.faddr 1 (.tmp 10)) 9 false,oG 12 (.load false 1 (.tmp 11)) 9 false,oG 13 (.call 294 [(.tmp 12),(kI 67108864)]) 9 false,oG 14 (.pure (oB (.unOp .not 4 (.tmp 13)) 4)) 9 false,oO 15 (.pick (.tmp 9) (.const (.bool true)) (.tmp 14)),oM 16 15,oG 17 (.faddr 2 (.tmp 1)) 16 false,oG 18 (.load false 1 (.tmp 17)) 16 false,oG 19 (.call 295 [(.tmp 18),(kI 0),(kI 67108864)]) 16 false,oG 20 (.pure (oB (.unOp .not 4 (.tmp 19)) 4)) 16 false,oO 21 (.pick (.tmp 16) (.const (.bool true)) (.tmp 20))]
def r332_8:LA:=[oO 22 (.build [(.d (.v (.complex Go.FloatKind.f64 0 0))),(cI 0)] []),sD 2 2 22,mK 3 8]
def r332_10:LA:=[fA 23 0 1,lA 24 2 23,oO 25 (.call 344 [.tmp 24]),fA 26 2 1,lD 27 26,oO 28 (.build [(.d (.v (.complex Go.FloatKind.f64 0 0))),(cI 0)] [(0,1,(.tmp 25)),(1,1,(.tmp 27))]),sD 2 2 28,mK 3 0]
def tr332:TG:=[tT 0 [1,2],tT 1 [1,2,21],tT 2 [2,3],tT 3 [2,3]]
def tl332:TG:=[]
def rs332:List AResV:=[.cell 2 true 2,.tmp 3]
def p332_0_0:PT St:=pS [sP 1,sP 2] [eBox 1 (xs 3),eBox 2 [(cD (dX .f64)),xI]]
def u332_0_0 {β:Type}(g:St->β):Int->Int->Int->Nat->Nat->Int->β:=p332_0_0.unc g
def p332_0_1:PT St:=pS [sP 1,sP 2,sY 21 dB] [eBox 1 (xs 3),eBox 2 [(cD (dX .f64)),xI]]
def u332_0_1 {β:Type}(g:St->β):Bool->Int->Int->Int->Nat->Nat->Int->β:=p332_0_1.unc g
def pr332_0_0:PT (List RV):=pRs [pR true [rD (dX .f64),rD (dI .i64)],wI]
def ur332_0_0 {β:Type}(g:List RV->β):Nat->Nat->Int->Int->β:=pr332_0_0.unc g
def E332_0g (a:Tf294_0)(b:Tf295_0)(c:Tf344_0):EnvK:=EnvK.of [⟨294,nt294,[⟨pa294_0,Fn294_0 a⟩]⟩,⟨295,nt295,[⟨pa295_0,Fn295_0 b⟩]⟩,⟨344,nt344,[⟨pa344_0,Fn344_0 c⟩]⟩] noSeq
def E332_0:EnvK:=E332_0g f294_0 f295_0 f344_0
theorem eo332_0:E332_0.Ok Pg:=EnvK.of_ok noSeq_ok ⟨⟨io294_0,TT⟩,⟨io295_0,TT⟩,⟨io344_0,TT⟩,TT⟩
def c332_0_4g:MCode:=(.region r332_5 [] (tO [1,2,21]))
def c332_0_4:MCode:=c332_0_4g
theorem g332_0_4:c332_0_4.Good Pg E332_0 sh332:=TT
abbrev TJ332_0_0:Type 1:=(α:Type)->Int->Int->Int->(Bool->Op α)->Op α
def J332_0_0g (a:Tf294_0)(b:Tf295_0)(α:Type)(c d e:Int)(k1:Bool->Op α):Op α:=
 a α c 67108864
 (fun g=>cK (!g)
 (k1 true)
 (a α d 67108864
 (fun h=>cK (!h)
 (k1 true)
 (b α e 0 67108864
 (fun i=>k1 (!i))))))
def J332_0_0 (α:Type)(a b c:Int)(k1:Bool->Op α):Op α:=J332_0_0g f294_0 f295_0 α a b c k1
def F332_0_0 (v:TJ332_0_0)(α:Type)(K:KT α):Int->Int->Int->Nat->Nat->Int->Op α:=fun a b c d e g=>v α a b c (fun h=>u332_0_1 (K .normal) h a b c d e g)
theorem m332_0_0g (a:Tf294_0)(b:Tf295_0)(c:Tf344_0)(α:Type)(K:KT α):F332_0_0 (J332_0_0g a b) α K=p332_0_0.unc fun σ=>runM Pg (E332_0g a b c) sh332 (c332_0_4g ) K σ:=by kernel_rfl
theorem m332_0_0:∀ (α:Type) (K:KT α),F332_0_0 J332_0_0 α K=p332_0_0.unc fun σ=>runM Pg E332_0 sh332 c332_0_4 K σ:=m332_0_0g f294_0 f295_0 f344_0
abbrev Tf332_0:Type 1:=(α:Type)->Int->Int->Int->(Nat->Nat->Int->Int->Op α)->Op α
def f332_0g (d:TJ332_0_0)(e:Tf344_0)(α:Type)(a b c:Int)(k1:Nat->Nat->Int->Int->Op α):Op α:=
 d α a b c
 (fun g=>cK g
 (k1 0 0 0 8)
 (e α a b
 (fun h i=>k1 h i c 0)))
def f332_0 (α:Type)(a b c:Int)(k1:Nat->Nat->Int->Int->Op α):Op α:=f332_0g J332_0_0 f344_0 α a b c k1
def pa332_0:PT (List DV):=pA [pV true [(dI .i64),(dI .i64),(dI .i64)]]
def Fn332_0 (v:Tf332_0)(α:Type)(k:RT α):Int->Int->Int->Op α:=fun a b c=>v α a b c (fun d e g h=>ur332_0_0 k d e g h)
def cm332_0g (a:TJ332_0_0):MCode:=(.seq (.region r332_2 [] (tO [1,2])) (.seq (.seq (.mark [⟨p332_0_0,F332_0_0 a⟩] c332_0_4) (.cond (.tmp 21) (.seq (.region r332_8 [] (tO [2,3])) .ret) .skip)) (.seq (.region r332_10 [(2,4)] (tO [2,3])) .ret)))
def cm332_0:MCode:=cm332_0g J332_0_0
theorem gm332_0:cm332_0.Good Pg E332_0 sh332:=⟨TT,⟨⟨g332_0_4,m332_0_0,TT⟩,⟨TT,TT⟩,TT⟩,TT,TT⟩
theorem fm332_0g (c:Tf294_0)(d:Tf295_0)(a:Tf344_0)(b:TJ332_0_0)(α:Type)(k:RT α):Fn332_0 (f332_0g b a) α k=pa332_0.unc fun ds=>fnM Pg (E332_0g c d a) sh332 (cm332_0g b) rs332 k ds:=by kernel_rfl
theorem fm332_0:∀ (α:Type) (k:RT α),Fn332_0 f332_0 α k=pa332_0.unc fun ds=>fnM Pg E332_0 sh332 cm332_0 rs332 k ds:=fm332_0g f294_0 f295_0 f344_0 J332_0_0
theorem is332:FnIs Pg 332 nt332 tr332 tl332 cm332_0.erase rs332:=⟨Tryz.f332,Tryz.func332,rfl,by kernel_rfl,by kernel_rfl,by kernel_rfl⟩
theorem io332_0:InstOk Pg 332 nt332 ⟨pa332_0,Fn332_0 f332_0⟩:=inst_ok eo332_0 followsTry is332 ⟨⟨sh332,cm332_0,by kernel_rfl,gm332_0,fm332_0⟩⟩
abbrev nt350:Nat:=24
def sh350:SG:=[(7,iS 2),(8,iS 2),(10,iS 2),(14,iT),(19,iT)]
def r350_2:LA:=[oO 2 (.box (.tmp 0)),oO 3 (.box (.tmp 1)),oO 4 (.alloc [(cI 0),(cI 0)])]
def r350_4:LA:=[lA 7 2 2,lA 8 2 3,oO 9 (.call 336 [(.tmp 7),(.tmp 8)]),oO 5 (.alloc [(cI 0),(cI 0)]),sD 2 5 9]
def r350_6:LA:=[lA 10 2 5,oO 11 (.call 352 [.tmp 10]),oO 12 (.call 349 [.tmp 11]),oM 6 12]
def r350_8:LA:=[fA 13 0 5,lD 14 13,bK 15 .mul 14 67108864,oM 16 6,bT 17 .quo 15 16,fA 18 1 5,lD 19 18,bK 20 .mul 19 67108864,oM 21 6,bT 22 .quo 20 21,oO 23 (.build [(cI 0),(cI 0)] [(0,1,(.tmp 17)),(1,1,(.tmp 22))]),sD 2 4 23]
def tr350:TG:=[tT 0 [2,3,4],tT 1 [4,5],tT 2 [4,5,6],tT 3 [4]]
def tl350:TG:=[]
def rs350:List AResV:=[.cell 4 true 2]
def pr350_0_0:PT (List RV):=pRs [pR true [rD (dI .i64),rD (dI .i64)]]
def ur350_0_0 {β:Type}(g:List RV->β):Int->Int->β:=pr350_0_0.unc g
def E350_0g (a:Tf336_0)(b:Tf352_0)(c:Tf349_0):EnvK:=EnvK.of [⟨336,nt336,[⟨pa336_0,Fn336_0 a⟩]⟩,⟨352,nt352,[⟨pa352_0,Fn352_0 b⟩]⟩,⟨349,nt349,[⟨pa349_0,Fn349_0 c⟩]⟩] noSeq
def E350_0:EnvK:=E350_0g f336_0 f352_0 f349_0
theorem eo350_0:E350_0.Ok Pg:=EnvK.of_ok noSeq_ok ⟨⟨io336_0,TT⟩,⟨io352_0,TT⟩,⟨io349_0,TT⟩,TT⟩
abbrev Tf350_0:Type 1:=(α:Type)->Int->Int->Int->Int->(Int->Int->Op α)->Op α
def f350_0g (d:Tf336_0)(e:Tf349_0)(g:Tf352_0)(α:Type)(h i j l:Int)(k1:Int->Int->Op α):Op α:=
 d α h i j l
 (fun b c=>g α b c
 (fun m=>e α m
 (fun a=>gK (a != 0) (gK (a != 0) (k1 (w64 (Int.tdiv (w64 (b*67108864)) a)) (w64 (Int.tdiv (w64 (c*67108864)) a)))))))
def f350_0 (α:Type)(a b c d:Int)(k1:Int->Int->Op α):Op α:=f350_0g f336_0 f349_0 f352_0 α a b c d k1
def pa350_0:PT (List DV):=pA [pV true [(dI .i64),(dI .i64)],pV true [(dI .i64),(dI .i64)]]
def Fn350_0 (v:Tf350_0)(α:Type)(k:RT α):I4 (Op α):=fun a b c d=>v α a b c d (fun e g=>ur350_0_0 k e g)
def cm350_0g:MCode:=(.seq (.region r350_2 [] (tO [2,3,4])) (.seq (.region r350_4 [] (tO [4,5])) (.seq (.region r350_6 [] (tO [4,5,6])) (.seq (.region r350_8 [] (tO [4])) .ret))))
def cm350_0:MCode:=cm350_0g
theorem gm350_0:cm350_0.Good Pg E350_0 sh350:=⟨TT,TT,TT,TT,TT⟩
theorem fm350_0g (a:Tf336_0)(b:Tf352_0)(c:Tf349_0)(α:Type)(k:RT α):Fn350_0 (f350_0g a c b) α k=pa350_0.unc fun ds=>fnM Pg (E350_0g a b c) sh350 (cm350_0g ) rs350 k ds:=by kernel_rfl
theorem fm350_0:∀ (α:Type) (k:RT α),Fn350_0 f350_0 α k=pa350_0.unc fun ds=>fnM Pg E350_0 sh350 cm350_0 rs350 k ds:=fm350_0g f336_0 f352_0 f349_0
theorem is350:FnIs Pg 350 nt350 tr350 tl350 cm350_0.erase rs350:=⟨Tryz.f350,Tryz.func350,rfl,by kernel_rfl,by kernel_rfl,by kernel_rfl⟩
theorem io350_0:InstOk Pg 350 nt350 ⟨pa350_0,Fn350_0 f350_0⟩:=inst_ok eo350_0 followsTry is350 ⟨⟨sh350,cm350_0,by kernel_rfl,gm350_0,fm350_0⟩⟩
abbrev nt333:Nat:=37
def sh333:SG:=[(16,[.flt .f64,.flt .f64]),(25,[.flt .f64,.flt .f64])]
def r333_2:LA:=[oO 4 (.alloc [(cI 0),(cI 0)]),mK 5 0]
def r333_4:LA:=[oM 11 0,oO 12 (.pure (oB (.call { callee:=.builtin .real,args:=#[(.tmp 11)],argTypes:=#[98] }) 231)),oM 13 0,oO 14 (.pure (oB (.call { callee:=.builtin .imag,args:=#[(.tmp 13)],argTypes:=#[98] }) 231)),oO 15 (.build [(.d (.v (.float Go.FloatKind.f64 0))),(.d (.v (.float Go.FloatKind.f64 0)))] [(0,1,(.tmp 12)),(1,1,(.tmp 14))]),oO 6 (.alloc [(.d (.v (.float Go.FloatKind.f64 0))),(.d (.v (.float Go.FloatKind.f64 0)))]),sD 2 6 15]
def r333_7:LA:=[lA 16 2 6,mK 17 0]
def td333_9:OT:=(tO [0,1,4,6,16,17])
def r333_11:LA:=[bK 18 .lss 17 2]
def r333_17:LA:=[oO 19 (.index false 2 1 (.tmp 16) (.tmp 17)),oM 8 19]
def r333_19:LA:=[oM 20 8,oO 21 (.call 345 [.tmp 20]),oO 22 (.pure (oB (.unOp .not 4 (.tmp 21)) 4))]
def r333_22:LA:=[oO 23 (.build [(cI 0),(cI 0)] []),sD 2 4 23,mK 5 27]
def r333_23:LA:=[bK 24 .add 17 1,oM 17 24]
def r333_26:LA:=[lA 25 2 6,mK 26 0]
def td333_28:OT:=(tO [0,1,4,25,26])
def r333_30:LA:=[bK 27 .lss 26 2]
def r333_36:LA:=[oO 28 (.index false 2 1 (.tmp 25) (.tmp 26)),oM 10 28]
def r333_38:LA:=[oM 29 10,oO 30 (.call 273 [.tmp 29]),oM 31 1,oO 32 (.bin .gtr 231 (.tmp 30) (.tmp 31))]
def r333_41:LA:=[oO 33 (.build [(cI 0),(cI 0)] []),sD 2 4 33,mK 5 2]
def r333_42:LA:=[bK 34 .add 26 1,oM 26 34]
def r333_44:LA:=[oM 35 0,oO 36 (.call 346 [.tmp 35]),sD 2 4 36,mK 5 0]
def tr333:TG:=[tT 0 [0,1,4],tT 1 [0,1,4,6],tT 2 [0,1,4,6,16,17],tT 3 [0,1,4,6,16,17,18],tT 4 [0,1,4,6,8,16,17],tT 5 [0,1,4,6,16,17,22],tT 6 [4,5],tT 7 [0,1,4,6,16,17],tT 8 [0,1,4,25,26],tT 9 [0,1,4,25,26,27],tT 10 [0,1,4,10,25,26],tT 11 [0,1,4,25,26,32],tT 12 [4,5],tT 13 [0,1,4,25,26],tT 14 [4,5]]
def tl333:TG:=[tT 3 [0,1,4,6,16,17],tT 9 [0,1,4,25,26]]
def rs333:List AResV:=[.cell 4 true 2,.tmp 5]
def p333_0_0:PT St:=pS [sY 0 (dX .f64),sY 1 (dF .f64),sP 4,sP 6,sl 16 (aV true [(cD (dF .f64)),(cD (dF .f64))]),sI 17,sY 18 dB] [eBox 4 [xI,xI],eBox 6 [(cD (dF .f64)),(cD (dF .f64))]]
def u333_0_0 {β:Type}(g:St->β):Nat->Nat->Nat->Nat->Nat->Int->Bool->Int->Int->Nat->Nat->β:=p333_0_0.unc g
def p333_0_1:PT St:=pS [sY 0 (dX .f64),sY 1 (dF .f64),sP 4,sP 6,sY 8 (dF .f64),sl 16 (aV true [(cD (dF .f64)),(cD (dF .f64))]),sI 17] [eBox 4 [xI,xI],eBox 6 [(cD (dF .f64)),(cD (dF .f64))]]
def u333_0_1 {β:Type}(g:St->β):Nat->Nat->Nat->Nat->Nat->Nat->Int->Int->Int->Nat->Nat->β:=p333_0_1.unc g
def p333_0_2:PT St:=pS [sY 0 (dX .f64),sY 1 (dF .f64),sP 4,sP 6,sl 16 (aV true [(cD (dF .f64)),(cD (dF .f64))]),sI 17] [eBox 4 [xI,xI],eBox 6 [(cD (dF .f64)),(cD (dF .f64))]]
def u333_0_2 {β:Type}(g:St->β):Nat->Nat->Nat->Nat->Nat->Int->Int->Int->Nat->Nat->β:=p333_0_2.unc g
def p333_0_3:PT St:=pS [sP 4,sI 5] [eBox 4 [xI,xI]]
def u333_0_3 {β:Type}(g:St->β):Int->Int->Int->β:=p333_0_3.unc g
def p333_0_4:PT St:=pS [sY 0 (dX .f64),sY 1 (dF .f64),sP 4,sl 25 (aV true [(cD (dF .f64)),(cD (dF .f64))]),sI 26,sY 27 dB] [eBox 4 [xI,xI]]
def u333_0_4 {β:Type}(g:St->β):Nat->Nat->Nat->Nat->Nat->Int->Bool->Int->Int->β:=p333_0_4.unc g
def p333_0_5:PT St:=pS [sY 0 (dX .f64),sY 1 (dF .f64),sP 4,sY 10 (dF .f64),sl 25 (aV true [(cD (dF .f64)),(cD (dF .f64))]),sI 26] [eBox 4 [xI,xI]]
def u333_0_5 {β:Type}(g:St->β):Nat->Nat->Nat->Nat->Nat->Nat->Int->Int->Int->β:=p333_0_5.unc g
def p333_0_6:PT St:=pS [sY 0 (dX .f64),sY 1 (dF .f64),sP 4,sl 25 (aV true [(cD (dF .f64)),(cD (dF .f64))]),sI 26] [eBox 4 [xI,xI]]
def u333_0_6 {β:Type}(g:St->β):Nat->Nat->Nat->Nat->Nat->Int->Int->Int->β:=p333_0_6.unc g
def pr333_0_0:PT (List RV):=pRs [pR true [rD (dI .i64),rD (dI .i64)],wI]
def ur333_0_0 {β:Type}(g:List RV->β):Int->Int->Int->β:=pr333_0_0.unc g
def E333_0g (a:Tf345_0)(b:Tf273_0)(c:Tf346_0):EnvK:=EnvK.of [⟨345,nt345,[⟨pa345_0,Fn345_0 a⟩]⟩,⟨273,nt273,[⟨pa273_0,Fn273_0 b⟩]⟩,⟨346,nt346,[⟨pa346_0,Fn346_0 c⟩]⟩] noSeq
def E333_0:EnvK:=E333_0g f345_0 f273_0 f346_0
theorem eo333_0:E333_0.Ok Pg:=EnvK.of_ok noSeq_ok ⟨⟨io345_0,TT⟩,⟨io273_0,TT⟩,⟨io346_0,TT⟩,TT⟩
def c333_0_35g:MCode:=(.region r333_36 [] (tO [0,1,4,10,25,26]))
def c333_0_35:MCode:=c333_0_35g
theorem g333_0_35:c333_0_35.Good Pg E333_0 sh333:=TT
abbrev TJ333_0_2:Type 1:=(α:Type)->Nat->Nat->Int->(Nat->Op α)->Op α
def J333_0_2g (α:Type)(b c:Nat)(a:Int)(k1:Nat->Op α):Op α:=
 cK (a == 1)
 (k1 c)
 (cK (a == 0)
 (k1 b)
 (none))
def J333_0_2 (α:Type)(a b:Nat)(c:Int)(k1:Nat->Op α):Op α:=J333_0_2g α a b c k1
def F333_0_2 (v:TJ333_0_2)(α:Type)(K:KT α):Nat->Nat->Nat->Nat->Nat->Int->Bool->Int->Int->Op α:=fun d e g a b c l h i=>v α a b c (fun j=>u333_0_5 (K .normal) d e g j a b c h i)
theorem m333_0_2g (a:Tf345_0)(b:Tf273_0)(c:Tf346_0)(α:Type)(K:KT α):F333_0_2 (J333_0_2g ) α K=p333_0_4.unc fun σ=>runM Pg (E333_0g a b c) sh333 (c333_0_35g ) K σ:=by kernel_rfl
theorem m333_0_2:∀ (α:Type) (K:KT α),F333_0_2 J333_0_2 α K=p333_0_4.unc fun σ=>runM Pg E333_0 sh333 c333_0_35 K σ:=m333_0_2g f345_0 f273_0 f346_0
def c333_0_28g (a:TJ333_0_2):MCode:=(.seq (.region r333_30 [] (tO [0,1,4,25,26,27])) (.seq (.cond (.tmp 27) .skip (.exit 2)) (.seq (.block 3 (.seq (.mark [⟨p333_0_4,F333_0_2 a⟩] c333_0_35) (.seq (.region r333_38 [] (tO [0,1,4,25,26,32])) (.cond (.tmp 32) (.seq (.region r333_41 [] (tO [4,5])) .ret) .skip)))) (.region r333_42 [] (tO [0,1,4,25,26])))))
def c333_0_28:MCode:=c333_0_28g J333_0_2
theorem g333_0_28:c333_0_28.Good Pg E333_0 sh333:=⟨TT,⟨TT,TT⟩,⟨⟨g333_0_35,m333_0_2,TT⟩,TT,⟨TT,TT⟩,TT⟩,TT⟩
def S333_0_3g (b:TJ333_0_2)(c:Tf273_0)(α:Type)(d e g:Nat)(a:Int)(kn:Int->Op α)(k1:Op α)(k2:Int->Bool->Op α):Op α:=
 cK (decide (a < 2))
 (b α e g a
 (fun h=>c α h
 (fun i=>cK ((FloatKind.format .f64).order i d == some Ordering.gt)
 (k1)
 (kn (w64 (a+1))))))
 (k2 a (decide (a < 2)))
def S333_0_3 (α:Type)(a b c:Nat)(d:Int)(kn:Int->Op α)(k1:Op α)(k2:Int->Bool->Op α):Op α:=S333_0_3g J333_0_2 f273_0 α a b c d kn k1 k2
def R333_0_3 (α:Type)(a b c:Nat)(k1:Op α)(k2:Int->Bool->Op α):Nat->Int->Op α
 | 0,_=>none
 | n+1,d=>S333_0_3 α a b c d (R333_0_3 α a b c k1 k2 n) k1 k2
def L333_0_3 (α:Type)(a b c:Nat)(k1:Op α)(k2:Int->Bool->Op α)(d:Int):Op α:=R333_0_3 α a b c k1 k2 fuel d
abbrev TL333_0_3:Type 1:=(α:Type)->Nat->Nat->Nat->(Op α)->(Int->Bool->Op α)->Int->Op α
def F333_0_3 (v:TL333_0_3)(α:Type)(K:KT α):Nat->Nat->Nat->Nat->Nat->Int->Int->Int->Op α:=fun d e a b c g h i=>v α a b c (u333_0_3 (K .ret) 2 0 0) (fun j l=>u333_0_4 (K (.exit 2)) d e a b c j l h i) g
theorem r333_0_3g (m:Tf345_0)(j:Tf273_0)(o:Tf346_0)(l:TJ333_0_2)(α:Type)(K:KT α)(Kn:SK α)(e g a b c:Nat)(d h i:Int):u333_0_6 (fun σ=>runM Pg (E333_0g m j o) sh333 (c333_0_28g l) (thenK (fun σ=>tidyK td333_28 σ Kn) K) σ) e g a b c d h i=S333_0_3g l j α a b c d (fun d=>u333_0_6 Kn e g a b c d h i) (u333_0_3 (K .ret) 2 0 0) (fun p q=>u333_0_4 (K (.exit 2)) e g a b c p q h i):=by kernel_rfl
theorem r333_0_3 (α:Type)(K:KT α)(Kn:SK α)(e g a b c:Nat)(d h i:Int):u333_0_6 (fun σ=>runM Pg E333_0 sh333 c333_0_28 (thenK (fun σ=>tidyK td333_28 σ Kn) K) σ) e g a b c d h i=S333_0_3 α a b c d (fun d=>u333_0_6 Kn e g a b c d h i) (u333_0_3 (K .ret) 2 0 0) (fun j l=>u333_0_4 (K (.exit 2)) e g a b c j l h i):=r333_0_3g f345_0 f273_0 f346_0 J333_0_2 α K Kn e g a b c d h i
theorem t333_0_3 (α:Type)(K:KT α):∀ (n:Nat) (e g a b c:Nat) (d h i:Int),R333_0_3 α a b c (u333_0_3 (K .ret) 2 0 0) (fun j l=>u333_0_4 (K (.exit 2)) e g a b c j l h i) n d=u333_0_6 (loopT (runM Pg E333_0 sh333 c333_0_28) td333_28 K n) e g a b c d h i:=by
 intro n
 induction n with
 | zero=>intros;rfl
 | succ n ih=>intro e g a b c d h i;exact (congrArg (fun kn=>S333_0_3 α a b c d kn (u333_0_3 (K .ret) 2 0 0) (fun j l=>u333_0_4 (K (.exit 2)) e g a b c j l h i)) (funext fun d=>ih e g a b c d h i)).trans (r333_0_3 α K (loopT (runM Pg E333_0 sh333 c333_0_28) td333_28 K n) e g a b c d h i).symm
theorem m333_0_3:∀ (α:Type) (K:KT α),F333_0_3 L333_0_3 α K=p333_0_6.unc fun σ=>loopT (runM Pg E333_0 sh333 c333_0_28) td333_28 K fuel σ:=fun α K=>by funext a b c d e g h i;exact t333_0_3 α K fuel a b c d e g h i
def c333_0_16g:MCode:=(.region r333_17 [] (tO [0,1,4,6,8,16,17]))
def c333_0_16:MCode:=c333_0_16g
theorem g333_0_16:c333_0_16.Good Pg E333_0 sh333:=TT
abbrev TJ333_0_0:Type 1:=(α:Type)->Nat->Nat->Int->(Nat->Op α)->Op α
def J333_0_0g (α:Type)(b c:Nat)(a:Int)(k1:Nat->Op α):Op α:=
 cK (a == 1)
 (k1 c)
 (cK (a == 0)
 (k1 b)
 (none))
def J333_0_0 (α:Type)(a b:Nat)(c:Int)(k1:Nat->Op α):Op α:=J333_0_0g α a b c k1
def F333_0_0 (v:TJ333_0_0)(α:Type)(K:KT α):Nat->Nat->Nat->Nat->Nat->Int->Bool->Int->Int->Nat->Nat->Op α:=fun d e g a b c o h i j l=>v α a b c (fun m=>u333_0_1 (K .normal) d e g m a b c h i j l)
theorem m333_0_0g (a:Tf345_0)(b:Tf273_0)(c:Tf346_0)(α:Type)(K:KT α):F333_0_0 (J333_0_0g ) α K=p333_0_0.unc fun σ=>runM Pg (E333_0g a b c) sh333 (c333_0_16g ) K σ:=by kernel_rfl
theorem m333_0_0:∀ (α:Type) (K:KT α),F333_0_0 J333_0_0 α K=p333_0_0.unc fun σ=>runM Pg E333_0 sh333 c333_0_16 K σ:=m333_0_0g f345_0 f273_0 f346_0
def c333_0_9g (a:TJ333_0_0):MCode:=(.seq (.region r333_11 [] (tO [0,1,4,6,16,17,18])) (.seq (.cond (.tmp 18) .skip (.exit 0)) (.seq (.block 1 (.seq (.mark [⟨p333_0_0,F333_0_0 a⟩] c333_0_16) (.seq (.region r333_19 [] (tO [0,1,4,6,16,17,22])) (.cond (.tmp 22) (.seq (.region r333_22 [] (tO [4,5])) .ret) .skip)))) (.region r333_23 [] (tO [0,1,4,6,16,17])))))
def c333_0_9:MCode:=c333_0_9g J333_0_0
theorem g333_0_9:c333_0_9.Good Pg E333_0 sh333:=⟨TT,⟨TT,TT⟩,⟨⟨g333_0_16,m333_0_0,TT⟩,TT,⟨TT,TT⟩,TT⟩,TT⟩
def S333_0_1g (b:TJ333_0_0)(c:Tf345_0)(α:Type)(d e:Nat)(a:Int)(kn:Int->Op α)(k1:Op α)(k2:Int->Bool->Op α):Op α:=
 cK (decide (a < 2))
 (b α d e a
 (fun g=>c α g
 (fun h=>cK (!h)
 (k1)
 (kn (w64 (a+1))))))
 (k2 a (decide (a < 2)))
def S333_0_1 (α:Type)(a b:Nat)(c:Int)(kn:Int->Op α)(k1:Op α)(k2:Int->Bool->Op α):Op α:=S333_0_1g J333_0_0 f345_0 α a b c kn k1 k2
def R333_0_1 (α:Type)(a b:Nat)(k1:Op α)(k2:Int->Bool->Op α):Nat->Int->Op α
 | 0,_=>none
 | n+1,c=>S333_0_1 α a b c (R333_0_1 α a b k1 k2 n) k1 k2
def L333_0_1 (α:Type)(a b:Nat)(k1:Op α)(k2:Int->Bool->Op α)(c:Int):Op α:=R333_0_1 α a b k1 k2 fuel c
abbrev TL333_0_1:Type 1:=(α:Type)->Nat->Nat->(Op α)->(Int->Bool->Op α)->Int->Op α
def F333_0_1 (v:TL333_0_1)(α:Type)(K:KT α):Nat->Nat->Nat->Nat->Nat->Int->Int->Int->Nat->Nat->Op α:=fun c d e a b g h i j l=>v α a b (u333_0_3 (K .ret) 27 0 0) (fun m o=>u333_0_0 (K (.exit 0)) c d e a b m o h i j l) g
theorem r333_0_1g (m:Tf345_0)(p:Tf273_0)(q:Tf346_0)(o:TJ333_0_0)(α:Type)(K:KT α)(Kn:SK α)(d e g a b:Nat)(c h i:Int)(j l:Nat):u333_0_2 (fun σ=>runM Pg (E333_0g m p q) sh333 (c333_0_9g o) (thenK (fun σ=>tidyK td333_9 σ Kn) K) σ) d e g a b c h i j l=S333_0_1g o m α a b c (fun c=>u333_0_2 Kn d e g a b c h i j l) (u333_0_3 (K .ret) 27 0 0) (fun r s=>u333_0_0 (K (.exit 0)) d e g a b r s h i j l):=by kernel_rfl
theorem r333_0_1 (α:Type)(K:KT α)(Kn:SK α)(d e g a b:Nat)(c h i:Int)(j l:Nat):u333_0_2 (fun σ=>runM Pg E333_0 sh333 c333_0_9 (thenK (fun σ=>tidyK td333_9 σ Kn) K) σ) d e g a b c h i j l=S333_0_1 α a b c (fun c=>u333_0_2 Kn d e g a b c h i j l) (u333_0_3 (K .ret) 27 0 0) (fun m o=>u333_0_0 (K (.exit 0)) d e g a b m o h i j l):=r333_0_1g f345_0 f273_0 f346_0 J333_0_0 α K Kn d e g a b c h i j l
theorem t333_0_1 (α:Type)(K:KT α):∀ (n:Nat) (d e g a b:Nat) (c h i:Int) (j l:Nat),R333_0_1 α a b (u333_0_3 (K .ret) 27 0 0) (fun m o=>u333_0_0 (K (.exit 0)) d e g a b m o h i j l) n c=u333_0_2 (loopT (runM Pg E333_0 sh333 c333_0_9) td333_9 K n) d e g a b c h i j l:=by
 intro n
 induction n with
 | zero=>intros;rfl
 | succ n ih=>intro d e g a b c h i j l;exact (congrArg (fun kn=>S333_0_1 α a b c kn (u333_0_3 (K .ret) 27 0 0) (fun m o=>u333_0_0 (K (.exit 0)) d e g a b m o h i j l)) (funext fun c=>ih d e g a b c h i j l)).trans (r333_0_1 α K (loopT (runM Pg E333_0 sh333 c333_0_9) td333_9 K n) d e g a b c h i j l).symm
theorem m333_0_1:∀ (α:Type) (K:KT α),F333_0_1 L333_0_1 α K=p333_0_2.unc fun σ=>loopT (runM Pg E333_0 sh333 c333_0_9) td333_9 K fuel σ:=fun α K=>by funext a b c d e g h i j l;exact t333_0_1 α K fuel a b c d e g h i j l
abbrev Tf333_0:Type 1:=(α:Type)->Nat->Nat->Nat->(Int->Int->Int->Op α)->Op α
def f333_0g (c:TL333_0_1)(d:TL333_0_3)(e:Tf346_0)(α:Type)(a b g:Nat)(k1:Int->Int->Int->Op α):Op α:=
 c α a b
 (k1 0 0 27)
 (fun j l=>d α g a b
 (k1 0 0 2)
 (fun m o=>e α a b
 (fun h i=>k1 h i 0)) 0) 0
def f333_0 (α:Type)(a b c:Nat)(k1:Int->Int->Int->Op α):Op α:=f333_0g L333_0_1 L333_0_3 f346_0 α a b c k1
def pa333_0:PT (List DV):=pA [pV false [(dX .f64)],pV false [(dF .f64)]]
def Fn333_0 (v:Tf333_0)(α:Type)(k:RT α):Nat->Nat->Nat->Op α:=fun a b c=>v α a b c (fun d e g=>ur333_0_0 k d e g)
def cm333_0g (a:TL333_0_1)(b:TL333_0_3):MCode:=(.seq (.region r333_2 [] (tO [0,1,4])) (.seq (.region r333_4 [] (tO [0,1,4,6])) (.seq (.seq (.region r333_7 [] (tO [0,1,4,6,16,17])) (.block 0 (.loop td333_9 [⟨p333_0_2,F333_0_1 a⟩] c333_0_9))) (.seq (.seq (.region r333_26 [] (tO [0,1,4,25,26])) (.block 2 (.loop td333_28 [⟨p333_0_6,F333_0_3 b⟩] c333_0_28))) (.seq (.region r333_44 [] (tO [4,5])) .ret)))))
def cm333_0:MCode:=cm333_0g L333_0_1 L333_0_3
theorem gm333_0:cm333_0.Good Pg E333_0 sh333:=⟨TT,TT,⟨TT,g333_0_9,m333_0_1,TT⟩,⟨TT,g333_0_28,m333_0_3,TT⟩,TT,TT⟩
theorem fm333_0g (d:Tf345_0)(e:Tf273_0)(a:Tf346_0)(b:TL333_0_1)(c:TL333_0_3)(α:Type)(k:RT α):Fn333_0 (f333_0g b c a) α k=pa333_0.unc fun ds=>fnM Pg (E333_0g d e a) sh333 (cm333_0g b c) rs333 k ds:=by kernel_rfl
theorem fm333_0:∀ (α:Type) (k:RT α),Fn333_0 f333_0 α k=pa333_0.unc fun ds=>fnM Pg E333_0 sh333 cm333_0 rs333 k ds:=fm333_0g f345_0 f273_0 f346_0 L333_0_1 L333_0_3
theorem is333:FnIs Pg 333 nt333 tr333 tl333 cm333_0.erase rs333:=⟨Tryz.f333,Tryz.func333,rfl,by kernel_rfl,by kernel_rfl,by kernel_rfl⟩
theorem io333_0:InstOk Pg 333 nt333 ⟨pa333_0,Fn333_0 f333_0⟩:=inst_ok eo333_0 followsTry is333 ⟨⟨sh333,cm333_0,by kernel_rfl,gm333_0,fm333_0⟩⟩
abbrev nt343:Nat:=42
def sh343:SG:=[(27,iS 2),(28,iS 2),(34,iS 2),(36,iS 2),(40,iS 2),(41,iS 2)]
def r343_2:LA:=[oO 2 (.alloc [(cI 0),(cI 0)])]
def r343_4:LA:=[oO 10 (.call 349 [(kI 2251799813685248)]),oM 3 10]
def r343_6:LA:=[oO 11 (.build [(cI 0),(cI 0)] [(0,1,(kI 67108864))]),oM 12 3,oM 13 3,oO 14 (.build [(cI 0),(cI 0)] [(0,1,(.tmp 12)),(1,1,(.tmp 13))]),oO 4 (.alloc [(cI 0),(cI 0)]),oO 5 (.alloc [(cI 0),(cI 0)]),sD 2 4 11,sD 2 5 14]
def r343_8:LA:=[mK 6 0,mK 7 524288]
def td343_11:OT:=(tO [0,2,4,5,6,7])
def r343_14:LA:=[oM 15 0,oM 16 6,bT 17 .neq 15 16,oM 18 17,oG 19 (.mv (.tmp 0)) 18 true,oG 20 (.mv (.tmp 7)) 18 true,oG 21 (.bin .neq 3 (.tmp 19) (.tmp 20)) 18 true,oO 22 (.pick (.tmp 18) (.tmp 21) (.const (.bool false)))]
def r343_18:LA:=[oM 23 6,oM 24 7,bT 25 .add 23 24,bK 26 .quo 25 2,oM 8 26]
def r343_20:LA:=[lA 27 2 4,lA 28 2 5,oO 29 (.call 350 [(.tmp 27),(.tmp 28)]),oO 9 (.alloc [(cI 0),(cI 0)]),sD 2 9 29]
def r343_22:LA:=[oM 30 0,oM 31 8,bT 32 .geq 30 31]
def r343_24:LA:=[oM 33 8,lA 34 2 9,oM 6 33,sD 2 4 34]
def r343_25:LA:=[oM 35 8,lA 36 2 9,oM 7 35,sD 2 5 36]
def r343_28:LA:=[oM 37 0,oM 38 6,bT 39 .eql 37 38]
def r343_31:LA:=[lA 40 2 4,sD 2 2 40]
def r343_33:LA:=[lA 41 2 5,sD 2 2 41]
def tr343:TG:=[tT 0 [0,2],tT 1 [0,2,3],tT 2 [0,2,4,5],tT 3 [0,2,4,5,6,7],tT 4 [0,2,4,5,6,7,22],tT 5 [0,2,4,5,6,7,8],tT 6 [0,2,4,5,6,7,8,9],tT 7 [0,2,4,5,6,7,8,9,32],tT 8 [0,2,4,5,6,7],tT 9 [0,2,4,5,6,7],tT 10 [2,4,5,39],tT 11 [2],tT 12 [2]]
def tl343:TG:=[tT 4 [0,2,4,5,6,7]]
def rs343:List AResV:=[.cell 2 true 2]
def p343_0_0:PT St:=pS [sI 0,sP 2,sP 4,sP 5,sI 6,sI 7] [eBox 2 [xI,xI],eBox 4 [xI,xI],eBox 5 [xI,xI]]
def u343_0_0 {β:Type}(g:St->β):I9 β:=p343_0_0.unc g
def p343_0_1:PT St:=pS [sI 0,sP 2,sP 4,sP 5,sI 6,sI 7,sY 22 dB] [eBox 2 [xI,xI],eBox 4 [xI,xI],eBox 5 [xI,xI]]
def u343_0_1 {β:Type}(g:St->β):Int->Int->Int->Bool->I6 β:=p343_0_1.unc g
def pr343_0_0:PT (List RV):=pRs [pR true [rD (dI .i64),rD (dI .i64)]]
def ur343_0_0 {β:Type}(g:List RV->β):Int->Int->β:=pr343_0_0.unc g
def E343_0g (a:Tf349_0)(b:Tf350_0):EnvK:=EnvK.of [⟨349,nt349,[⟨pa349_0,Fn349_0 a⟩]⟩,⟨350,nt350,[⟨pa350_0,Fn350_0 b⟩]⟩] noSeq
def E343_0:EnvK:=E343_0g f349_0 f350_0
theorem eo343_0:E343_0.Ok Pg:=EnvK.of_ok noSeq_ok ⟨⟨io349_0,TT⟩,⟨io350_0,TT⟩,TT⟩
def c343_0_11g:MCode:=(.seq (.seq (.region r343_14 [] (tO [0,2,4,5,6,7,22])) (.cond (.tmp 22) .skip (.exit 0))) (.block 1 (.seq (.region r343_18 [] (tO [0,2,4,5,6,7,8])) (.seq (.region r343_20 [] (tO [0,2,4,5,6,7,8,9])) (.seq (.region r343_22 [] (tO [0,2,4,5,6,7,8,9,32])) (.cond (.tmp 32) (.region r343_24 [] (tO [0,2,4,5,6,7])) (.region r343_25 [] (tO [0,2,4,5,6,7]))))))))
def c343_0_11:MCode:=c343_0_11g
theorem g343_0_11:c343_0_11.Good Pg E343_0 sh343:=⟨⟨TT,TT,TT⟩,TT,TT,TT,TT,TT⟩
def S343_0_0g (l:Tf350_0)(α:Type)(c b a d e g h:Int)(kn:I6 (Op α))(k1:Int->Int->Bool->I4 (Op α)):Op α:=
 cK (c != b)
 (cK (c != a)
 (l α d e g h
 (fun i j=>cK (decide ((w64 (Int.tdiv (w64 (b+a)) 2))<=c))
 (kn (w64 (Int.tdiv (w64 (b+a)) 2)) a i j g h)
 (kn b (w64 (Int.tdiv (w64 (b+a)) 2)) d e i j)))
 (k1 b a (c != a) d e g h))
 (k1 b a false d e g h)
def S343_0_0 (α:Type)(a b c d e g h:Int)(kn:I6 (Op α))(k1:Int->Int->Bool->I4 (Op α)):Op α:=S343_0_0g f350_0 α a b c d e g h kn k1
def R343_0_0 (α:Type)(a:Int)(k1:Int->Int->Bool->I4 (Op α)):Nat->I6 (Op α)
 | 0,_,_,_,_,_,_=>none
 | n+1,b,c,d,e,g,h=>S343_0_0 α a b c d e g h (R343_0_0 α a k1 n) k1
def L343_0_0 (α:Type)(a:Int)(k1:Int->Int->Bool->I4 (Op α))(b c d e g h:Int):Op α:=R343_0_0 α a k1 fuel b c d e g h
abbrev TL343_0_0:Type 1:=(α:Type)->Int->(Int->Int->Bool->I4 (Op α))->I6 (Op α)
def F343_0_0 (v:TL343_0_0)(α:Type)(K:KT α):I9 (Op α):=fun a b c d e g h i j=>v α a (fun l m o p q r s=>u343_0_1 (K (.exit 0)) a l m o d e p q r s) b c g h i j
theorem r343_0_0g (m:Tf349_0)(l:Tf350_0)(α:Type)(K:KT α)(Kn:SK α)(a b c i j d e g h:Int):u343_0_0 (fun σ=>runM Pg (E343_0g m l) sh343 (c343_0_11g ) (thenK (fun σ=>tidyK td343_11 σ Kn) K) σ) a b c i j d e g h=S343_0_0g l α a b c d e g h (fun b c d e g h=>u343_0_0 Kn a b c i j d e g h) (fun o p q r s t w=>u343_0_1 (K (.exit 0)) a o p q i j r s t w):=by kernel_rfl
theorem r343_0_0 (α:Type)(K:KT α)(Kn:SK α)(a b c i j d e g h:Int):u343_0_0 (fun σ=>runM Pg E343_0 sh343 c343_0_11 (thenK (fun σ=>tidyK td343_11 σ Kn) K) σ) a b c i j d e g h=S343_0_0 α a b c d e g h (fun b c d e g h=>u343_0_0 Kn a b c i j d e g h) (fun l m o p q r s=>u343_0_1 (K (.exit 0)) a l m o i j p q r s):=r343_0_0g f349_0 f350_0 α K Kn a b c i j d e g h
theorem t343_0_0 (α:Type)(K:KT α):∀ (n:Nat) (a b c i j d e g h:Int),R343_0_0 α a (fun l m o p q r s=>u343_0_1 (K (.exit 0)) a l m o i j p q r s) n b c d e g h=u343_0_0 (loopT (runM Pg E343_0 sh343 c343_0_11) td343_11 K n) a b c i j d e g h:=by
 intro n
 induction n with
 | zero=>intros;rfl
 | succ n ih=>intro a b c i j d e g h;exact (congrArg (fun kn=>S343_0_0 α a b c d e g h kn (fun l m o p q r s=>u343_0_1 (K (.exit 0)) a l m o i j p q r s)) (funext fun b=>funext fun c=>funext fun d=>funext fun e=>funext fun g=>funext fun h=>ih a b c i j d e g h)).trans (r343_0_0 α K (loopT (runM Pg E343_0 sh343 c343_0_11) td343_11 K n) a b c i j d e g h).symm
theorem m343_0_0:∀ (α:Type) (K:KT α),F343_0_0 L343_0_0 α K=p343_0_0.unc fun σ=>loopT (runM Pg E343_0 sh343 c343_0_11) td343_11 K fuel σ:=fun α K=>by funext a b c d e g h i j;exact t343_0_0 α K fuel a b c d e g h i j
abbrev Tf343_0:Type 1:=(α:Type)->Int->(Int->Int->Op α)->Op α
def f343_0g (c:TL343_0_0)(d:Tf349_0)(α:Type)(a:Int)(k1:Int->Int->Op α):Op α:=
 d α 2251799813685248
 (fun b=>c α a
 (fun e l m g h i j=>cK (a == e)
 (k1 g h)
 (k1 i j)) 0 524288 67108864 0 b b)
def f343_0 (α:Type)(a:Int)(k1:Int->Int->Op α):Op α:=f343_0g L343_0_0 f349_0 α a k1
def pa343_0:PT (List DV):=pA [vI]
def Fn343_0 (v:Tf343_0)(α:Type)(k:RT α):Int->Op α:=fun a=>v α a (fun b c=>ur343_0_0 k b c)
def cm343_0g (a:TL343_0_0):MCode:=(.seq (.region r343_2 [] (tO [0,2])) (.seq (.region r343_4 [] (tO [0,2,3])) (.seq (.region r343_6 [] (tO [0,2,4,5])) (.seq (.region r343_8 [] (tO [0,2,4,5,6,7])) (.seq (.block 0 (.loop td343_11 [⟨p343_0_0,F343_0_0 a⟩] c343_0_11)) (.seq (.seq (.region r343_28 [] (tO [2,4,5,39])) (.cond (.tmp 39) (.seq (.region r343_31 [] (tO [2])) .ret) .skip)) (.seq (.region r343_33 [] (tO [2])) .ret)))))))
def cm343_0:MCode:=cm343_0g L343_0_0
theorem gm343_0:cm343_0.Good Pg E343_0 sh343:=⟨TT,TT,TT,TT,⟨g343_0_11,m343_0_0,TT⟩,⟨TT,⟨TT,TT⟩,TT⟩,TT,TT⟩
theorem fm343_0g (a:Tf349_0)(c:Tf350_0)(b:TL343_0_0)(α:Type)(k:RT α):Fn343_0 (f343_0g b a) α k=pa343_0.unc fun ds=>fnM Pg (E343_0g a c) sh343 (cm343_0g b) rs343 k ds:=by kernel_rfl
theorem fm343_0:∀ (α:Type) (k:RT α),Fn343_0 f343_0 α k=pa343_0.unc fun ds=>fnM Pg E343_0 sh343 cm343_0 rs343 k ds:=fm343_0g f349_0 f350_0 L343_0_0
theorem is343:FnIs Pg 343 nt343 tr343 tl343 cm343_0.erase rs343:=⟨Tryz.f343,Tryz.func343,rfl,by kernel_rfl,by kernel_rfl,by kernel_rfl⟩
theorem io343_0:InstOk Pg 343 nt343 ⟨pa343_0,Fn343_0 f343_0⟩:=inst_ok eo343_0 followsTry is343 ⟨⟨sh343,cm343_0,by kernel_rfl,gm343_0,fm343_0⟩⟩
abbrev nt299:Nat:=25
def sh299:SG:=[(8,[.cpx .f64]),(16,iT),(20,iS 2),(22,iT)]
def r299_2:LA:=[oO 1 (.box (.tmp 0)),oO 2 (.alloc (zI 3)),mK 3 0]
def r299_4:LA:=[fA 7 0 1,lD 8 7,oO 9 (.call 333 [(.tmp 8),(.const (.float Go.FloatKind.f64 4724276009111650304))]),oM 6 9,oO 10 (.extract 0 (.tmp 6)),oO 11 (.extract 1 (.tmp 6)),oO 4 (.alloc [(cI 0),(cI 0)]),sD 2 4 10,oM 5 11]
def r299_7:LA:=[oM 12 5,oO 13 (.bin .eql 28 (.tmp 12) (kI 0)),oM 14 13,oG 15 (.faddr 1 (.tmp 1)) 14 true,oG 16 (.load false 1 (.tmp 15)) 14 true,oG 17 (.call 295 [(.tmp 16),(kI 0),(kI 67108864)]) 14 true,oG 18 (.pure (oB (.unOp .not 4 (.tmp 17)) 4)) 14 true,oO 19 (.pick (.tmp 14) (.tmp 18) (.const (.bool false)))]
def r299_9:LA:=[mK 5 2]
def r299_11:LA:=[lA 20 2 4,fA 21 1 1,lD 22 21,oO 23 (.build (zI 3) [(0,2,(.tmp 20)),(2,1,(.tmp 22))]),oM 24 5,sD 3 2 23,oM 3 24]
def tr299:TG:=[tT 0 [1,2],tT 1 [1,2,4,5],tT 2 [1,2,4,5,19],tT 3 [1,2,4,5],tT 4 [2,3]]
def tl299:TG:=[]
def rs299:List AResV:=[.cell 2 true 3,.tmp 3]
def p299_0_0:PT St:=pS [sP 1,sP 2,sP 4,sI 5] [eBox 1 [(cD (dX .f64)),xI],eBox 2 (xs 3),eBox 4 [xI,xI]]
def u299_0_0 {β:Type}(g:St->β):Int->Nat->Nat->I6 β:=p299_0_0.unc g
def p299_0_1:PT St:=pS [sP 1,sP 2,sP 4,sI 5,sY 19 dB] [eBox 1 [(cD (dX .f64)),xI],eBox 2 (xs 3),eBox 4 [xI,xI]]
def u299_0_1 {β:Type}(g:St->β):Int->Bool->Nat->Nat->I6 β:=p299_0_1.unc g
def pr299_0_0:PT (List RV):=pRs [pR true [rD (dI .i64),rD (dI .i64),rD (dI .i64)],wI]
def ur299_0_0 {β:Type}(g:List RV->β):I4 β:=pr299_0_0.unc g
def E299_0g (a:Tf333_0)(b:Tf295_0):EnvK:=EnvK.of [⟨333,nt333,[⟨pa333_0,Fn333_0 a⟩]⟩,⟨295,nt295,[⟨pa295_0,Fn295_0 b⟩]⟩] noSeq
def E299_0:EnvK:=E299_0g f333_0 f295_0
theorem eo299_0:E299_0.Ok Pg:=EnvK.of_ok noSeq_ok ⟨⟨io333_0,TT⟩,⟨io295_0,TT⟩,TT⟩
def c299_0_5g:MCode:=(.seq (.region r299_7 [] (tO [1,2,4,5,19])) (.cond (.tmp 19) (.region r299_9 [] (tO [1,2,4,5])) .skip))
def c299_0_5:MCode:=c299_0_5g
theorem g299_0_5:c299_0_5.Good Pg E299_0 sh299:=⟨TT,TT,TT⟩
abbrev TJ299_0_0:Type 1:=(α:Type)->Int->Int->(Op α)->(Bool->Op α)->Op α
def J299_0_0g (b:Tf295_0)(α:Type)(c d:Int)(k1:Op α)(k2:Bool->Op α):Op α:=
 cK (c == 0)
 (b α d 0 67108864
 (fun a=>cK (!a)
 (k1)
 (k2 (!a))))
 (k2 false)
def J299_0_0 (α:Type)(a b:Int)(k1:Op α)(k2:Bool->Op α):Op α:=J299_0_0g f295_0 α a b k1 k2
def F299_0_0 (v:TJ299_0_0)(α:Type)(K:KT α):Int->Nat->Nat->I6 (Op α):=fun b c d a e g h i j=>v α b a (u299_0_0 (K .normal) 2 c d a e g h i j) (fun l=>u299_0_1 (K .normal) b l c d a e g h i j)
theorem m299_0_0g (b:Tf333_0)(a:Tf295_0)(α:Type)(K:KT α):F299_0_0 (J299_0_0g a) α K=p299_0_0.unc fun σ=>runM Pg (E299_0g b a) sh299 (c299_0_5g ) K σ:=by kernel_rfl
theorem m299_0_0:∀ (α:Type) (K:KT α),F299_0_0 J299_0_0 α K=p299_0_0.unc fun σ=>runM Pg E299_0 sh299 c299_0_5 K σ:=m299_0_0g f333_0 f295_0
abbrev Tf299_0:Type 1:=(α:Type)->Nat->Nat->Int->(I4 (Op α))->Op α
def f299_0g (e:TJ299_0_0)(g:Tf333_0)(α:Type)(h i:Nat)(a:Int)(k1:I4 (Op α)):Op α:=
 g α h i 4724276009111650304
 (fun b c d=>e α d a
 (k1 b c a 2)
 (fun j=>k1 b c a d))
def f299_0 (α:Type)(a b:Nat)(c:Int)(k1:I4 (Op α)):Op α:=f299_0g J299_0_0 f333_0 α a b c k1
def pa299_0:PT (List DV):=pA [pV true [(dX .f64),(dI .i64)]]
def Fn299_0 (v:Tf299_0)(α:Type)(k:RT α):Nat->Nat->Int->Op α:=fun a b c=>v α a b c (fun d e g h=>ur299_0_0 k d e g h)
def cm299_0g (a:TJ299_0_0):MCode:=(.seq (.region r299_2 [] (tO [1,2])) (.seq (.region r299_4 [] (tO [1,2,4,5])) (.seq (.mark [⟨p299_0_0,F299_0_0 a⟩] c299_0_5) (.seq (.region r299_11 [] (tO [2,3])) .ret))))
def cm299_0:MCode:=cm299_0g J299_0_0
theorem gm299_0:cm299_0.Good Pg E299_0 sh299:=⟨TT,TT,⟨g299_0_5,m299_0_0,TT⟩,TT,TT⟩
theorem fm299_0g (a:Tf333_0)(c:Tf295_0)(b:TJ299_0_0)(α:Type)(k:RT α):Fn299_0 (f299_0g b a) α k=pa299_0.unc fun ds=>fnM Pg (E299_0g a c) sh299 (cm299_0g b) rs299 k ds:=by kernel_rfl
theorem fm299_0:∀ (α:Type) (k:RT α),Fn299_0 f299_0 α k=pa299_0.unc fun ds=>fnM Pg E299_0 sh299 cm299_0 rs299 k ds:=fm299_0g f333_0 f295_0 J299_0_0
theorem is299:FnIs Pg 299 nt299 tr299 tl299 cm299_0.erase rs299:=⟨Tryz.f299,Tryz.func299,rfl,by kernel_rfl,by kernel_rfl,by kernel_rfl⟩
theorem io299_0:InstOk Pg 299 nt299 ⟨pa299_0,Fn299_0 f299_0⟩:=inst_ok eo299_0 followsTry is299 ⟨⟨sh299,cm299_0,by kernel_rfl,gm299_0,fm299_0⟩⟩
abbrev nt330:Nat:=36
def sh330:SG:=[(30,iT),(32,iT)]
def r330_2:LA:=[oO 2 (.alloc [(cI 0),(cI 0)])]
def r330_4:LA:=[oM 4 0,oM 5 0,oO 6 (.call 297 [(.tmp 5),(kI 4194304)]),oO 7 (.bin .mul 3 (kI 4194304) (.tmp 6)),bT 8 .sub 4 7,oM 0 8]
def r330_8:LA:=[oM 10 0,bK 11 .geq 10 2097152,oM 9 11]
def r330_11:LA:=[oM 12 0,bK 13 .sub 12 2097152,oO 14 (.call 330 [.tmp 13]),oO 15 (.call 342 [(.tmp 14),(kI 2)]),sD 2 2 15]
def r330_13:LA:=[oM 17 0,bK 18 .geq 17 1048576,oM 16 18]
def r330_16:LA:=[oM 19 0,bK 20 .sub 19 1048576,oO 21 (.call 330 [.tmp 20]),oO 22 (.call 342 [(.tmp 21),(kI 1)]),sD 2 2 22]
def r330_18:LA:=[oM 24 0,bK 25 .gtr 24 524288,oM 23 25]
def r330_21:LA:=[oM 26 0,oO 27 (.bin .sub 3 (kI 1048576) (.tmp 26)),oO 28 (.call 343 [.tmp 27]),oO 3 (.alloc [(cI 0),(cI 0)]),sD 2 3 28]
def r330_23:LA:=[fA 29 1 3,lD 30 29,fA 31 0 3,lD 32 31,oO 33 (.build [(cI 0),(cI 0)] [(0,1,(.tmp 30)),(1,1,(.tmp 32))]),sD 2 2 33]
def r330_25:LA:=[oM 34 0,oO 35 (.call 343 [.tmp 34]),sD 2 2 35]
def tr330:TG:=[tT 0 [0,2],tT 1 [0,2],tT 2 [0,2,9],tT 3 [2],tT 4 [0,2,16],tT 5 [2],tT 6 [0,2,23],tT 7 [2,3],tT 8 [2],tT 9 [2]]
def tl330:TG:=[]
def rs330:List AResV:=[.cell 2 true 2]
def pr330_2_0:PT (List RV):=pRs [pR true [rD (dI .i64),rD (dI .i64)]]
def ur330_2_0 {β:Type}(g:List RV->β):Int->Int->β:=pr330_2_0.unc g
def E330_2g (a:Tf297_0)(b:Tf343_0):EnvK:=EnvK.of [⟨297,nt297,[⟨pa297_0,Fn297_0 a⟩]⟩,⟨343,nt343,[⟨pa343_0,Fn343_0 b⟩]⟩] noSeq
def E330_2:EnvK:=E330_2g f297_0 f343_0
theorem eo330_2:E330_2.Ok Pg:=EnvK.of_ok noSeq_ok ⟨⟨io297_0,TT⟩,⟨io343_0,TT⟩,TT⟩
abbrev Tf330_2:Type 1:=(α:Type)->Int->(Int->Int->Op α)->Op α
def f330_2g (d:Tf297_0)(c:Tf343_0)(α:Type)(a:Int)(k1:Int->Int->Op α):Op α:=
 d α a 4194304
 (fun b=>cK (decide (2097152<=(w64 (a - (w64 (4194304*b))))))
 (none)
 (cK (decide (1048576<=(w64 (a - (w64 (4194304*b))))))
 (none)
 (cK (decide (524288 < (w64 (a - (w64 (4194304*b))))))
 (c α (w64 (1048576 - (w64 (a - (w64 (4194304*b))))))
 (fun e g=>k1 g e))
 (c α (w64 (a - (w64 (4194304*b))))
 (fun h i=>k1 h i)))))
def f330_2 (α:Type)(a:Int)(k1:Int->Int->Op α):Op α:=f330_2g f297_0 f343_0 α a k1
def pa330_2:PT (List DV):=pA [vI]
def Fn330_2 (v:Tf330_2)(α:Type)(k:RT α):Int->Op α:=fun a=>v α a (fun b c=>ur330_2_0 k b c)
def cm330_2g:MCode:=(.seq (.region r330_2 [] (tO [0,2])) (.seq (.region r330_4 [] (tO [0,2])) (.seq (.block 0 (.seq (.region r330_8 [] (tO [0,2,9])) (.cond (.tmp 9) (.seq (.region r330_11 [] (tO [2])) .ret) (.seq (.region r330_13 [] (tO [0,2,16])) (.cond (.tmp 16) (.seq (.region r330_16 [] (tO [2])) .ret) (.seq (.region r330_18 [] (tO [0,2,23])) (.cond (.tmp 23) (.seq (.region r330_21 [] (tO [2,3])) (.seq (.region r330_23 [] (tO [2])) .ret)) .skip))))))) (.seq (.region r330_25 [] (tO [2])) .ret))))
def cm330_2:MCode:=cm330_2g
theorem gm330_2:cm330_2.Good Pg E330_2 sh330:=⟨TT,TT,⟨TT,⟨TT,TT⟩,TT,⟨TT,TT⟩,TT,⟨TT,TT,TT⟩,TT⟩,TT,TT⟩
theorem fm330_2g (a:Tf297_0)(b:Tf343_0)(α:Type)(k:RT α):Fn330_2 (f330_2g a b) α k=pa330_2.unc fun ds=>fnM Pg (E330_2g a b) sh330 (cm330_2g ) rs330 k ds:=by kernel_rfl
theorem fm330_2:∀ (α:Type) (k:RT α),Fn330_2 f330_2 α k=pa330_2.unc fun ds=>fnM Pg E330_2 sh330 cm330_2 rs330 k ds:=fm330_2g f297_0 f343_0
theorem is330:FnIs Pg 330 nt330 tr330 tl330 cm330_2.erase rs330:=⟨Tryz.f330,Tryz.func330,rfl,by kernel_rfl,by kernel_rfl,by kernel_rfl⟩
theorem io330_2:InstOk Pg 330 nt330 ⟨pa330_2,Fn330_2 f330_2⟩:=inst_ok eo330_2 followsTry is330 ⟨⟨sh330,cm330_2,by kernel_rfl,gm330_2,fm330_2⟩⟩
def pr330_1_0:PT (List RV):=pRs [pR true [rD (dI .i64),rD (dI .i64)]]
def ur330_1_0 {β:Type}(g:List RV->β):Int->Int->β:=pr330_1_0.unc g
def E330_1g (a:Tf297_0)(b:Tf330_2)(c:Tf342_0)(d:Tf343_0):EnvK:=EnvK.of [⟨297,nt297,[⟨pa297_0,Fn297_0 a⟩]⟩,⟨330,nt330,[⟨pa330_2,Fn330_2 b⟩]⟩,⟨342,nt342,[⟨pa342_0,Fn342_0 c⟩]⟩,⟨343,nt343,[⟨pa343_0,Fn343_0 d⟩]⟩] noSeq
def E330_1:EnvK:=E330_1g f297_0 f330_2 f342_0 f343_0
theorem eo330_1:E330_1.Ok Pg:=EnvK.of_ok noSeq_ok ⟨⟨io297_0,TT⟩,⟨io330_2,TT⟩,⟨io342_0,TT⟩,⟨io343_0,TT⟩,TT⟩
abbrev Tf330_1:Type 1:=(α:Type)->Int->(Int->Int->Op α)->Op α
def f330_1g (g:Tf297_0)(c:Tf330_2)(d:Tf342_0)(e:Tf343_0)(α:Type)(a:Int)(k1:Int->Int->Op α):Op α:=
 g α a 4194304
 (fun b=>cK (decide (2097152<=(w64 (a - (w64 (4194304*b))))))
 (c α (w64 ((w64 (a - (w64 (4194304*b)))) - 2097152))
 (fun h i=>d α h i 2
 (fun j l=>k1 j l)))
 (cK (decide (1048576<=(w64 (a - (w64 (4194304*b))))))
 (c α (w64 ((w64 (a - (w64 (4194304*b)))) - 1048576))
 (fun m o=>d α m o 1
 (fun p q=>k1 p q)))
 (cK (decide (524288 < (w64 (a - (w64 (4194304*b))))))
 (e α (w64 (1048576 - (w64 (a - (w64 (4194304*b))))))
 (fun r s=>k1 s r))
 (e α (w64 (a - (w64 (4194304*b))))
 (fun t w=>k1 t w)))))
def f330_1 (α:Type)(a:Int)(k1:Int->Int->Op α):Op α:=f330_1g f297_0 f330_2 f342_0 f343_0 α a k1
def pa330_1:PT (List DV):=pA [vI]
def Fn330_1 (v:Tf330_1)(α:Type)(k:RT α):Int->Op α:=fun a=>v α a (fun b c=>ur330_1_0 k b c)
def cm330_1g:MCode:=(.seq (.region r330_2 [] (tO [0,2])) (.seq (.region r330_4 [] (tO [0,2])) (.seq (.block 0 (.seq (.region r330_8 [] (tO [0,2,9])) (.cond (.tmp 9) (.seq (.region r330_11 [] (tO [2])) .ret) (.seq (.region r330_13 [] (tO [0,2,16])) (.cond (.tmp 16) (.seq (.region r330_16 [] (tO [2])) .ret) (.seq (.region r330_18 [] (tO [0,2,23])) (.cond (.tmp 23) (.seq (.region r330_21 [] (tO [2,3])) (.seq (.region r330_23 [] (tO [2])) .ret)) .skip))))))) (.seq (.region r330_25 [] (tO [2])) .ret))))
def cm330_1:MCode:=cm330_1g
theorem gm330_1:cm330_1.Good Pg E330_1 sh330:=⟨TT,TT,⟨TT,⟨TT,TT⟩,TT,⟨TT,TT⟩,TT,⟨TT,TT,TT⟩,TT⟩,TT,TT⟩
theorem fm330_1g (a:Tf297_0)(b:Tf330_2)(c:Tf342_0)(d:Tf343_0)(α:Type)(k:RT α):Fn330_1 (f330_1g a b c d) α k=pa330_1.unc fun ds=>fnM Pg (E330_1g a b c d) sh330 (cm330_1g ) rs330 k ds:=by kernel_rfl
theorem fm330_1:∀ (α:Type) (k:RT α),Fn330_1 f330_1 α k=pa330_1.unc fun ds=>fnM Pg E330_1 sh330 cm330_1 rs330 k ds:=fm330_1g f297_0 f330_2 f342_0 f343_0
theorem io330_1:InstOk Pg 330 nt330 ⟨pa330_1,Fn330_1 f330_1⟩:=inst_ok eo330_1 followsTry is330 ⟨⟨sh330,cm330_1,by kernel_rfl,gm330_1,fm330_1⟩⟩
def pr330_0_0:PT (List RV):=pRs [pR true [rD (dI .i64),rD (dI .i64)]]
def ur330_0_0 {β:Type}(g:List RV->β):Int->Int->β:=pr330_0_0.unc g
def E330_0g (a:Tf297_0)(b:Tf330_1)(c:Tf342_0)(d:Tf343_0):EnvK:=EnvK.of [⟨297,nt297,[⟨pa297_0,Fn297_0 a⟩]⟩,⟨330,nt330,[⟨pa330_1,Fn330_1 b⟩]⟩,⟨342,nt342,[⟨pa342_0,Fn342_0 c⟩]⟩,⟨343,nt343,[⟨pa343_0,Fn343_0 d⟩]⟩] noSeq
def E330_0:EnvK:=E330_0g f297_0 f330_1 f342_0 f343_0
theorem eo330_0:E330_0.Ok Pg:=EnvK.of_ok noSeq_ok ⟨⟨io297_0,TT⟩,⟨io330_1,TT⟩,⟨io342_0,TT⟩,⟨io343_0,TT⟩,TT⟩
abbrev Tf330_0:Type 1:=(α:Type)->Int->(Int->Int->Op α)->Op α
def f330_0g (g:Tf297_0)(c:Tf330_1)(d:Tf342_0)(e:Tf343_0)(α:Type)(a:Int)(k1:Int->Int->Op α):Op α:=
 g α a 4194304
 (fun b=>cK (decide (2097152<=(w64 (a - (w64 (4194304*b))))))
 (c α (w64 ((w64 (a - (w64 (4194304*b)))) - 2097152))
 (fun h i=>d α h i 2
 (fun j l=>k1 j l)))
 (cK (decide (1048576<=(w64 (a - (w64 (4194304*b))))))
 (c α (w64 ((w64 (a - (w64 (4194304*b)))) - 1048576))
 (fun m o=>d α m o 1
 (fun p q=>k1 p q)))
 (cK (decide (524288 < (w64 (a - (w64 (4194304*b))))))
 (e α (w64 (1048576 - (w64 (a - (w64 (4194304*b))))))
 (fun r s=>k1 s r))
 (e α (w64 (a - (w64 (4194304*b))))
 (fun t w=>k1 t w)))))
def f330_0 (α:Type)(a:Int)(k1:Int->Int->Op α):Op α:=f330_0g f297_0 f330_1 f342_0 f343_0 α a k1
def pa330_0:PT (List DV):=pA [vI]
def Fn330_0 (v:Tf330_0)(α:Type)(k:RT α):Int->Op α:=fun a=>v α a (fun b c=>ur330_0_0 k b c)
def cm330_0g:MCode:=(.seq (.region r330_2 [] (tO [0,2])) (.seq (.region r330_4 [] (tO [0,2])) (.seq (.block 0 (.seq (.region r330_8 [] (tO [0,2,9])) (.cond (.tmp 9) (.seq (.region r330_11 [] (tO [2])) .ret) (.seq (.region r330_13 [] (tO [0,2,16])) (.cond (.tmp 16) (.seq (.region r330_16 [] (tO [2])) .ret) (.seq (.region r330_18 [] (tO [0,2,23])) (.cond (.tmp 23) (.seq (.region r330_21 [] (tO [2,3])) (.seq (.region r330_23 [] (tO [2])) .ret)) .skip))))))) (.seq (.region r330_25 [] (tO [2])) .ret))))
def cm330_0:MCode:=cm330_0g
theorem gm330_0:cm330_0.Good Pg E330_0 sh330:=⟨TT,TT,⟨TT,⟨TT,TT⟩,TT,⟨TT,TT⟩,TT,⟨TT,TT,TT⟩,TT⟩,TT,TT⟩
theorem fm330_0g (a:Tf297_0)(b:Tf330_1)(c:Tf342_0)(d:Tf343_0)(α:Type)(k:RT α):Fn330_0 (f330_0g a b c d) α k=pa330_0.unc fun ds=>fnM Pg (E330_0g a b c d) sh330 (cm330_0g ) rs330 k ds:=by kernel_rfl
theorem fm330_0:∀ (α:Type) (k:RT α),Fn330_0 f330_0 α k=pa330_0.unc fun ds=>fnM Pg E330_0 sh330 cm330_0 rs330 k ds:=fm330_0g f297_0 f330_1 f342_0 f343_0
theorem io330_0:InstOk Pg 330 nt330 ⟨pa330_0,Fn330_0 f330_0⟩:=inst_ok eo330_0 followsTry is330 ⟨⟨sh330,cm330_0,by kernel_rfl,gm330_0,fm330_0⟩⟩
abbrev nt242:Nat:=28
def sh242:SG:=[(8,[.cpx .f64,.int .i64]),(20,iT),(25,iT)]
def r242_2:LA:=[oO 1 (.box (.tmp 0)),oO 2 (.alloc (zI 4)),mK 3 0]
def r242_4:LA:=[lA 8 2 1,oO 9 (.call 299 [.tmp 8]),oM 7 9,oO 10 (.extract 0 (.tmp 7)),oO 11 (.extract 1 (.tmp 7)),oO 4 (.alloc (zI 3)),sD 3 4 10,oM 5 11]
def r242_7:LA:=[oM 12 5,oO 13 (.bin .neq 28 (.tmp 12) (kI 0))]
def r242_10:LA:=[oO 14 (.build (zI 4) []),oM 15 5,sD 4 2 14,oM 3 15]
def r242_12:LA:=[oO 16 (.mkfn 300 [(.tmp 4)]),oM 6 16]
def r242_14:LA:=[oM 17 6,fA 18 0 4,fA 19 0 18,lD 20 19,oO 21 (.calld (.tmp 17) [(.tmp 20)]),oM 22 6,fA 23 0 4,fA 24 1 23,lD 25 24,oO 26 (.calld (.tmp 22) [(.tmp 25)]),oO 27 (.build (zI 4) [(0,2,(.tmp 21)),(2,2,(.tmp 26))]),sD 4 2 27,mK 3 0]
def tr242:TG:=[tT 0 [1,2],tT 1 [2,4,5],tT 2 [2,4,5,13],tT 3 [2,3],tT 4 [2,4,6],tT 5 [2,3]]
def tl242:TG:=[]
def rs242:List AResV:=[.cell 2 true 4,.tmp 3]
def pr242_0_0:PT (List RV):=pRs [pR true [rD (dI .i64),rD (dI .i64),rD (dI .i64),rD (dI .i64)],wI]
def ur242_0_0 {β:Type}(g:List RV->β):I5 β:=pr242_0_0.unc g
def E242_0g (a:Tf299_0)(b:Tf300_0):EnvK:=EnvK.of [⟨299,nt299,[⟨pa299_0,Fn299_0 a⟩]⟩,⟨300,nt300,[⟨pa300_0,Fn300_0 b⟩]⟩] noSeq
def E242_0:EnvK:=E242_0g f299_0 f300_0
theorem eo242_0:E242_0.Ok Pg:=EnvK.of_ok noSeq_ok ⟨⟨io299_0,TT⟩,⟨io300_0,TT⟩,TT⟩
abbrev Tf242_0:Type 1:=(α:Type)->Nat->Nat->Int->(I5 (Op α))->Op α
def f242_0g (g:Tf299_0)(c:Tf300_0)(α:Type)(h i:Nat)(j:Int)(k1:I5 (Op α)):Op α:=
 g α h i j
 (fun a b d e=>cK (e != 0)
 (k1 0 0 0 0 e)
 (c α a a b d
 (fun l m=>c α b a b d
 (fun o p=>k1 l m o p 0))))
def f242_0 (α:Type)(a b:Nat)(c:Int)(k1:I5 (Op α)):Op α:=f242_0g f299_0 f300_0 α a b c k1
def pa242_0:PT (List DV):=pA [pV true [(dX .f64),(dI .i64)]]
def Fn242_0 (v:Tf242_0)(α:Type)(k:RT α):Nat->Nat->Int->Op α:=fun a b c=>v α a b c (fun d e g h i=>ur242_0_0 k d e g h i)
def cm242_0g:MCode:=(.seq (.region r242_2 [] (tO [1,2])) (.seq (.region r242_4 [] (tO [2,4,5])) (.seq (.seq (.region r242_7 [] (tO [2,4,5,13])) (.cond (.tmp 13) (.seq (.region r242_10 [] (tO [2,3])) .ret) .skip)) (.seq (.region r242_12 [] (tO [2,4,6])) (.seq (.region r242_14 [(4,8)] (tO [2,3])) .ret)))))
def cm242_0:MCode:=cm242_0g
theorem gm242_0:cm242_0.Good Pg E242_0 sh242:=⟨TT,TT,⟨TT,⟨TT,TT⟩,TT⟩,TT,TT,TT⟩
theorem fm242_0g (a:Tf299_0)(b:Tf300_0)(α:Type)(k:RT α):Fn242_0 (f242_0g a b) α k=pa242_0.unc fun ds=>fnM Pg (E242_0g a b) sh242 (cm242_0g ) rs242 k ds:=by kernel_rfl
theorem fm242_0:∀ (α:Type) (k:RT α),Fn242_0 f242_0 α k=pa242_0.unc fun ds=>fnM Pg E242_0 sh242 cm242_0 rs242 k ds:=fm242_0g f299_0 f300_0
theorem is242:FnIs Pg 242 nt242 tr242 tl242 cm242_0.erase rs242:=⟨Tryz.f242,Tryz.func242,rfl,by kernel_rfl,by kernel_rfl,by kernel_rfl⟩
theorem io242_0:InstOk Pg 242 nt242 ⟨pa242_0,Fn242_0 f242_0⟩:=inst_ok eo242_0 followsTry is242 ⟨⟨sh242,cm242_0,by kernel_rfl,gm242_0,fm242_0⟩⟩
abbrev nt296:Nat:=54
def sh296:SG:=[(21,iT),(27,iT),(50,iS 3)]
def r296_2:LA:=[oO 4 (.alloc [(.d (.v (.complex Go.FloatKind.f64 0 0))),(cI 0)]),mK 5 0]
def r296_4:LA:=[oM 13 0,oM 14 1,bT 15 .add 13 14,oO 16 (.call 297 [(.tmp 15),(kI 2)]),oM 6 16]
def r296_6:LA:=[oM 17 6,oO 18 (.call 330 [.tmp 17]),oO 7 (.alloc [(cI 0),(cI 0)]),sD 2 7 18]
def r296_8:LA:=[fA 20 0 7,lD 21 20,oO 22 (.call 331 [(.tmp 21),(kI 64)]),oM 19 22,oO 23 (.extract 0 (.tmp 19)),oO 24 (.extract 1 (.tmp 19)),oM 8 23,oM 9 24]
def r296_10:LA:=[fA 26 1 7,lD 27 26,oO 28 (.call 331 [(.tmp 27),(kI 64)]),oM 25 28,oO 29 (.extract 0 (.tmp 25)),oO 30 (.extract 1 (.tmp 25)),oM 10 29,oM 11 30]
def r296_12:LA:=[oM 31 8,oM 32 10,oO 33 (.build [(cI 0),(cI 0)] [(0,1,(.tmp 31)),(1,1,(.tmp 32))]),oM 34 1,oM 35 6,bT 36 .sub 34 35,oO 37 (.bin .mul 3 (kI 11) (.tmp 36)),oO 38 (.call 298 [(.tmp 37),(kI 7)]),oO 39 (.bin .add 3 (kI 2) (.tmp 38)),oO 40 (.build (zI 3) [(0,2,(.tmp 33)),(2,1,(.tmp 39))]),oO 12 (.alloc (zI 3)),sD 3 12 40]
def r296_15:LA:=[oM 41 0,oM 42 1,bT 43 .eql 41 42,oM 44 43,oG 45 (.mv (.tmp 0)) 44 true,oG 46 (.bin .rem 3 (.tmp 45) (kI 1048576)) 44 true,oG 47 (.bin .eql 3 (.tmp 46) (kI 0)) 44 true,oO 48 (.pick (.tmp 44) (.tmp 47) (.const (.bool false)))]
def r296_17:LA:=[fA 49 2 12,oD (.store 1 (.tmp 49) (kI 0))]
def r296_19:LA:=[lA 50 3 12,oO 51 (.call 332 [.tmp 50]),oO 52 (.extract 0 (.tmp 51)),oO 53 (.extract 1 (.tmp 51)),sD 2 4 52,oM 5 53]
def tr296:TG:=[tT 0 [0,1,4],tT 1 [0,1,4,6],tT 2 [0,1,4,6,7],tT 3 [0,1,4,6,7,8],tT 4 [0,1,4,6,8,10],tT 5 [0,1,4,12],tT 6 [4,12,48],tT 7 [4,12],tT 8 [4,5]]
def tl296:TG:=[]
def rs296:List AResV:=[.cell 4 true 2,.tmp 5]
def p296_0_0:PT St:=pS [sI 0,sI 1,sP 4,sP 12] [eBox 4 [(cD (dX .f64)),xI],eBox 12 (xs 3)]
def u296_0_0 {β:Type}(g:St->β):Int->Int->Nat->Nat->I4 β:=p296_0_0.unc g
def p296_0_1:PT St:=pS [sP 4,sP 12] [eBox 4 [(cD (dX .f64)),xI],eBox 12 (xs 3)]
def u296_0_1 {β:Type}(g:St->β):Nat->Nat->I4 β:=p296_0_1.unc g
def p296_0_2:PT St:=pS [sP 4,sP 12,sY 48 dB] [eBox 4 [(cD (dX .f64)),xI],eBox 12 (xs 3)]
def u296_0_2 {β:Type}(g:St->β):Bool->Nat->Nat->I4 β:=p296_0_2.unc g
def pr296_0_0:PT (List RV):=pRs [pR true [rD (dX .f64),rD (dI .i64)],wI]
def ur296_0_0 {β:Type}(g:List RV->β):Nat->Nat->Int->Int->β:=pr296_0_0.unc g
def E296_0g (a:Tf297_0)(b:Tf330_0)(c:Tf331_0)(d:Tf298_0)(e:Tf332_0):EnvK:=EnvK.of [⟨297,nt297,[⟨pa297_0,Fn297_0 a⟩]⟩,⟨330,nt330,[⟨pa330_0,Fn330_0 b⟩]⟩,⟨331,nt331,[⟨pa331_0,Fn331_0 c⟩]⟩,⟨298,nt298,[⟨pa298_0,Fn298_0 d⟩]⟩,⟨332,nt332,[⟨pa332_0,Fn332_0 e⟩]⟩] noSeq
def E296_0:EnvK:=E296_0g f297_0 f330_0 f331_0 f298_0 f332_0
theorem eo296_0:E296_0.Ok Pg:=EnvK.of_ok noSeq_ok ⟨⟨io297_0,TT⟩,⟨io330_0,TT⟩,⟨io331_0,TT⟩,⟨io298_0,TT⟩,⟨io332_0,TT⟩,TT⟩
def c296_0_13g:MCode:=(.seq (.region r296_15 [] (tO [4,12,48])) (.cond (.tmp 48) (.region r296_17 [] (tO [4,12])) .skip))
def c296_0_13:MCode:=c296_0_13g
theorem g296_0_13:c296_0_13.Good Pg E296_0 sh296:=⟨TT,TT,TT⟩
abbrev TJ296_0_0:Type 1:=(α:Type)->Int->Int->(Op α)->(Bool->Op α)->Op α
def J296_0_0g (α:Type)(a b:Int)(k1:Op α)(k2:Bool->Op α):Op α:=
 cK (a == b)
 (cK ((Int.tmod a 1048576) == 0)
 (k1)
 (k2 ((Int.tmod a 1048576) == 0)))
 (k2 false)
def J296_0_0 (α:Type)(a b:Int)(k1:Op α)(k2:Bool->Op α):Op α:=J296_0_0g α a b k1 k2
def F296_0_0 (v:TJ296_0_0)(α:Type)(K:KT α):Int->Int->Nat->Nat->I4 (Op α):=fun g h a b c d e i=>v α g h (u296_0_1 (K .normal) a b c d e 0) (fun j=>u296_0_2 (K .normal) j a b c d e i)
theorem m296_0_0g (a:Tf297_0)(b:Tf330_0)(c:Tf331_0)(d:Tf298_0)(e:Tf332_0)(α:Type)(K:KT α):F296_0_0 (J296_0_0g ) α K=p296_0_0.unc fun σ=>runM Pg (E296_0g a b c d e) sh296 (c296_0_13g ) K σ:=by kernel_rfl
theorem m296_0_0:∀ (α:Type) (K:KT α),F296_0_0 J296_0_0 α K=p296_0_0.unc fun σ=>runM Pg E296_0 sh296 c296_0_13 K σ:=m296_0_0g f297_0 f330_0 f331_0 f298_0 f332_0
abbrev Tf296_0:Type 1:=(α:Type)->Int->Int->(Nat->Nat->Int->Int->Op α)->Op α
def f296_0g (i:TJ296_0_0)(j:Tf297_0)(l:Tf298_0)(m:Tf330_0)(b:Tf331_0)(c:Tf332_0)(α:Type)(d a:Int)(k1:Nat->Nat->Int->Int->Op α):Op α:=
 j α (w64 (d+a)) 2
 (fun e=>m α e
 (fun o p=>b α o 64
 (fun g D=>b α p 64
 (fun h F=>l α (w64 (11*(w64 (a - e)))) 7
 (fun q=>i α d a
 (c α g h 0
 (fun r s t w=>k1 r s t w))
 (fun G=>c α g h (w64 (2+q))
 (fun z A B C=>k1 z A B C)))))))
def f296_0 (α:Type)(a b:Int)(k1:Nat->Nat->Int->Int->Op α):Op α:=f296_0g J296_0_0 f297_0 f298_0 f330_0 f331_0 f332_0 α a b k1
def pa296_0:PT (List DV):=pA [vI,vI]
def Fn296_0 (v:Tf296_0)(α:Type)(k:RT α):Int->Int->Op α:=fun a b=>v α a b (fun c d e g=>ur296_0_0 k c d e g)
def cm296_0g (a:TJ296_0_0):MCode:=(.seq (.region r296_2 [] (tO [0,1,4])) (.seq (.region r296_4 [] (tO [0,1,4,6])) (.seq (.region r296_6 [] (tO [0,1,4,6,7])) (.seq (.region r296_8 [] (tO [0,1,4,6,7,8])) (.seq (.region r296_10 [] (tO [0,1,4,6,8,10])) (.seq (.region r296_12 [] (tO [0,1,4,12])) (.seq (.mark [⟨p296_0_0,F296_0_0 a⟩] c296_0_13) (.seq (.region r296_19 [] (tO [4,5])) .ret))))))))
def cm296_0:MCode:=cm296_0g J296_0_0
theorem gm296_0:cm296_0.Good Pg E296_0 sh296:=⟨TT,TT,TT,TT,TT,TT,⟨g296_0_13,m296_0_0,TT⟩,TT,TT⟩
theorem fm296_0g (a:Tf297_0)(b:Tf330_0)(c:Tf331_0)(d:Tf298_0)(e:Tf332_0)(g:TJ296_0_0)(α:Type)(k:RT α):Fn296_0 (f296_0g g a d b c e) α k=pa296_0.unc fun ds=>fnM Pg (E296_0g a b c d e) sh296 (cm296_0g g) rs296 k ds:=by kernel_rfl
theorem fm296_0:∀ (α:Type) (k:RT α),Fn296_0 f296_0 α k=pa296_0.unc fun ds=>fnM Pg E296_0 sh296 cm296_0 rs296 k ds:=fm296_0g f297_0 f330_0 f331_0 f298_0 f332_0 J296_0_0
theorem is296:FnIs Pg 296 nt296 tr296 tl296 cm296_0.erase rs296:=⟨Tryz.f296,Tryz.func296,rfl,by kernel_rfl,by kernel_rfl,by kernel_rfl⟩
theorem io296_0:InstOk Pg 296 nt296 ⟨pa296_0,Fn296_0 f296_0⟩:=inst_ok eo296_0 followsTry is296 ⟨⟨sh296,cm296_0,by kernel_rfl,gm296_0,fm296_0⟩⟩
abbrev nt241:Nat:=26
def sh241:SG:=[]
def r241_2:LA:=[oO 4 (.alloc [(.d (.v (.complex Go.FloatKind.f64 0 0))),(cI 0)]),mK 5 0]
def r241_5:LA:=[oM 6 0,oO 7 (.call 294 [(.tmp 6),(kI 1000000000)]),oO 8 (.pure (oB (.unOp .not 4 (.tmp 7)) 4)),oM 9 8,oG 10 (.mv (.tmp 1)) 9 false,oG 11 (.call 295 [(.tmp 10),(kI 1),(kI 1000000000)]) 9 false,oG 12 (.pure (oB (.unOp .not 4 (.tmp 11)) 4)) 9 false,oO 13 (.pick (.tmp 9) (.const (.bool true)) (.tmp 12))]
def r241_8:LA:=[oO 14 (.build [(.d (.v (.complex Go.FloatKind.f64 0 0))),(cI 0)] []),sD 2 4 14,mK 5 2]
def r241_10:LA:=[oM 15 0,bK 16 .mul 15 4194304,oM 17 1,oO 18 (.call 297 [(.tmp 16),(.tmp 17)]),oM 19 0,bK 20 .mul 19 4194304,oM 21 1,oO 22 (.call 298 [(.tmp 20),(.tmp 21)]),oO 23 (.call 296 [(.tmp 18),(.tmp 22)]),oO 24 (.extract 0 (.tmp 23)),oO 25 (.extract 1 (.tmp 23)),sD 2 4 24,oM 5 25]
def tr241:TG:=[tT 0 [0,1,4],tT 1 [0,1,4,13],tT 2 [4,5],tT 3 [4,5]]
def tl241:TG:=[]
def rs241:List AResV:=[.cell 4 true 2,.tmp 5]
def pr241_0_0:PT (List RV):=pRs [pR true [rD (dX .f64),rD (dI .i64)],wI]
def ur241_0_0 {β:Type}(g:List RV->β):Nat->Nat->Int->Int->β:=pr241_0_0.unc g
def E241_0g (a:Tf294_0)(b:Tf295_0)(c:Tf297_0)(d:Tf298_0)(e:Tf296_0):EnvK:=EnvK.of [⟨294,nt294,[⟨pa294_0,Fn294_0 a⟩]⟩,⟨295,nt295,[⟨pa295_0,Fn295_0 b⟩]⟩,⟨297,nt297,[⟨pa297_0,Fn297_0 c⟩]⟩,⟨298,nt298,[⟨pa298_0,Fn298_0 d⟩]⟩,⟨296,nt296,[⟨pa296_0,Fn296_0 e⟩]⟩] noSeq
def E241_0:EnvK:=E241_0g f294_0 f295_0 f297_0 f298_0 f296_0
theorem eo241_0:E241_0.Ok Pg:=EnvK.of_ok noSeq_ok ⟨⟨io294_0,TT⟩,⟨io295_0,TT⟩,⟨io297_0,TT⟩,⟨io298_0,TT⟩,⟨io296_0,TT⟩,TT⟩
abbrev Tf241_0:Type 1:=(α:Type)->Int->Int->(Nat->Nat->Int->Int->Op α)->Op α
def f241_0g (c:Tf294_0)(d:Tf295_0)(e:Tf296_0)(g:Tf297_0)(h:Tf298_0)(α:Type)(a b:Int)(k1:Nat->Nat->Int->Int->Op α):Op α:=
 c α a 1000000000
 (fun i=>cK (!i)
 (k1 0 0 0 2)
 (d α b 1 1000000000
 (fun j=>cK (!j)
 (k1 0 0 0 2)
 (g α (w64 (a*4194304)) b
 (fun l=>h α (w64 (a*4194304)) b
 (fun m=>e α l m
 (fun o p q r=>k1 o p q r)))))))
def f241_0 (α:Type)(a b:Int)(k1:Nat->Nat->Int->Int->Op α):Op α:=f241_0g f294_0 f295_0 f296_0 f297_0 f298_0 α a b k1
def pa241_0:PT (List DV):=pA [vI,vI]
def Fn241_0 (v:Tf241_0)(α:Type)(k:RT α):Int->Int->Op α:=fun a b=>v α a b (fun c d e g=>ur241_0_0 k c d e g)
def cm241_0g:MCode:=(.seq (.region r241_2 [] (tO [0,1,4])) (.seq (.seq (.region r241_5 [] (tO [0,1,4,13])) (.cond (.tmp 13) (.seq (.region r241_8 [] (tO [4,5])) .ret) .skip)) (.seq (.region r241_10 [] (tO [4,5])) .ret)))
def cm241_0:MCode:=cm241_0g
theorem gm241_0:cm241_0.Good Pg E241_0 sh241:=⟨TT,⟨TT,⟨TT,TT⟩,TT⟩,TT,TT⟩
theorem fm241_0g (a:Tf294_0)(b:Tf295_0)(c:Tf297_0)(d:Tf298_0)(e:Tf296_0)(α:Type)(k:RT α):Fn241_0 (f241_0g a b e c d) α k=pa241_0.unc fun ds=>fnM Pg (E241_0g a b c d e) sh241 (cm241_0g ) rs241 k ds:=by kernel_rfl
theorem fm241_0:∀ (α:Type) (k:RT α),Fn241_0 f241_0 α k=pa241_0.unc fun ds=>fnM Pg E241_0 sh241 cm241_0 rs241 k ds:=fm241_0g f294_0 f295_0 f297_0 f298_0 f296_0
theorem is241:FnIs Pg 241 nt241 tr241 tl241 cm241_0.erase rs241:=⟨Tryz.f241,Tryz.func241,rfl,by kernel_rfl,by kernel_rfl,by kernel_rfl⟩
theorem io241_0:InstOk Pg 241 nt241 ⟨pa241_0,Fn241_0 f241_0⟩:=inst_ok eo241_0 followsTry is241 ⟨⟨sh241,cm241_0,by kernel_rfl,gm241_0,fm241_0⟩⟩
end
end Go.AM.K
