/- Printed by KGen. -/
import Derived.Test.YtehamglokkjipaaGreatProg
import Derived.Test.YtehamglokkjipaaGreatKMa
namespace Go.AM.K
open Go.Proofs
set_option maxRecDepth 100000
set_option linter.unusedVariables false
theorem followsTry:Tryz.prog.follows .mixedOrders=true:=by kernel_rfl
abbrev nt170:Nat:=5
def sh170:List (Nat × List Sh):=[]
def r170_2:List AOper:=[oO 2 (.mv (.const (.float Go.FloatKind.f64 0)))]
def r170_4:List AOper:=[oM 3 0,oO 4 (.pure (oB (.call { callee:=.value (.func 175),args:=#[(.tmp 3)],argTypes:=#[117] }) 117)),oM 2 4]
def tr170:List (Nat × Tidy):=[tT 0 [0],tT 1 [2]]
def tl170:List (Nat × Tidy):=[]
def rs170:List AResV:=[.tmp 2]
def pr170_0_0:PT (List RV):=pRs [pR false [rD (dF .f64)]]
def ur170_0_0 {β:Type}(g:List RV->β):Nat->β:=pr170_0_0.unc g
def E170_0g :EnvK:=EnvK.of [] noSeq
noncomputable def E170_0:EnvK:=E170_0g
theorem eo170_0:E170_0.Ok Tryz.prog:=EnvK.of_ok noSeq_ok trivial
abbrev Tf170_0:Type 1:=(α:Type)->Nat->(Nat->Option α)->Option α
def f170_0g  (α:Type) (x1:Nat) (k1:Nat->Option α):Option α:=
 flK ((FloatKind.format .f64).sqrt x1)
 (fun x2=>k1 x2)
noncomputable def f170_0 (α:Type)(x1:Nat)(k1:Nat->Option α):Option α:=f170_0g  α x1 k1
def pa170_0:PT (List DV):=pA [pV false [(dF .f64)]]
def Fn170_0 (v:Tf170_0)(α:Type)(k:List RV->Option α):Nat->Option α:=fun x1=>v α x1 (fun (y1:Nat)=>ur170_0_0 k y1)
noncomputable def cm170_0g :MCode:=(.seq (.region r170_2 [] (tO [0])) (.seq (.region r170_4 [] (tO [2])) .ret))
noncomputable def cm170_0:MCode:=cm170_0g
theorem gm170_0:cm170_0.Good Tryz.prog E170_0 sh170:=⟨trivial,trivial,trivial⟩
theorem fm170_0g   (α:Type) (k:List RV->Option α):Fn170_0 (f170_0g ) α k=pa170_0.unc fun ds=>fnM Tryz.prog (E170_0g ) sh170 (cm170_0g ) rs170 k ds:=by kernel_rfl
theorem fm170_0:∀ (α:Type) (k:List RV->Option α),Fn170_0 f170_0 α k=pa170_0.unc fun ds=>fnM Tryz.prog E170_0 sh170 cm170_0 rs170 k ds:=fm170_0g
theorem is170:FnIs Tryz.prog 170 nt170 tr170 tl170 cm170_0.erase rs170:=⟨Tryz.f170,Tryz.func170,rfl,by kernel_rfl,by kernel_rfl,by kernel_rfl⟩
theorem io170_0:InstOk Tryz.prog 170 nt170 ⟨pa170_0,Fn170_0 f170_0⟩:=inst_ok eo170_0 followsTry is170 ⟨⟨sh170,cm170_0,by kernel_rfl,gm170_0,fm170_0⟩⟩
abbrev nt160:Nat:=25
def sh160:List (Nat × List Sh):=[]
def r160_2:List AOper:=[oO 2 (.mv (kI 0))]
def r160_4:List AOper:=[oM 4 0,oO 5 (.pure (oB (.convert 3 117 (.tmp 4)) 117)),oO 6 (.call 170 [(.tmp 5)]),oO 7 (.pure (oB (.convert 117 3 (.tmp 6)) 3)),oM 3 7]
def td160_7:Option Tidy:=(tO [0,3])
def r160_10:List AOper:=[oM 8 3,oM 9 3,oO 10 (.bin .mul 3 (.tmp 8) (.tmp 9)),oM 11 0,oO 12 (.bin .gtr 3 (.tmp 10) (.tmp 11))]
def r160_13:List AOper:=[oM 13 3,oO 14 (.bin .sub 3 (.tmp 13) (kI 1)),oM 3 14]
def td160_16:Option Tidy:=(tO [0,3])
def r160_19:List AOper:=[oM 15 3,oO 16 (.bin .add 3 (.tmp 15) (kI 1)),oM 17 3,oO 18 (.bin .add 3 (.tmp 17) (kI 1)),oO 19 (.bin .mul 3 (.tmp 16) (.tmp 18)),oM 20 0,oO 21 (.bin .leq 3 (.tmp 19) (.tmp 20))]
def r160_22:List AOper:=[oM 22 3,oO 23 (.bin .add 3 (.tmp 22) (kI 1)),oM 3 23]
def r160_24:List AOper:=[oM 24 3,oM 2 24]
def tr160:List (Nat × Tidy):=[tT 0 [0],tT 1 [0,3],tT 2 [0,3,12],tT 3 [0,3],tT 4 [0,3,21],tT 5 [0,3],tT 6 [2]]
def tl160:List (Nat × Tidy):=[tT 2 [0,3],tT 4 [0,3]]
def rs160:List AResV:=[.tmp 2]
def p160_0_0:PT St:=pS [sl 0 (aV false [(cD (dI .i64))]),sl 3 (aV false [(cD (dI .i64))])] []
def u160_0_0 {β:Type}(g:St->β):Int->Int->β:=p160_0_0.unc g
def p160_0_1:PT St:=pS [sl 0 (aV false [(cD (dI .i64))]),sl 3 (aV false [(cD (dI .i64))]),sl 12 (aV false [(cD dB)])] []
def u160_0_1 {β:Type}(g:St->β):Int->Int->Bool->β:=p160_0_1.unc g
def p160_0_2:PT St:=pS [sl 0 (aV false [(cD (dI .i64))]),sl 3 (aV false [(cD (dI .i64))]),sl 21 (aV false [(cD dB)])] []
def u160_0_2 {β:Type}(g:St->β):Int->Int->Bool->β:=p160_0_2.unc g
def pr160_0_0:PT (List RV):=pRs [pR false [rD (dI .i64)]]
def ur160_0_0 {β:Type}(g:List RV->β):Int->β:=pr160_0_0.unc g
def E160_0g (vf170_0:Tf170_0):EnvK:=EnvK.of [⟨170,nt170,[⟨pa170_0,Fn170_0 vf170_0⟩]⟩] noSeq
noncomputable def E160_0:EnvK:=E160_0g f170_0
theorem eo160_0:E160_0.Ok Tryz.prog:=EnvK.of_ok noSeq_ok ⟨⟨io170_0,trivial⟩,trivial⟩
noncomputable def c160_0_16g :MCode:=(.seq (.seq (.region r160_19 [] (tO [0,3,21])) (.cond (.tmp 21) .skip (.exit 2))) (.block 3 (.region r160_22 [] (tO [0,3]))))
noncomputable def c160_0_16:MCode:=c160_0_16g
theorem g160_0_16:c160_0_16.Good Tryz.prog E160_0 sh160:=⟨⟨trivial,trivial,trivial⟩,trivial⟩
--CODE 16 0
def S160_0_1g  (α:Type) (x10 x11:Int) (kn:Int->Option α) (k1:Int->Bool->Option α):Option α:=
 cK (decide ((w64 ((w64 (x11+1))*(w64 (x11+1))))<=x10))
 (kn (w64 (x11+1)))
 (k1 x11 (decide ((w64 ((w64 (x11+1))*(w64 (x11+1))))<=x10)))
noncomputable def S160_0_1 (α:Type)(x10 x11:Int)(kn:Int->Option α)(k1:Int->Bool->Option α):Option α:=S160_0_1g  α x10 x11 kn k1
noncomputable def R160_0_1 (α:Type)(x10:Int)(k1:Int->Bool->Option α):Nat->Int->Option α
 | 0,_=>none
 | n+1,x11=>S160_0_1 α x10 x11 (R160_0_1 α x10 k1 n) k1
noncomputable def L160_0_1 (α:Type)(x10:Int)(k1:Int->Bool->Option α)(x11:Int):Option α:=R160_0_1 α x10 k1 fuel x11
abbrev TL160_0_1:Type 1:=(α:Type)->Int->(Int->Bool->Option α)->Int->Option α
def F160_0_1 (v:TL160_0_1)(α:Type)(K:Exit->St->Option α):Int->Int->Option α:=fun x10 x11=>v α x10 (fun (y1:Int) (y2:Bool)=>u160_0_2 (K (.exit 2)) x10 y1 y2) x11
theorem r160_0_1g (vf170_0:Tf170_0)  (α:Type) (K:Exit->St->Option α) (Kn:St->Option α) (x10 x11:Int):u160_0_0 (fun σ=>runM Tryz.prog (E160_0g vf170_0) sh160 (c160_0_16g ) (thenK (fun σ=>tidyK td160_16 σ Kn) K) σ) x10 x11=S160_0_1g  α x10 x11 (fun x11=>u160_0_0 Kn x10 x11) (fun (y1:Int) (y2:Bool)=>u160_0_2 (K (.exit 2)) x10 y1 y2):=by kernel_rfl
theorem r160_0_1 (α:Type)(K:Exit->St->Option α)(Kn:St->Option α)(x10 x11:Int):u160_0_0 (fun σ=>runM Tryz.prog E160_0 sh160 c160_0_16 (thenK (fun σ=>tidyK td160_16 σ Kn) K) σ) x10 x11=S160_0_1 α x10 x11 (fun x11=>u160_0_0 Kn x10 x11) (fun (y1:Int) (y2:Bool)=>u160_0_2 (K (.exit 2)) x10 y1 y2):=r160_0_1g f170_0 α K Kn x10 x11
theorem t160_0_1 (α:Type)(K:Exit->St->Option α):∀ (n:Nat) (x10 x11:Int),R160_0_1 α x10 (fun (y1:Int) (y2:Bool)=>u160_0_2 (K (.exit 2)) x10 y1 y2) n x11=u160_0_0 (loopT (runM Tryz.prog E160_0 sh160 c160_0_16) td160_16 K n) x10 x11:=by
 intro n
 induction n with
 | zero=>intros;rfl
 | succ n ih=>intro x10 x11;exact (congrArg (fun kn=>S160_0_1 α x10 x11 kn (fun (y1:Int) (y2:Bool)=>u160_0_2 (K (.exit 2)) x10 y1 y2)) (funext fun x11=>ih x10 x11)).trans (r160_0_1 α K (loopT (runM Tryz.prog E160_0 sh160 c160_0_16) td160_16 K n) x10 x11).symm
theorem m160_0_1:∀ (α:Type) (K:Exit->St->Option α),F160_0_1 L160_0_1 α K=p160_0_0.unc fun σ=>loopT (runM Tryz.prog E160_0 sh160 c160_0_16) td160_16 K fuel σ:=fun α K=>funext fun x10=>funext fun x11=>t160_0_1 α K fuel x10 x11
noncomputable def c160_0_7g :MCode:=(.seq (.seq (.region r160_10 [] (tO [0,3,12])) (.cond (.tmp 12) .skip (.exit 0))) (.block 1 (.region r160_13 [] (tO [0,3]))))
noncomputable def c160_0_7:MCode:=c160_0_7g
theorem g160_0_7:c160_0_7.Good Tryz.prog E160_0 sh160:=⟨⟨trivial,trivial,trivial⟩,trivial⟩
--CODE 7 0
def S160_0_0g  (α:Type) (x4 x5:Int) (kn:Int->Option α) (k1:Int->Bool->Option α):Option α:=
 cK (decide (x4 < (w64 (x5*x5))))
 (kn (w64 (x5 - 1)))
 (k1 x5 (decide (x4 < (w64 (x5*x5)))))
noncomputable def S160_0_0 (α:Type)(x4 x5:Int)(kn:Int->Option α)(k1:Int->Bool->Option α):Option α:=S160_0_0g  α x4 x5 kn k1
noncomputable def R160_0_0 (α:Type)(x4:Int)(k1:Int->Bool->Option α):Nat->Int->Option α
 | 0,_=>none
 | n+1,x5=>S160_0_0 α x4 x5 (R160_0_0 α x4 k1 n) k1
noncomputable def L160_0_0 (α:Type)(x4:Int)(k1:Int->Bool->Option α)(x5:Int):Option α:=R160_0_0 α x4 k1 fuel x5
abbrev TL160_0_0:Type 1:=(α:Type)->Int->(Int->Bool->Option α)->Int->Option α
def F160_0_0 (v:TL160_0_0)(α:Type)(K:Exit->St->Option α):Int->Int->Option α:=fun x4 x5=>v α x4 (fun (y1:Int) (y2:Bool)=>u160_0_1 (K (.exit 0)) x4 y1 y2) x5
theorem r160_0_0g (vf170_0:Tf170_0)  (α:Type) (K:Exit->St->Option α) (Kn:St->Option α) (x4 x5:Int):u160_0_0 (fun σ=>runM Tryz.prog (E160_0g vf170_0) sh160 (c160_0_7g ) (thenK (fun σ=>tidyK td160_7 σ Kn) K) σ) x4 x5=S160_0_0g  α x4 x5 (fun x5=>u160_0_0 Kn x4 x5) (fun (y1:Int) (y2:Bool)=>u160_0_1 (K (.exit 0)) x4 y1 y2):=by kernel_rfl
theorem r160_0_0 (α:Type)(K:Exit->St->Option α)(Kn:St->Option α)(x4 x5:Int):u160_0_0 (fun σ=>runM Tryz.prog E160_0 sh160 c160_0_7 (thenK (fun σ=>tidyK td160_7 σ Kn) K) σ) x4 x5=S160_0_0 α x4 x5 (fun x5=>u160_0_0 Kn x4 x5) (fun (y1:Int) (y2:Bool)=>u160_0_1 (K (.exit 0)) x4 y1 y2):=r160_0_0g f170_0 α K Kn x4 x5
theorem t160_0_0 (α:Type)(K:Exit->St->Option α):∀ (n:Nat) (x4 x5:Int),R160_0_0 α x4 (fun (y1:Int) (y2:Bool)=>u160_0_1 (K (.exit 0)) x4 y1 y2) n x5=u160_0_0 (loopT (runM Tryz.prog E160_0 sh160 c160_0_7) td160_7 K n) x4 x5:=by
 intro n
 induction n with
 | zero=>intros;rfl
 | succ n ih=>intro x4 x5;exact (congrArg (fun kn=>S160_0_0 α x4 x5 kn (fun (y1:Int) (y2:Bool)=>u160_0_1 (K (.exit 0)) x4 y1 y2)) (funext fun x5=>ih x4 x5)).trans (r160_0_0 α K (loopT (runM Tryz.prog E160_0 sh160 c160_0_7) td160_7 K n) x4 x5).symm
theorem m160_0_0:∀ (α:Type) (K:Exit->St->Option α),F160_0_0 L160_0_0 α K=p160_0_0.unc fun σ=>loopT (runM Tryz.prog E160_0 sh160 c160_0_7) td160_7 K fuel σ:=fun α K=>funext fun x4=>funext fun x5=>t160_0_0 α K fuel x4 x5
abbrev Tf160_0:Type 1:=(α:Type)->Int->(Int->Option α)->Option α
def f160_0g (vL160_0_0:TL160_0_0)(vL160_0_1:TL160_0_1)(vf170_0:Tf170_0)(α:Type)(x1:Int)(k1:Int->Option α):Option α:=
 vf170_0 α (FloatKind.nearest .f64 x1)
 (fun x2=>ivK (f2i .f64 x2 .i64)
 (fun x3=>vL160_0_0 α x1
 (fun x7 x8=>vL160_0_1 α x1
 (fun x13 x14=>k1 x13) x7) x3))
noncomputable def f160_0 (α:Type)(x1:Int)(k1:Int->Option α):Option α:=f160_0g L160_0_0 L160_0_1 f170_0 α x1 k1
def pa160_0:PT (List DV):=pA [pV false [(dI .i64)]]
def Fn160_0 (v:Tf160_0)(α:Type)(k:List RV->Option α):Int->Option α:=fun x1=>v α x1 (fun (y1:Int)=>ur160_0_0 k y1)
noncomputable def cm160_0g (vL160_0_0:TL160_0_0)(vL160_0_1:TL160_0_1):MCode:=(.seq (.region r160_2 [] (tO [0])) (.seq (.region r160_4 [] (tO [0,3])) (.seq (.block 0 (.loop td160_7 [⟨p160_0_0,F160_0_0 vL160_0_0⟩] c160_0_7)) (.seq (.block 2 (.loop td160_16 [⟨p160_0_0,F160_0_1 vL160_0_1⟩] c160_0_16)) (.seq (.region r160_24 [] (tO [2])) .ret)))))
noncomputable def cm160_0:MCode:=cm160_0g L160_0_0 L160_0_1
theorem gm160_0:cm160_0.Good Tryz.prog E160_0 sh160:=⟨trivial,trivial,⟨g160_0_7,m160_0_0,trivial⟩,⟨g160_0_16,m160_0_1,trivial⟩,trivial,trivial⟩
theorem fm160_0g (vf170_0:Tf170_0)(vL160_0_0:TL160_0_0)(vL160_0_1:TL160_0_1)(α:Type)(k:List RV->Option α):Fn160_0 (f160_0g vL160_0_0 vL160_0_1 vf170_0) α k=pa160_0.unc fun ds=>fnM Tryz.prog (E160_0g vf170_0) sh160 (cm160_0g vL160_0_0 vL160_0_1) rs160 k ds:=by kernel_rfl
theorem fm160_0:∀ (α:Type) (k:List RV->Option α),Fn160_0 f160_0 α k=pa160_0.unc fun ds=>fnM Tryz.prog E160_0 sh160 cm160_0 rs160 k ds:=fm160_0g f170_0 L160_0_0 L160_0_1
theorem is160:FnIs Tryz.prog 160 nt160 tr160 tl160 cm160_0.erase rs160:=⟨Tryz.f160,Tryz.func160,rfl,by kernel_rfl,by kernel_rfl,by kernel_rfl⟩
theorem io160_0:InstOk Tryz.prog 160 nt160 ⟨pa160_0,Fn160_0 f160_0⟩:=inst_ok eo160_0 followsTry is160 ⟨⟨sh160,cm160_0,by kernel_rfl,gm160_0,fm160_0⟩⟩
end Go.AM.K
