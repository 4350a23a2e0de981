/- Printed by KGen. -/
import Derived.Test.YtehamglokkjipaaGreatQGAcX
import Derived.Test.YtehamglokkjipaaGreatKMa
namespace Go.AM.K
open Go.Proofs
set_option maxRecDepth 100000
set_option linter.unusedVariables false
noncomputable section
abbrev Pg:=Tryz.prog
abbrev nt45:Nat:=10
def sh45:SG:=[]
def r45_2:LA:=[oO 4 (.mv (.const (.complex Go.FloatKind.f64 0 0)))]
def r45_4:LA:=[oM 5 0,oO 6 (.pure (oB (.convert 3 117 (.tmp 5)) 117)),oM 7 1,oO 8 (.pure (oB (.convert 3 117 (.tmp 7)) 117)),oO 9 (.pure (oB (.call { callee:=.builtin .complex,args:=#[(.tmp 6),(.tmp 8)],argTypes:=#[117,117] }) 43)),oM 4 9]
def tr45:TG:=[tT 0 [0,1],tT 1 [4]]
def tl45:TG:=[]
def rs45:List AResV:=[.tmp 4]
def pr45_0_0:PT (List RV):=pRs [pR false [rD (dX .f64)]]
def ur45_0_0 {β:Type}(g:List RV->β):Nat->Nat->β:=pr45_0_0.unc g
def E45_0g:EnvK:=EnvK.of [] noSeq
def E45_0:EnvK:=E45_0g
theorem eo45_0:E45_0.Ok Pg:=EnvK.of_ok noSeq_ok trivial
abbrev Tf45_0:Type 1:=(α:Type)->Int->Int->(Nat->Nat->Op α)->Op α
def f45_0g (α:Type)(a b:Int)(k1:Nat->Nat->Op α):Op α:=
 k1 (FloatKind.nearest .f64 a) (FloatKind.nearest .f64 b)
def f45_0 (α:Type)(a b:Int)(k1:Nat->Nat->Op α):Op α:=f45_0g α a b k1
def pa45_0:PT (List DV):=pA [vI,vI]
def Fn45_0 (v:Tf45_0)(α:Type)(k:RT α):Int->Int->Op α:=fun a b=>v α a b (fun c d=>ur45_0_0 k c d)
def cm45_0g:MCode:=(.seq (.region r45_2 [] (tO [0,1])) (.seq (.region r45_4 [] (tO [4])) .ret))
def cm45_0:MCode:=cm45_0g
theorem gm45_0:cm45_0.Good Pg E45_0 sh45:=⟨trivial,trivial,trivial⟩
theorem fm45_0g (α:Type)(k:RT α):Fn45_0 (f45_0g ) α k=pa45_0.unc fun ds=>fnM Pg (E45_0g ) sh45 (cm45_0g ) rs45 k ds:=by kernel_rfl
theorem fm45_0:∀ (α:Type) (k:RT α),Fn45_0 f45_0 α k=pa45_0.unc fun ds=>fnM Pg E45_0 sh45 cm45_0 rs45 k ds:=fm45_0g
theorem is45:FnIs Pg 45 nt45 tr45 tl45 cm45_0.erase rs45:=⟨Tryz.f45,Tryz.func45,rfl,by kernel_rfl,by kernel_rfl,by kernel_rfl⟩
theorem io45_0:InstOk Pg 45 nt45 ⟨pa45_0,Fn45_0 f45_0⟩:=inst_ok eo45_0 followsTry is45 ⟨⟨sh45,cm45_0,by kernel_rfl,gm45_0,fm45_0⟩⟩
abbrev nt123:Nat:=16
def sh123:SG:=[(6,iT),(8,iT),(11,iT),(13,iT)]
def r123_2:LA:=[oO 2 (.box (.tmp 0)),oO 3 (.box (.tmp 1)),oO 4 (.alloc [(cI 0),(cI 0)])]
def r123_4:LA:=[fA 5 0 2,lD 6 5,fA 7 0 3,lD 8 7,bT 9 .sub 6 8,fA 10 1 2,lD 11 10,fA 12 1 3,lD 13 12,bT 14 .sub 11 13,oO 15 (.build [(cI 0),(cI 0)] [(0,1,(.tmp 9)),(1,1,(.tmp 14))]),sD 2 4 15]
def tr123:TG:=[tT 0 [2,3,4],tT 1 [4]]
def tl123:TG:=[]
def rs123:List AResV:=[.cell 4 true 2]
def pr123_0_0:PT (List RV):=pRs [pR true [rD (dI .i64),rD (dI .i64)]]
def ur123_0_0 {β:Type}(g:List RV->β):Int->Int->β:=pr123_0_0.unc g
def E123_0g:EnvK:=EnvK.of [] noSeq
def E123_0:EnvK:=E123_0g
theorem eo123_0:E123_0.Ok Pg:=EnvK.of_ok noSeq_ok trivial
abbrev Tf123_0:Type 1:=(α:Type)->Int->Int->Int->Int->(Int->Int->Op α)->Op α
def f123_0g (α:Type)(a b c d:Int)(k1:Int->Int->Op α):Op α:=
 k1 (w64 (a - c)) (w64 (b - d))
def f123_0 (α:Type)(a b c d:Int)(k1:Int->Int->Op α):Op α:=f123_0g α a b c d k1
def pa123_0:PT (List DV):=pA [pV true [(dI .i64),(dI .i64)],pV true [(dI .i64),(dI .i64)]]
def Fn123_0 (v:Tf123_0)(α:Type)(k:RT α):I4 (Op α):=fun a b c d=>v α a b c d (fun e g=>ur123_0_0 k e g)
def cm123_0g:MCode:=(.seq (.region r123_2 [] (tO [2,3,4])) (.seq (.region r123_4 [] (tO [4])) .ret))
def cm123_0:MCode:=cm123_0g
theorem gm123_0:cm123_0.Good Pg E123_0 sh123:=⟨trivial,trivial,trivial⟩
theorem fm123_0g (α:Type)(k:RT α):Fn123_0 (f123_0g ) α k=pa123_0.unc fun ds=>fnM Pg (E123_0g ) sh123 (cm123_0g ) rs123 k ds:=by kernel_rfl
theorem fm123_0:∀ (α:Type) (k:RT α),Fn123_0 f123_0 α k=pa123_0.unc fun ds=>fnM Pg E123_0 sh123 cm123_0 rs123 k ds:=fm123_0g
theorem is123:FnIs Pg 123 nt123 tr123 tl123 cm123_0.erase rs123:=⟨Tryz.f123,Tryz.func123,rfl,by kernel_rfl,by kernel_rfl,by kernel_rfl⟩
theorem io123_0:InstOk Pg 123 nt123 ⟨pa123_0,Fn123_0 f123_0⟩:=inst_ok eo123_0 followsTry is123 ⟨⟨sh123,cm123_0,by kernel_rfl,gm123_0,fm123_0⟩⟩
abbrev nt108:Nat:=18
def sh108:SG:=[(5,iT),(7,iT),(10,iT),(12,iT)]
def r108_2:LA:=[oO 1 (.box (.tmp 0)),mK 2 0]
def r108_4:LA:=[fA 4 0 1,lD 5 4,fA 6 1 1,lD 7 6,bT 8 .quo 5 7,oM 3 8]
def r108_7:LA:=[fA 9 0 1,lD 10 9,fA 11 1 1,lD 12 11,bT 13 .rem 10 12,bK 14 .lss 13 0]
def r108_9:LA:=[oM 15 3,bK 16 .sub 15 1,oM 3 16]
def r108_11:LA:=[oM 17 3,oM 2 17]
def tr108:TG:=[tT 0 [1],tT 1 [1,3],tT 2 [3,14],tT 3 [3],tT 4 [2]]
def tl108:TG:=[]
def rs108:List AResV:=[.tmp 2]
def pr108_0_0:PT (List RV):=pRs [wI]
def ur108_0_0 {β:Type}(g:List RV->β):Int->β:=pr108_0_0.unc g
def E108_0g:EnvK:=EnvK.of [] noSeq
def E108_0:EnvK:=E108_0g
theorem eo108_0:E108_0.Ok Pg:=EnvK.of_ok noSeq_ok trivial
abbrev Tf108_0:Type 1:=(α:Type)->Int->Int->(Int->Op α)->Op α
def f108_0g (α:Type)(b a:Int)(k1:Int->Op α):Op α:=
 gK (a != 0) (gK (a != 0) (cK (decide ((Int.tmod b a) < 0))
 (k1 (w64 ((w64 (Int.tdiv b a)) - 1)))
 (k1 (w64 (Int.tdiv b a)))))
def f108_0 (α:Type)(a b:Int)(k1:Int->Op α):Op α:=f108_0g α a b k1
def pa108_0:PT (List DV):=pA [pV true [(dI .i64),(dI .i64)]]
def Fn108_0 (v:Tf108_0)(α:Type)(k:RT α):Int->Int->Op α:=fun a b=>v α a b (fun c=>ur108_0_0 k c)
def cm108_0g:MCode:=(.seq (.region r108_2 [] (tO [1])) (.seq (.region r108_4 [] (tO [1,3])) (.seq (.seq (.region r108_7 [] (tO [3,14])) (.cond (.tmp 14) (.region r108_9 [] (tO [3])) .skip)) (.seq (.region r108_11 [] (tO [2])) .ret))))
def cm108_0:MCode:=cm108_0g
theorem gm108_0:cm108_0.Good Pg E108_0 sh108:=⟨trivial,trivial,⟨trivial,trivial,trivial⟩,trivial,trivial⟩
theorem fm108_0g (α:Type)(k:RT α):Fn108_0 (f108_0g ) α k=pa108_0.unc fun ds=>fnM Pg (E108_0g ) sh108 (cm108_0g ) rs108 k ds:=by kernel_rfl
theorem fm108_0:∀ (α:Type) (k:RT α),Fn108_0 f108_0 α k=pa108_0.unc fun ds=>fnM Pg E108_0 sh108 cm108_0 rs108 k ds:=fm108_0g
theorem is108:FnIs Pg 108 nt108 tr108 tl108 cm108_0.erase rs108:=⟨Tryz.f108,Tryz.func108,rfl,by kernel_rfl,by kernel_rfl,by kernel_rfl⟩
theorem io108_0:InstOk Pg 108 nt108 ⟨pa108_0,Fn108_0 f108_0⟩:=inst_ok eo108_0 followsTry is108 ⟨⟨sh108,cm108_0,by kernel_rfl,gm108_0,fm108_0⟩⟩
abbrev nt120:Nat:=4
def sh120:SG:=[]
def r120_2:LA:=[mK 2 0]
def r120_5:LA:=[oM 3 0]
def r120_8:LA:=[mK 2 1]
def r120_10:LA:=[mK 2 0]
def tr120:TG:=[tT 0 [0],tT 1 [3],tT 2 [2],tT 3 [2]]
def tl120:TG:=[]
def rs120:List AResV:=[.tmp 2]
def pr120_0_0:PT (List RV):=pRs [wI]
def ur120_0_0 {β:Type}(g:List RV->β):Int->β:=pr120_0_0.unc g
def E120_0g:EnvK:=EnvK.of [] noSeq
def E120_0:EnvK:=E120_0g
theorem eo120_0:E120_0.Ok Pg:=EnvK.of_ok noSeq_ok trivial
abbrev Tf120_0:Type 1:=(α:Type)->Bool->(Int->Op α)->Op α
def f120_0g (α:Type)(a:Bool)(k1:Int->Op α):Op α:=
 cK a
 (k1 1)
 (k1 0)
def f120_0 (α:Type)(a:Bool)(k1:Int->Op α):Op α:=f120_0g α a k1
def pa120_0:PT (List DV):=pA [pV false [dB]]
def Fn120_0 (v:Tf120_0)(α:Type)(k:RT α):Bool->Op α:=fun a=>v α a (fun b=>ur120_0_0 k b)
def cm120_0g:MCode:=(.seq (.region r120_2 [] (tO [0])) (.seq (.seq (.region r120_5 [] (tO [3])) (.cond (.tmp 3) (.seq (.region r120_8 [] (tO [2])) .ret) .skip)) (.seq (.region r120_10 [] (tO [2])) .ret)))
def cm120_0:MCode:=cm120_0g
theorem gm120_0:cm120_0.Good Pg E120_0 sh120:=⟨trivial,⟨trivial,⟨trivial,trivial⟩,trivial⟩,trivial,trivial⟩
theorem fm120_0g (α:Type)(k:RT α):Fn120_0 (f120_0g ) α k=pa120_0.unc fun ds=>fnM Pg (E120_0g ) sh120 (cm120_0g ) rs120 k ds:=by kernel_rfl
theorem fm120_0:∀ (α:Type) (k:RT α),Fn120_0 f120_0 α k=pa120_0.unc fun ds=>fnM Pg E120_0 sh120 cm120_0 rs120 k ds:=fm120_0g
theorem is120:FnIs Pg 120 nt120 tr120 tl120 cm120_0.erase rs120:=⟨Tryz.f120,Tryz.func120,rfl,by kernel_rfl,by kernel_rfl,by kernel_rfl⟩
theorem io120_0:InstOk Pg 120 nt120 ⟨pa120_0,Fn120_0 f120_0⟩:=inst_ok eo120_0 followsTry is120 ⟨⟨sh120,cm120_0,by kernel_rfl,gm120_0,fm120_0⟩⟩
abbrev nt116:Nat:=28
def sh116:SG:=[(6,iT),(8,iT),(11,iT),(13,iT),(17,iT),(19,iT),(22,iT),(24,iT)]
def r116_2:LA:=[oO 2 (.box (.tmp 0)),oO 3 (.box (.tmp 1)),oO 4 (.alloc [(cI 0),(cI 0)])]
def r116_4:LA:=[fA 5 0 2,lD 6 5,fA 7 0 3,lD 8 7,bT 9 .mul 6 8,fA 10 1 2,lD 11 10,fA 12 1 3,lD 13 12,bT 14 .mul 11 13,bT 15 .sub 9 14,fA 16 0 2,lD 17 16,fA 18 1 3,lD 19 18,bT 20 .mul 17 19,fA 21 1 2,lD 22 21,fA 23 0 3,lD 24 23,bT 25 .mul 22 24,bT 26 .add 20 25,oO 27 (.build [(cI 0),(cI 0)] [(0,1,(.tmp 15)),(1,1,(.tmp 26))]),sD 2 4 27]
def tr116:TG:=[tT 0 [2,3,4],tT 1 [4]]
def tl116:TG:=[]
def rs116:List AResV:=[.cell 4 true 2]
def pr116_0_0:PT (List RV):=pRs [pR true [rD (dI .i64),rD (dI .i64)]]
def ur116_0_0 {β:Type}(g:List RV->β):Int->Int->β:=pr116_0_0.unc g
def E116_0g:EnvK:=EnvK.of [] noSeq
def E116_0:EnvK:=E116_0g
theorem eo116_0:E116_0.Ok Pg:=EnvK.of_ok noSeq_ok trivial
abbrev Tf116_0:Type 1:=(α:Type)->Int->Int->Int->Int->(Int->Int->Op α)->Op α
def f116_0g (α:Type)(a b c d:Int)(k1:Int->Int->Op α):Op α:=
 k1 (w64 ((w64 (a*c)) - (w64 (b*d)))) (w64 ((w64 (a*d))+(w64 (b*c))))
def f116_0 (α:Type)(a b c d:Int)(k1:Int->Int->Op α):Op α:=f116_0g α a b c d k1
def pa116_0:PT (List DV):=pA [pV true [(dI .i64),(dI .i64)],pV true [(dI .i64),(dI .i64)]]
def Fn116_0 (v:Tf116_0)(α:Type)(k:RT α):I4 (Op α):=fun a b c d=>v α a b c d (fun e g=>ur116_0_0 k e g)
def cm116_0g:MCode:=(.seq (.region r116_2 [] (tO [2,3,4])) (.seq (.region r116_4 [] (tO [4])) .ret))
def cm116_0:MCode:=cm116_0g
theorem gm116_0:cm116_0.Good Pg E116_0 sh116:=⟨trivial,trivial,trivial⟩
theorem fm116_0g (α:Type)(k:RT α):Fn116_0 (f116_0g ) α k=pa116_0.unc fun ds=>fnM Pg (E116_0g ) sh116 (cm116_0g ) rs116 k ds:=by kernel_rfl
theorem fm116_0:∀ (α:Type) (k:RT α),Fn116_0 f116_0 α k=pa116_0.unc fun ds=>fnM Pg E116_0 sh116 cm116_0 rs116 k ds:=fm116_0g
theorem is116:FnIs Pg 116 nt116 tr116 tl116 cm116_0.erase rs116:=⟨Tryz.f116,Tryz.func116,rfl,by kernel_rfl,by kernel_rfl,by kernel_rfl⟩
theorem io116_0:InstOk Pg 116 nt116 ⟨pa116_0,Fn116_0 f116_0⟩:=inst_ok eo116_0 followsTry is116 ⟨⟨sh116,cm116_0,by kernel_rfl,gm116_0,fm116_0⟩⟩
abbrev nt12:Nat:=6
def sh12:SG:=[]
def r12_2:LA:=[oO 2 (.mv (.const (.slice none 0 0)))]
def r12_4:LA:=[oO 3 (.bslice 1 0 [(.v (.int .i64 0))] []),oM 4 0,oO 5 (.append 1 8 (.tmp 3) (.tmp 4)),oM 2 5]
def tr12:TG:=[tT 0 [0],(1,⟨[2],true,[⟨false,2,0,20002,1⟩],[]⟩)]
def tl12:TG:=[]
def rs12:List AResV:=[.tmp 2]
def pr12_0_0:PT (List RV):=pRs [pR false [rO 1]]
def ur12_0_0 {β:Type}(g:List RV->β):Rows->β:=pr12_0_0.unc g
def E12_0g:EnvK:=EnvK.of [] noSeq
def E12_0:EnvK:=E12_0g
theorem eo12_0:E12_0.Ok Pg:=EnvK.of_ok noSeq_ok trivial
abbrev Tf12_0:Type 1:=(α:Type)->Rows->(Rows->Op α)->Op α
def f12_0g (α:Type)(a:Rows)(k1:Rows->Op α):Op α:=
 gK (apOk 1 8 ([]:Rows) a) (k1 (([]:Rows)++a))
def f12_0 (α:Type)(a:Rows)(k1:Rows->Op α):Op α:=f12_0g α a k1
def pa12_0:PT (List DV):=pA [pV false [dL]]
def Fn12_0 (v:Tf12_0)(α:Type)(k:RT α):Rows->Op α:=fun a=>v α a (fun b=>ur12_0_0 k b)
def cm12_0g:MCode:=(.seq (.region r12_2 [] (tO [0])) (.seq (.region r12_4 [] (some ⟨[2],true,[⟨false,2,0,20002,1⟩],[]⟩)) .ret))
def cm12_0:MCode:=cm12_0g
theorem gm12_0:cm12_0.Good Pg E12_0 sh12:=⟨trivial,trivial,trivial⟩
theorem fm12_0g (α:Type)(k:RT α):Fn12_0 (f12_0g ) α k=pa12_0.unc fun ds=>fnM Pg (E12_0g ) sh12 (cm12_0g ) rs12 k ds:=by kernel_rfl
theorem fm12_0:∀ (α:Type) (k:RT α),Fn12_0 f12_0 α k=pa12_0.unc fun ds=>fnM Pg E12_0 sh12 cm12_0 rs12 k ds:=fm12_0g
theorem is12:FnIs Pg 12 nt12 tr12 tl12 cm12_0.erase rs12:=⟨Tryz.f12,Tryz.func12,rfl,by kernel_rfl,by kernel_rfl,by kernel_rfl⟩
theorem io12_0:InstOk Pg 12 nt12 ⟨pa12_0,Fn12_0 f12_0⟩:=inst_ok eo12_0 followsTry is12 ⟨⟨sh12,cm12_0,by kernel_rfl,gm12_0,fm12_0⟩⟩
abbrev nt43:Nat:=7
def sh43:SG:=[]
def r43_2:LA:=[mK 2 0]
def r43_4:LA:=[oM 3 0,oM 4 0,oO 5 (.pure (oB (.unOp .neg 3 (.tmp 4)) 3)),oO 6 (.pure (oB (.call { callee:=.builtin .max,args:=#[(.tmp 3),(.tmp 5)],argTypes:=#[3,3] }) 3)),oM 2 6]
def tr43:TG:=[tT 0 [0],tT 1 [2]]
def tl43:TG:=[]
def rs43:List AResV:=[.tmp 2]
def pr43_0_0:PT (List RV):=pRs [wI]
def ur43_0_0 {β:Type}(g:List RV->β):Int->β:=pr43_0_0.unc g
def E43_0g:EnvK:=EnvK.of [] noSeq
def E43_0:EnvK:=E43_0g
theorem eo43_0:E43_0.Ok Pg:=EnvK.of_ok noSeq_ok trivial
abbrev Tf43_0:Type 1:=(α:Type)->Int->(Int->Op α)->Op α
def f43_0g (α:Type)(a:Int)(k1:Int->Op α):Op α:=
 k1 (if (w64 (0 - a)) > a then (w64 (0 - a)) else a)
def f43_0 (α:Type)(a:Int)(k1:Int->Op α):Op α:=f43_0g α a k1
def pa43_0:PT (List DV):=pA [vI]
def Fn43_0 (v:Tf43_0)(α:Type)(k:RT α):Int->Op α:=fun a=>v α a (fun b=>ur43_0_0 k b)
def cm43_0g:MCode:=(.seq (.region r43_2 [] (tO [0])) (.seq (.region r43_4 [] (tO [2])) .ret))
def cm43_0:MCode:=cm43_0g
theorem gm43_0:cm43_0.Good Pg E43_0 sh43:=⟨trivial,trivial,trivial⟩
theorem fm43_0g (α:Type)(k:RT α):Fn43_0 (f43_0g ) α k=pa43_0.unc fun ds=>fnM Pg (E43_0g ) sh43 (cm43_0g ) rs43 k ds:=by kernel_rfl
theorem fm43_0:∀ (α:Type) (k:RT α),Fn43_0 f43_0 α k=pa43_0.unc fun ds=>fnM Pg E43_0 sh43 cm43_0 rs43 k ds:=fm43_0g
theorem is43:FnIs Pg 43 nt43 tr43 tl43 cm43_0.erase rs43:=⟨Tryz.f43,Tryz.func43,rfl,by kernel_rfl,by kernel_rfl,by kernel_rfl⟩
theorem io43_0:InstOk Pg 43 nt43 ⟨pa43_0,Fn43_0 f43_0⟩:=inst_ok eo43_0 followsTry is43 ⟨⟨sh43,cm43_0,by kernel_rfl,gm43_0,fm43_0⟩⟩
abbrev nt57:Nat:=15
def sh57:SG:=[]
def r57_2:LA:=[oO 6 (.mv (.const (.bool false)))]
def r57_4:LA:=[oM 7 1,oM 8 0,bT 9 .leq 7 8,oM 10 9,oG 11 (.mv (.tmp 0)) 10 true,oG 12 (.mv (.tmp 2)) 10 true,oG 13 (.bin .leq 3 (.tmp 11) (.tmp 12)) 10 true,oO 14 (.pick (.tmp 10) (.tmp 13) (.const (.bool false))),oM 6 14]
def tr57:TG:=[tT 0 [0,1,2],tT 1 [6]]
def tl57:TG:=[]
def rs57:List AResV:=[.tmp 6]
def pr57_0_0:PT (List RV):=pRs [pR false [rD dB]]
def ur57_0_0 {β:Type}(g:List RV->β):Bool->β:=pr57_0_0.unc g
def E57_0g:EnvK:=EnvK.of [] noSeq
def E57_0:EnvK:=E57_0g
theorem eo57_0:E57_0.Ok Pg:=EnvK.of_ok noSeq_ok trivial
abbrev Tf57_0:Type 1:=(α:Type)->Int->Int->Int->(Bool->Op α)->Op α
def f57_0g (α:Type)(a b c:Int)(k1:Bool->Op α):Op α:=
 cK (decide (b<=a))
 (k1 (decide (a<=c)))
 (k1 false)
def f57_0 (α:Type)(a b c:Int)(k1:Bool->Op α):Op α:=f57_0g α a b c k1
def pa57_0:PT (List DV):=pA [vI,vI,vI]
def Fn57_0 (v:Tf57_0)(α:Type)(k:RT α):Int->Int->Int->Op α:=fun a b c=>v α a b c (fun d=>ur57_0_0 k d)
def cm57_0g:MCode:=(.seq (.region r57_2 [] (tO [0,1,2])) (.seq (.region r57_4 [] (tO [6])) .ret))
def cm57_0:MCode:=cm57_0g
theorem gm57_0:cm57_0.Good Pg E57_0 sh57:=⟨trivial,trivial,trivial⟩
theorem fm57_0g (α:Type)(k:RT α):Fn57_0 (f57_0g ) α k=pa57_0.unc fun ds=>fnM Pg (E57_0g ) sh57 (cm57_0g ) rs57 k ds:=by kernel_rfl
theorem fm57_0:∀ (α:Type) (k:RT α),Fn57_0 f57_0 α k=pa57_0.unc fun ds=>fnM Pg E57_0 sh57 cm57_0 rs57 k ds:=fm57_0g
theorem is57:FnIs Pg 57 nt57 tr57 tl57 cm57_0.erase rs57:=⟨Tryz.f57,Tryz.func57,rfl,by kernel_rfl,by kernel_rfl,by kernel_rfl⟩
theorem io57_0:InstOk Pg 57 nt57 ⟨pa57_0,Fn57_0 f57_0⟩:=inst_ok eo57_0 followsTry is57 ⟨⟨sh57,cm57_0,by kernel_rfl,gm57_0,fm57_0⟩⟩
abbrev nt56:Nat:=11
def sh56:SG:=[]
def r56_2:LA:=[oO 2 (.mv (.const (.bool false)))]
def r56_5:LA:=[mK 3 2]
def td56_7:OT:=(tO [0,3])
def r56_10:LA:=[oM 4 3,bK 5 .leq 4 32]
def r56_15:LA:=[oM 8 0,oM 9 3,bT 10 .eql 8 9]
def r56_18:LA:=[oO 2 (.mv (.const (.bool true)))]
def r56_19:LA:=[oM 6 3,oO 7 (.bin .mul 3 (kI 2) (.tmp 6)),oM 3 7]
def r56_21:LA:=[oO 2 (.mv (.const (.bool false)))]
def tr56:TG:=[tT 0 [0],tT 1 [0,3],tT 2 [0,3,5],tT 4 [0,3,10],tT 5 [2],tT 3 [0,3],tT 6 [2]]
def tl56:TG:=[tT 2 [0,3]]
def rs56:List AResV:=[.tmp 2]
def p56_0_0:PT St:=pS [sI 0,sI 3] []
def u56_0_0 {β:Type}(g:St->β):Int->Int->β:=p56_0_0.unc g
def p56_0_1:PT St:=pS [sl 2 (aV false [(cD dB)])] []
def u56_0_1 {β:Type}(g:St->β):Bool->β:=p56_0_1.unc g
def p56_0_2:PT St:=pS [sI 0,sI 3,sl 5 (aV false [(cD dB)])] []
def u56_0_2 {β:Type}(g:St->β):Int->Int->Bool->β:=p56_0_2.unc g
def pr56_0_0:PT (List RV):=pRs [pR false [rD dB]]
def ur56_0_0 {β:Type}(g:List RV->β):Bool->β:=pr56_0_0.unc g
def E56_0g:EnvK:=EnvK.of [] noSeq
def E56_0:EnvK:=E56_0g
theorem eo56_0:E56_0.Ok Pg:=EnvK.of_ok noSeq_ok trivial
def c56_0_7g:MCode:=(.seq (.seq (.region r56_10 [] (tO [0,3,5])) (.cond (.tmp 5) .skip (.exit 0))) (.seq (.block 1 (.seq (.region r56_15 [] (tO [0,3,10])) (.cond (.tmp 10) (.seq (.region r56_18 [] (tO [2])) .ret) .skip))) (.region r56_19 [] (tO [0,3]))))
def c56_0_7:MCode:=c56_0_7g
theorem g56_0_7:c56_0_7.Good Pg E56_0 sh56:=⟨⟨trivial,trivial,trivial⟩,⟨trivial,⟨trivial,trivial⟩,trivial⟩,trivial⟩
def S56_0_0g (α:Type)(b a:Int)(kn:Int->Op α)(k1:Op α)(k2:Int->Bool->Op α):Op α:=
 cK (decide (a<=32))
 (cK (b == a)
 (k1)
 (kn (w64 (2*a))))
 (k2 a (decide (a<=32)))
def S56_0_0 (α:Type)(a b:Int)(kn:Int->Op α)(k1:Op α)(k2:Int->Bool->Op α):Op α:=S56_0_0g α a b kn k1 k2
def R56_0_0 (α:Type)(a:Int)(k1:Op α)(k2:Int->Bool->Op α):Nat->Int->Op α
 | 0,_=>none
 | n+1,b=>S56_0_0 α a b (R56_0_0 α a k1 k2 n) k1 k2
def L56_0_0 (α:Type)(a:Int)(k1:Op α)(k2:Int->Bool->Op α)(b:Int):Op α:=R56_0_0 α a k1 k2 fuel b
abbrev TL56_0_0:Type 1:=(α:Type)->Int->(Op α)->(Int->Bool->Op α)->Int->Op α
def F56_0_0 (v:TL56_0_0)(α:Type)(K:KT α):Int->Int->Op α:=fun a b=>v α a (u56_0_1 (K .ret) true) (fun c d=>u56_0_2 (K (.exit 0)) a c d) b
theorem r56_0_0g (α:Type)(K:KT α)(Kn:SK α)(a b:Int):u56_0_0 (fun σ=>runM Pg (E56_0g ) sh56 (c56_0_7g ) (thenK (fun σ=>tidyK td56_7 σ Kn) K) σ) a b=S56_0_0g α a b (fun b=>u56_0_0 Kn a b) (u56_0_1 (K .ret) true) (fun c d=>u56_0_2 (K (.exit 0)) a c d):=by kernel_rfl
theorem r56_0_0 (α:Type)(K:KT α)(Kn:SK α)(a b:Int):u56_0_0 (fun σ=>runM Pg E56_0 sh56 c56_0_7 (thenK (fun σ=>tidyK td56_7 σ Kn) K) σ) a b=S56_0_0 α a b (fun b=>u56_0_0 Kn a b) (u56_0_1 (K .ret) true) (fun c d=>u56_0_2 (K (.exit 0)) a c d):=r56_0_0g α K Kn a b
theorem t56_0_0 (α:Type)(K:KT α):∀ (n:Nat) (a b:Int),R56_0_0 α a (u56_0_1 (K .ret) true) (fun c d=>u56_0_2 (K (.exit 0)) a c d) n b=u56_0_0 (loopT (runM Pg E56_0 sh56 c56_0_7) td56_7 K n) a b:=by
 intro n
 induction n with
 | zero=>intros;rfl
 | succ n ih=>intro a b;exact (congrArg (fun kn=>S56_0_0 α a b kn (u56_0_1 (K .ret) true) (fun c d=>u56_0_2 (K (.exit 0)) a c d)) (funext fun b=>ih a b)).trans (r56_0_0 α K (loopT (runM Pg E56_0 sh56 c56_0_7) td56_7 K n) a b).symm
theorem m56_0_0:∀ (α:Type) (K:KT α),F56_0_0 L56_0_0 α K=p56_0_0.unc fun σ=>loopT (runM Pg E56_0 sh56 c56_0_7) td56_7 K fuel σ:=fun α K=>funext fun a=>funext fun b=>t56_0_0 α K fuel a b
abbrev Tf56_0:Type 1:=(α:Type)->Int->(Bool->Op α)->Op α
def f56_0g (a:TL56_0_0)(α:Type)(b:Int)(k1:Bool->Op α):Op α:=
 a α b
 (k1 true)
 (fun c d=>k1 false) 2
def f56_0 (α:Type)(a:Int)(k1:Bool->Op α):Op α:=f56_0g L56_0_0 α a k1
def pa56_0:PT (List DV):=pA [vI]
def Fn56_0 (v:Tf56_0)(α:Type)(k:RT α):Int->Op α:=fun a=>v α a (fun b=>ur56_0_0 k b)
def cm56_0g (a:TL56_0_0):MCode:=(.seq (.region r56_2 [] (tO [0])) (.seq (.seq (.region r56_5 [] (tO [0,3])) (.block 0 (.loop td56_7 [⟨p56_0_0,F56_0_0 a⟩] c56_0_7))) (.seq (.region r56_21 [] (tO [2])) .ret)))
def cm56_0:MCode:=cm56_0g L56_0_0
theorem gm56_0:cm56_0.Good Pg E56_0 sh56:=⟨trivial,⟨trivial,g56_0_7,m56_0_0,trivial⟩,trivial,trivial⟩
theorem fm56_0g (a:TL56_0_0)(α:Type)(k:RT α):Fn56_0 (f56_0g a) α k=pa56_0.unc fun ds=>fnM Pg (E56_0g ) sh56 (cm56_0g a) rs56 k ds:=by kernel_rfl
theorem fm56_0:∀ (α:Type) (k:RT α),Fn56_0 f56_0 α k=pa56_0.unc fun ds=>fnM Pg E56_0 sh56 cm56_0 rs56 k ds:=fm56_0g L56_0_0
theorem is56:FnIs Pg 56 nt56 tr56 tl56 cm56_0.erase rs56:=⟨Tryz.f56,Tryz.func56,rfl,by kernel_rfl,by kernel_rfl,by kernel_rfl⟩
theorem io56_0:InstOk Pg 56 nt56 ⟨pa56_0,Fn56_0 f56_0⟩:=inst_ok eo56_0 followsTry is56 ⟨⟨sh56,cm56_0,by kernel_rfl,gm56_0,fm56_0⟩⟩
abbrev nt130:Nat:=10
def sh130:SG:=[]
def r130_2:LA:=[oO 2 (.alloc [(cI 0),(cI 0)])]
def r130_4:LA:=[oM 3 0,oO 4 (.pure (oB (.call { callee:=.builtin .real,args:=#[(.tmp 3)],argTypes:=#[43] }) 117)),oO 5 (.pure (oB (.convert 117 3 (.tmp 4)) 3)),oM 6 0,oO 7 (.pure (oB (.call { callee:=.builtin .imag,args:=#[(.tmp 6)],argTypes:=#[43] }) 117)),oO 8 (.pure (oB (.convert 117 3 (.tmp 7)) 3)),oO 9 (.build [(cI 0),(cI 0)] [(0,1,(.tmp 5)),(1,1,(.tmp 8))]),sD 2 2 9]
def tr130:TG:=[tT 0 [0,2],tT 1 [2]]
def tl130:TG:=[]
def rs130:List AResV:=[.cell 2 true 2]
def pr130_0_0:PT (List RV):=pRs [pR true [rD (dI .i64),rD (dI .i64)]]
def ur130_0_0 {β:Type}(g:List RV->β):Int->Int->β:=pr130_0_0.unc g
def E130_0g:EnvK:=EnvK.of [] noSeq
def E130_0:EnvK:=E130_0g
theorem eo130_0:E130_0.Ok Pg:=EnvK.of_ok noSeq_ok trivial
abbrev Tf130_0:Type 1:=(α:Type)->Nat->Nat->(Int->Int->Op α)->Op α
def f130_0g (α:Type)(a b:Nat)(k1:Int->Int->Op α):Op α:=
 ivK (f2i .f64 a .i64)
 (fun c=>ivK (f2i .f64 b .i64)
 (fun d=>k1 c d))
def f130_0 (α:Type)(a b:Nat)(k1:Int->Int->Op α):Op α:=f130_0g α a b k1
def pa130_0:PT (List DV):=pA [pV false [(dX .f64)]]
def Fn130_0 (v:Tf130_0)(α:Type)(k:RT α):Nat->Nat->Op α:=fun a b=>v α a b (fun c d=>ur130_0_0 k c d)
def cm130_0g:MCode:=(.seq (.region r130_2 [] (tO [0,2])) (.seq (.region r130_4 [] (tO [2])) .ret))
def cm130_0:MCode:=cm130_0g
theorem gm130_0:cm130_0.Good Pg E130_0 sh130:=⟨trivial,trivial,trivial⟩
theorem fm130_0g (α:Type)(k:RT α):Fn130_0 (f130_0g ) α k=pa130_0.unc fun ds=>fnM Pg (E130_0g ) sh130 (cm130_0g ) rs130 k ds:=by kernel_rfl
theorem fm130_0:∀ (α:Type) (k:RT α),Fn130_0 f130_0 α k=pa130_0.unc fun ds=>fnM Pg E130_0 sh130 cm130_0 rs130 k ds:=fm130_0g
theorem is130:FnIs Pg 130 nt130 tr130 tl130 cm130_0.erase rs130:=⟨Tryz.f130,Tryz.func130,rfl,by kernel_rfl,by kernel_rfl,by kernel_rfl⟩
theorem io130_0:InstOk Pg 130 nt130 ⟨pa130_0,Fn130_0 f130_0⟩:=inst_ok eo130_0 followsTry is130 ⟨⟨sh130,cm130_0,by kernel_rfl,gm130_0,fm130_0⟩⟩
abbrev nt129:Nat:=7
def sh129:SG:=[]
def r129_2:LA:=[oO 2 (.mv (.const (.float Go.FloatKind.f64 0)))]
def r129_4:LA:=[oM 3 0,oO 4 (.pure (oB (.call { callee:=.value (.func 110),args:=#[(.tmp 3)],argTypes:=#[117] }) 164)),oO 5 (.bin .andNot 164 (.tmp 4) (.const (.int .u64 9223372036854775808))),oO 6 (.pure (oB (.call { callee:=.value (.func 152),args:=#[(.tmp 5)],argTypes:=#[164] }) 117)),oM 2 6]
def tr129:TG:=[tT 0 [0],tT 1 [2]]
def tl129:TG:=[]
def rs129:List AResV:=[.tmp 2]
def pr129_0_0:PT (List RV):=pRs [pR false [rD (dF .f64)]]
def ur129_0_0 {β:Type}(g:List RV->β):Nat->β:=pr129_0_0.unc g
def E129_0g:EnvK:=EnvK.of [] noSeq
def E129_0:EnvK:=E129_0g
theorem eo129_0:E129_0.Ok Pg:=EnvK.of_ok noSeq_ok trivial
abbrev Tf129_0:Type 1:=(α:Type)->Nat->(Nat->Op α)->Op α
def f129_0g (α:Type)(a:Nat)(k1:Nat->Op α):Op α:=
 k1 (Int.toNat (iAndNot .u64 ((a:Nat):Int) 9223372036854775808))
def f129_0 (α:Type)(a:Nat)(k1:Nat->Op α):Op α:=f129_0g α a k1
def pa129_0:PT (List DV):=pA [pV false [(dF .f64)]]
def Fn129_0 (v:Tf129_0)(α:Type)(k:RT α):Nat->Op α:=fun a=>v α a (fun b=>ur129_0_0 k b)
def cm129_0g:MCode:=(.seq (.region r129_2 [] (tO [0])) (.seq (.region r129_4 [] (tO [2])) .ret))
def cm129_0:MCode:=cm129_0g
theorem gm129_0:cm129_0.Good Pg E129_0 sh129:=⟨trivial,trivial,trivial⟩
theorem fm129_0g (α:Type)(k:RT α):Fn129_0 (f129_0g ) α k=pa129_0.unc fun ds=>fnM Pg (E129_0g ) sh129 (cm129_0g ) rs129 k ds:=by kernel_rfl
theorem fm129_0:∀ (α:Type) (k:RT α),Fn129_0 f129_0 α k=pa129_0.unc fun ds=>fnM Pg E129_0 sh129 cm129_0 rs129 k ds:=fm129_0g
theorem is129:FnIs Pg 129 nt129 tr129 tl129 cm129_0.erase rs129:=⟨Tryz.f129,Tryz.func129,rfl,by kernel_rfl,by kernel_rfl,by kernel_rfl⟩
theorem io129_0:InstOk Pg 129 nt129 ⟨pa129_0,Fn129_0 f129_0⟩:=inst_ok eo129_0 followsTry is129 ⟨⟨sh129,cm129_0,by kernel_rfl,gm129_0,fm129_0⟩⟩
abbrev nt150:Nat:=7
def sh150:SG:=[]
def r150_2:LA:=[oO 2 (.mv (.const (.float Go.FloatKind.f64 0)))]
def r150_6:LA:=[oM 3 0,oO 4 (.pure (oB (.call { callee:=.value (.func 162),args:=#[(.tmp 3)],argTypes:=#[117] }) 117)),oM 2 4]
def r150_8:LA:=[oM 5 0,oO 6 (.call 163 [.tmp 5]),oM 2 6]
def tr150:TG:=[tT 0 [0],tT 1 [2],tT 2 [2]]
def tl150:TG:=[]
def rs150:List AResV:=[.tmp 2]
def pr150_0_0:PT (List RV):=pRs [pR false [rD (dNan .f64)]]
def ur150_0_0 {β:Type}(g:List RV->β):β:=pr150_0_0.unc g
def pr150_0_1:PT (List RV):=pRs [pR false [rD (dF .f64)]]
def ur150_0_1 {β:Type}(g:List RV->β):Nat->β:=pr150_0_1.unc g
def E150_0g:EnvK:=EnvK.of [] noSeq
def E150_0:EnvK:=E150_0g
theorem eo150_0:E150_0.Ok Pg:=EnvK.of_ok noSeq_ok trivial
abbrev Tf150_0:Type 1:=(α:Type)->Nat->(Op α)->(Nat->Op α)->Op α
def f150_0g (α:Type)(a:Nat)(k1:Op α)(k2:Nat->Op α):Op α:=
 cK (isNaNb .f64 a)
 (k1)
 (k2 (truncF a))
def f150_0 (α:Type)(a:Nat)(k1:Op α)(k2:Nat->Op α):Op α:=f150_0g α a k1 k2
def pa150_0:PT (List DV):=pA [pV false [(dF .f64)]]
def Fn150_0 (v:Tf150_0)(α:Type)(k:RT α):Nat->Op α:=fun a=>v α a (ur150_0_0 k ) (fun b=>ur150_0_1 k b)
def cm150_0g:MCode:=(.seq (.region r150_2 [] (tO [0])) (.seq (.cond (.const (.bool true)) (.seq (.region r150_6 [] (tO [2])) .ret) .skip) (.seq (.region r150_8 [] (tO [2])) .ret)))
def cm150_0:MCode:=cm150_0g
theorem gm150_0:cm150_0.Good Pg E150_0 sh150:=⟨trivial,⟨⟨trivial,trivial⟩,trivial⟩,trivial,trivial⟩
theorem fm150_0g (α:Type)(k:RT α):Fn150_0 (f150_0g ) α k=pa150_0.unc fun ds=>fnM Pg (E150_0g ) sh150 (cm150_0g ) rs150 k ds:=by kernel_rfl
theorem fm150_0:∀ (α:Type) (k:RT α),Fn150_0 f150_0 α k=pa150_0.unc fun ds=>fnM Pg E150_0 sh150 cm150_0 rs150 k ds:=fm150_0g
theorem is150:FnIs Pg 150 nt150 tr150 tl150 cm150_0.erase rs150:=⟨Tryz.f150,Tryz.func150,rfl,by kernel_rfl,by kernel_rfl,by kernel_rfl⟩
theorem io150_0:InstOk Pg 150 nt150 ⟨pa150_0,Fn150_0 f150_0⟩:=inst_ok eo150_0 followsTry is150 ⟨⟨sh150,cm150_0,by kernel_rfl,gm150_0,fm150_0⟩⟩
abbrev nt54:Nat:=27
def sh54:SG:=[(7,[.cpx .f64]),(20,iT)]
def r54_2:LA:=[oO 2 (.box (.tmp 0)),oO 4 (.alloc [(.d (.v (.complex Go.FloatKind.f64 0 0))),(cI 0)])]
def r54_4:LA:=[fA 6 0 2,lD 7 6,oM 8 1,oO 9 (.pure (oB (.convert 3 117 (.tmp 8)) 117)),oO 10 (.pure (oB (.call { callee:=.builtin .complex,args:=#[(.tmp 9),(.const (.float Go.FloatKind.f64 0))],argTypes:=#[117,117] }) 43)),oO 11 (.bin .mul 43 (.tmp 7) (.tmp 10)),oM 5 11]
def r54_6:LA:=[oM 12 5,oO 13 (.pure (oB (.call { callee:=.builtin .real,args:=#[(.tmp 12)],argTypes:=#[43] }) 117)),oO 14 (.bin .add 117 (.tmp 13) (.const (.float Go.FloatKind.f64 0))),oM 15 5,oO 16 (.pure (oB (.call { callee:=.builtin .imag,args:=#[(.tmp 15)],argTypes:=#[43] }) 117)),oO 17 (.bin .add 117 (.tmp 16) (.const (.float Go.FloatKind.f64 0))),oO 18 (.pure (oB (.call { callee:=.builtin .complex,args:=#[(.tmp 14),(.tmp 17)],argTypes:=#[117,117] }) 43)),fA 19 1 2,lD 20 19,oM 21 1,oM 22 1,oO 23 (.pure (oB (.unOp .neg 3 (.tmp 22)) 3)),oO 24 (.pure (oB (.call { callee:=.builtin .max,args:=#[(.tmp 21),(.tmp 23)],argTypes:=#[3,3] }) 3)),bT 25 .mul 20 24,oO 26 (.build [(.d (.v (.complex Go.FloatKind.f64 0 0))),(cI 0)] [(0,1,(.tmp 18)),(1,1,(.tmp 25))]),sD 2 4 26]
def tr54:TG:=[tT 0 [1,2,4],tT 1 [1,2,4,5],tT 2 [4]]
def tl54:TG:=[]
def rs54:List AResV:=[.cell 4 true 2]
def pr54_0_0:PT (List RV):=pRs [pR true [rD (dX .f64),rD (dI .i64)]]
def ur54_0_0 {β:Type}(g:List RV->β):Nat->Nat->Int->β:=pr54_0_0.unc g
def E54_0g:EnvK:=EnvK.of [] noSeq
def E54_0:EnvK:=E54_0g
theorem eo54_0:E54_0.Ok Pg:=EnvK.of_ok noSeq_ok trivial
abbrev Tf54_0:Type 1:=(α:Type)->Nat->Nat->Int->Int->(Nat->Nat->Int->Op α)->Op α
def f54_0g (α:Type)(b c:Nat)(e a:Int)(k1:Nat->Nat->Int->Op α):Op α:=
 flK ((FloatKind.format .f64).mul b (FloatKind.nearest .f64 a))
 (fun g=>flK ((FloatKind.format .f64).mul c 0)
 (fun h=>flK ((FloatKind.format .f64).sub g h)
 (fun i=>flK ((FloatKind.format .f64).mul b 0)
 (fun j=>flK ((FloatKind.format .f64).mul c (FloatKind.nearest .f64 a))
 (fun l=>flK ((FloatKind.format .f64).add j l)
 (fun d=>flN ((FloatKind.format .f64).add i 0)
 (fun m=>flN ((FloatKind.format .f64).add d 0)
 (fun o=>k1 m o (w64 (e*(if (w64 (0 - a)) > a then (w64 (0 - a)) else a))))
 (none))
 (flN ((FloatKind.format .f64).add d 0)
 (fun p=>none)
 (none))))))))
def f54_0 (α:Type)(a b:Nat)(c d:Int)(k1:Nat->Nat->Int->Op α):Op α:=f54_0g α a b c d k1
def pa54_0:PT (List DV):=pA [pV true [(dX .f64),(dI .i64)],vI]
def Fn54_0 (v:Tf54_0)(α:Type)(k:RT α):Nat->Nat->Int->Int->Op α:=fun a b c d=>v α a b c d (fun e g h=>ur54_0_0 k e g h)
def cm54_0g:MCode:=(.seq (.region r54_2 [] (tO [1,2,4])) (.seq (.region r54_4 [] (tO [1,2,4,5])) (.seq (.region r54_6 [] (tO [4])) .ret)))
def cm54_0:MCode:=cm54_0g
theorem gm54_0:cm54_0.Good Pg E54_0 sh54:=⟨trivial,trivial,trivial,trivial⟩
theorem fm54_0g (α:Type)(k:RT α):Fn54_0 (f54_0g ) α k=pa54_0.unc fun ds=>fnM Pg (E54_0g ) sh54 (cm54_0g ) rs54 k ds:=by kernel_rfl
theorem fm54_0:∀ (α:Type) (k:RT α),Fn54_0 f54_0 α k=pa54_0.unc fun ds=>fnM Pg E54_0 sh54 cm54_0 rs54 k ds:=fm54_0g
theorem is54:FnIs Pg 54 nt54 tr54 tl54 cm54_0.erase rs54:=⟨Tryz.f54,Tryz.func54,rfl,by kernel_rfl,by kernel_rfl,by kernel_rfl⟩
theorem io54_0:InstOk Pg 54 nt54 ⟨pa54_0,Fn54_0 f54_0⟩:=inst_ok eo54_0 followsTry is54 ⟨⟨sh54,cm54_0,by kernel_rfl,gm54_0,fm54_0⟩⟩
abbrev nt166:Nat:=10
def sh166:SG:=[(4,iT),(7,iT)]
def r166_2:LA:=[oO 1 (.box (.tmp 0)),oO 2 (.mv (.const (.complex Go.FloatKind.f64 0 0)))]
def r166_4:LA:=[fA 3 0 1,lD 4 3,oO 5 (.pure (oB (.convert 3 117 (.tmp 4)) 117)),fA 6 1 1,lD 7 6,oO 8 (.pure (oB (.convert 3 117 (.tmp 7)) 117)),oO 9 (.pure (oB (.call { callee:=.builtin .complex,args:=#[(.tmp 5),(.tmp 8)],argTypes:=#[117,117] }) 43)),oM 2 9]
def tr166:TG:=[tT 0 [1],tT 1 [2]]
def tl166:TG:=[]
def rs166:List AResV:=[.tmp 2]
def pr166_0_0:PT (List RV):=pRs [pR false [rD (dX .f64)]]
def ur166_0_0 {β:Type}(g:List RV->β):Nat->Nat->β:=pr166_0_0.unc g
def E166_0g:EnvK:=EnvK.of [] noSeq
def E166_0:EnvK:=E166_0g
theorem eo166_0:E166_0.Ok Pg:=EnvK.of_ok noSeq_ok trivial
abbrev Tf166_0:Type 1:=(α:Type)->Int->Int->(Nat->Nat->Op α)->Op α
def f166_0g (α:Type)(a b:Int)(k1:Nat->Nat->Op α):Op α:=
 k1 (FloatKind.nearest .f64 a) (FloatKind.nearest .f64 b)
def f166_0 (α:Type)(a b:Int)(k1:Nat->Nat->Op α):Op α:=f166_0g α a b k1
def pa166_0:PT (List DV):=pA [pV true [(dI .i64),(dI .i64)]]
def Fn166_0 (v:Tf166_0)(α:Type)(k:RT α):Int->Int->Op α:=fun a b=>v α a b (fun c d=>ur166_0_0 k c d)
def cm166_0g:MCode:=(.seq (.region r166_2 [] (tO [1])) (.seq (.region r166_4 [] (tO [2])) .ret))
def cm166_0:MCode:=cm166_0g
theorem gm166_0:cm166_0.Good Pg E166_0 sh166:=⟨trivial,trivial,trivial⟩
theorem fm166_0g (α:Type)(k:RT α):Fn166_0 (f166_0g ) α k=pa166_0.unc fun ds=>fnM Pg (E166_0g ) sh166 (cm166_0g ) rs166 k ds:=by kernel_rfl
theorem fm166_0:∀ (α:Type) (k:RT α),Fn166_0 f166_0 α k=pa166_0.unc fun ds=>fnM Pg E166_0 sh166 cm166_0 rs166 k ds:=fm166_0g
theorem is166:FnIs Pg 166 nt166 tr166 tl166 cm166_0.erase rs166:=⟨Tryz.f166,Tryz.func166,rfl,by kernel_rfl,by kernel_rfl,by kernel_rfl⟩
theorem io166_0:InstOk Pg 166 nt166 ⟨pa166_0,Fn166_0 f166_0⟩:=inst_ok eo166_0 followsTry is166 ⟨⟨sh166,cm166_0,by kernel_rfl,gm166_0,fm166_0⟩⟩
abbrev nt164:Nat:=16
def sh164:SG:=[(9,iT),(12,iT),(15,iS 2)]
def r164_2:LA:=[oO 2 (.box (.tmp 0)),oO 4 (.alloc [(cI 0),(cI 0)])]
def r164_5:LA:=[oM 5 1,mK 6 0]
def td164_7:OT:=(tO [2,4,5,6])
def r164_9:LA:=[bT 7 .lss 6 5]
def r164_14:LA:=[fA 8 1 2,lD 9 8,oO 10 (.pure (oB (.unOp .neg 3 (.tmp 9)) 3)),fA 11 0 2,lD 12 11,oO 13 (.build [(cI 0),(cI 0)] [(0,1,(.tmp 10)),(1,1,(.tmp 12))]),sD 2 2 13]
def r164_15:LA:=[bK 14 .add 6 1,oM 6 14]
def r164_17:LA:=[lA 15 2 2,sD 2 4 15]
def tr164:TG:=[tT 0 [1,2,4],tT 1 [2,4,5,6],tT 2 [2,4,5,6,7],tT 3 [2,4,5,6],tT 4 [2,4,5,6],tT 5 [4]]
def tl164:TG:=[tT 2 [2,4,5,6]]
def rs164:List AResV:=[.cell 4 true 2]
def p164_0_0:PT St:=pS [sP 2,sP 4,sI 5,sI 6] [eBox 2 [xI,xI],eBox 4 [xI,xI]]
def u164_0_0 {β:Type}(g:St->β):I6 β:=p164_0_0.unc g
def p164_0_1:PT St:=pS [sP 2,sP 4,sI 5,sI 6,sl 7 (aV false [(cD dB)])] [eBox 2 [xI,xI],eBox 4 [xI,xI]]
def u164_0_1 {β:Type}(g:St->β):Int->Int->Bool->I4 β:=p164_0_1.unc g
def pr164_0_0:PT (List RV):=pRs [pR true [rD (dI .i64),rD (dI .i64)]]
def ur164_0_0 {β:Type}(g:List RV->β):Int->Int->β:=pr164_0_0.unc g
def E164_0g:EnvK:=EnvK.of [] noSeq
def E164_0:EnvK:=E164_0g
theorem eo164_0:E164_0.Ok Pg:=EnvK.of_ok noSeq_ok trivial
def c164_0_7g:MCode:=(.seq (.region r164_9 [] (tO [2,4,5,6,7])) (.seq (.cond (.tmp 7) .skip (.exit 0)) (.seq (.block 1 (.region r164_14 [] (tO [2,4,5,6]))) (.region r164_15 [] (tO [2,4,5,6])))))
def c164_0_7:MCode:=c164_0_7g
theorem g164_0_7:c164_0_7.Good Pg E164_0 sh164:=⟨trivial,⟨trivial,trivial⟩,trivial,trivial⟩
def S164_0_0g (α:Type)(b a c d:Int)(kn:Int->Int->Int->Op α)(k1:Int->Bool->Int->Int->Op α):Op α:=
 cK (decide (a < b))
 (kn (w64 (a+1)) (w64 (0 - d)) c)
 (k1 a (decide (a < b)) c d)
def S164_0_0 (α:Type)(a b c d:Int)(kn:Int->Int->Int->Op α)(k1:Int->Bool->Int->Int->Op α):Op α:=S164_0_0g α a b c d kn k1
def R164_0_0 (α:Type)(a:Int)(k1:Int->Bool->Int->Int->Op α):Nat->Int->Int->Int->Op α
 | 0,_,_,_=>none
 | n+1,b,c,d=>S164_0_0 α a b c d (R164_0_0 α a k1 n) k1
def L164_0_0 (α:Type)(a:Int)(k1:Int->Bool->Int->Int->Op α)(b c d:Int):Op α:=R164_0_0 α a k1 fuel b c d
abbrev TL164_0_0:Type 1:=(α:Type)->Int->(Int->Bool->Int->Int->Op α)->Int->Int->Int->Op α
def F164_0_0 (v:TL164_0_0)(α:Type)(K:KT α):I6 (Op α):=fun a b c d e g=>v α a (fun h i j l=>u164_0_1 (K (.exit 0)) a h i j l e g) b c d
theorem r164_0_0g (α:Type)(K:KT α)(Kn:SK α)(a b c d e g:Int):u164_0_0 (fun σ=>runM Pg (E164_0g ) sh164 (c164_0_7g ) (thenK (fun σ=>tidyK td164_7 σ Kn) K) σ) a b c d e g=S164_0_0g α a b c d (fun b c d=>u164_0_0 Kn a b c d e g) (fun h i j l=>u164_0_1 (K (.exit 0)) a h i j l e g):=by kernel_rfl
theorem r164_0_0 (α:Type)(K:KT α)(Kn:SK α)(a b c d e g:Int):u164_0_0 (fun σ=>runM Pg E164_0 sh164 c164_0_7 (thenK (fun σ=>tidyK td164_7 σ Kn) K) σ) a b c d e g=S164_0_0 α a b c d (fun b c d=>u164_0_0 Kn a b c d e g) (fun h i j l=>u164_0_1 (K (.exit 0)) a h i j l e g):=r164_0_0g α K Kn a b c d e g
theorem t164_0_0 (α:Type)(K:KT α):∀ (n:Nat) (a b c d e g:Int),R164_0_0 α a (fun h i j l=>u164_0_1 (K (.exit 0)) a h i j l e g) n b c d=u164_0_0 (loopT (runM Pg E164_0 sh164 c164_0_7) td164_7 K n) a b c d e g:=by
 intro n
 induction n with
 | zero=>intros;rfl
 | succ n ih=>intro a b c d e g;exact (congrArg (fun kn=>S164_0_0 α a b c d kn (fun h i j l=>u164_0_1 (K (.exit 0)) a h i j l e g)) (funext fun b=>funext fun c=>funext fun d=>ih a b c d e g)).trans (r164_0_0 α K (loopT (runM Pg E164_0 sh164 c164_0_7) td164_7 K n) a b c d e g).symm
theorem m164_0_0:∀ (α:Type) (K:KT α),F164_0_0 L164_0_0 α K=p164_0_0.unc fun σ=>loopT (runM Pg E164_0 sh164 c164_0_7) td164_7 K fuel σ:=fun α K=>by funext a b c d e g;exact t164_0_0 α K fuel a b c d e g
abbrev Tf164_0:Type 1:=(α:Type)->Int->Int->Int->(Int->Int->Op α)->Op α
def f164_0g (a:TL164_0_0)(α:Type)(b c d:Int)(k1:Int->Int->Op α):Op α:=
 a α d
 (fun h i e g=>k1 e g) 0 b c
def f164_0 (α:Type)(a b c:Int)(k1:Int->Int->Op α):Op α:=f164_0g L164_0_0 α a b c k1
def pa164_0:PT (List DV):=pA [pV true [(dI .i64),(dI .i64)],vI]
def Fn164_0 (v:Tf164_0)(α:Type)(k:RT α):Int->Int->Int->Op α:=fun a b c=>v α a b c (fun d e=>ur164_0_0 k d e)
def cm164_0g (a:TL164_0_0):MCode:=(.seq (.region r164_2 [] (tO [1,2,4])) (.seq (.seq (.region r164_5 [] (tO [2,4,5,6])) (.block 0 (.loop td164_7 [⟨p164_0_0,F164_0_0 a⟩] c164_0_7))) (.seq (.region r164_17 [] (tO [4])) .ret)))
def cm164_0:MCode:=cm164_0g L164_0_0
theorem gm164_0:cm164_0.Good Pg E164_0 sh164:=⟨trivial,⟨trivial,g164_0_7,m164_0_0,trivial⟩,trivial,trivial⟩
theorem fm164_0g (a:TL164_0_0)(α:Type)(k:RT α):Fn164_0 (f164_0g a) α k=pa164_0.unc fun ds=>fnM Pg (E164_0g ) sh164 (cm164_0g a) rs164 k ds:=by kernel_rfl
theorem fm164_0:∀ (α:Type) (k:RT α),Fn164_0 f164_0 α k=pa164_0.unc fun ds=>fnM Pg E164_0 sh164 cm164_0 rs164 k ds:=fm164_0g L164_0_0
theorem is164:FnIs Pg 164 nt164 tr164 tl164 cm164_0.erase rs164:=⟨Tryz.f164,Tryz.func164,rfl,by kernel_rfl,by kernel_rfl,by kernel_rfl⟩
theorem io164_0:InstOk Pg 164 nt164 ⟨pa164_0,Fn164_0 f164_0⟩:=inst_ok eo164_0 followsTry is164 ⟨⟨sh164,cm164_0,by kernel_rfl,gm164_0,fm164_0⟩⟩
abbrev nt131:Nat:=14
def sh131:SG:=[(4,iT),(6,iT),(9,iT),(11,iT)]
def r131_2:LA:=[oO 1 (.box (.tmp 0)),mK 2 0]
def r131_4:LA:=[fA 3 0 1,lD 4 3,fA 5 0 1,lD 6 5,bT 7 .mul 4 6,fA 8 1 1,lD 9 8,fA 10 1 1,lD 11 10,bT 12 .mul 9 11,bT 13 .add 7 12,oM 2 13]
def tr131:TG:=[tT 0 [1],tT 1 [2]]
def tl131:TG:=[]
def rs131:List AResV:=[.tmp 2]
def pr131_0_0:PT (List RV):=pRs [wI]
def ur131_0_0 {β:Type}(g:List RV->β):Int->β:=pr131_0_0.unc g
def E131_0g:EnvK:=EnvK.of [] noSeq
def E131_0:EnvK:=E131_0g
theorem eo131_0:E131_0.Ok Pg:=EnvK.of_ok noSeq_ok trivial
abbrev Tf131_0:Type 1:=(α:Type)->Int->Int->(Int->Op α)->Op α
def f131_0g (α:Type)(a b:Int)(k1:Int->Op α):Op α:=
 k1 (w64 ((w64 (a*a))+(w64 (b*b))))
def f131_0 (α:Type)(a b:Int)(k1:Int->Op α):Op α:=f131_0g α a b k1
def pa131_0:PT (List DV):=pA [pV true [(dI .i64),(dI .i64)]]
def Fn131_0 (v:Tf131_0)(α:Type)(k:RT α):Int->Int->Op α:=fun a b=>v α a b (fun c=>ur131_0_0 k c)
def cm131_0g:MCode:=(.seq (.region r131_2 [] (tO [1])) (.seq (.region r131_4 [] (tO [2])) .ret))
def cm131_0:MCode:=cm131_0g
theorem gm131_0:cm131_0.Good Pg E131_0 sh131:=⟨trivial,trivial,trivial⟩
theorem fm131_0g (α:Type)(k:RT α):Fn131_0 (f131_0g ) α k=pa131_0.unc fun ds=>fnM Pg (E131_0g ) sh131 (cm131_0g ) rs131 k ds:=by kernel_rfl
theorem fm131_0:∀ (α:Type) (k:RT α),Fn131_0 f131_0 α k=pa131_0.unc fun ds=>fnM Pg E131_0 sh131 cm131_0 rs131 k ds:=fm131_0g
theorem is131:FnIs Pg 131 nt131 tr131 tl131 cm131_0.erase rs131:=⟨Tryz.f131,Tryz.func131,rfl,by kernel_rfl,by kernel_rfl,by kernel_rfl⟩
theorem io131_0:InstOk Pg 131 nt131 ⟨pa131_0,Fn131_0 f131_0⟩:=inst_ok eo131_0 followsTry is131 ⟨⟨sh131,cm131_0,by kernel_rfl,gm131_0,fm131_0⟩⟩
abbrev nt155:Nat:=16
def sh155:SG:=[(6,iT),(8,iT),(11,iT),(13,iT)]
def r155_2:LA:=[oO 2 (.box (.tmp 0)),oO 3 (.box (.tmp 1)),oO 4 (.alloc [(cI 0),(cI 0)])]
def r155_4:LA:=[fA 5 0 2,lD 6 5,fA 7 0 3,lD 8 7,bT 9 .add 6 8,fA 10 1 2,lD 11 10,fA 12 1 3,lD 13 12,bT 14 .add 11 13,oO 15 (.build [(cI 0),(cI 0)] [(0,1,(.tmp 9)),(1,1,(.tmp 14))]),sD 2 4 15]
def tr155:TG:=[tT 0 [2,3,4],tT 1 [4]]
def tl155:TG:=[]
def rs155:List AResV:=[.cell 4 true 2]
def pr155_0_0:PT (List RV):=pRs [pR true [rD (dI .i64),rD (dI .i64)]]
def ur155_0_0 {β:Type}(g:List RV->β):Int->Int->β:=pr155_0_0.unc g
def E155_0g:EnvK:=EnvK.of [] noSeq
def E155_0:EnvK:=E155_0g
theorem eo155_0:E155_0.Ok Pg:=EnvK.of_ok noSeq_ok trivial
abbrev Tf155_0:Type 1:=(α:Type)->Int->Int->Int->Int->(Int->Int->Op α)->Op α
def f155_0g (α:Type)(a b c d:Int)(k1:Int->Int->Op α):Op α:=
 k1 (w64 (a+c)) (w64 (b+d))
def f155_0 (α:Type)(a b c d:Int)(k1:Int->Int->Op α):Op α:=f155_0g α a b c d k1
def pa155_0:PT (List DV):=pA [pV true [(dI .i64),(dI .i64)],pV true [(dI .i64),(dI .i64)]]
def Fn155_0 (v:Tf155_0)(α:Type)(k:RT α):I4 (Op α):=fun a b c d=>v α a b c d (fun e g=>ur155_0_0 k e g)
def cm155_0g:MCode:=(.seq (.region r155_2 [] (tO [2,3,4])) (.seq (.region r155_4 [] (tO [4])) .ret))
def cm155_0:MCode:=cm155_0g
theorem gm155_0:cm155_0.Good Pg E155_0 sh155:=⟨trivial,trivial,trivial⟩
theorem fm155_0g (α:Type)(k:RT α):Fn155_0 (f155_0g ) α k=pa155_0.unc fun ds=>fnM Pg (E155_0g ) sh155 (cm155_0g ) rs155 k ds:=by kernel_rfl
theorem fm155_0:∀ (α:Type) (k:RT α),Fn155_0 f155_0 α k=pa155_0.unc fun ds=>fnM Pg E155_0 sh155 cm155_0 rs155 k ds:=fm155_0g
theorem is155:FnIs Pg 155 nt155 tr155 tl155 cm155_0.erase rs155:=⟨Tryz.f155,Tryz.func155,rfl,by kernel_rfl,by kernel_rfl,by kernel_rfl⟩
theorem io155_0:InstOk Pg 155 nt155 ⟨pa155_0,Fn155_0 f155_0⟩:=inst_ok eo155_0 followsTry is155 ⟨⟨sh155,cm155_0,by kernel_rfl,gm155_0,fm155_0⟩⟩
abbrev nt139:Nat:=16
def sh139:SG:=[]
def r139_2:LA:=[mK 4 0]
def r139_4:LA:=[oM 6 0,oM 7 1,bT 8 .quo 6 7,oM 5 8]
def r139_7:LA:=[oM 9 0,oM 10 1,bT 11 .rem 9 10,bK 12 .lss 11 0]
def r139_9:LA:=[oM 13 5,bK 14 .sub 13 1,oM 5 14]
def r139_11:LA:=[oM 15 5,oM 4 15]
def tr139:TG:=[tT 0 [0,1],tT 1 [0,1,5],tT 2 [5,12],tT 3 [5],tT 4 [4]]
def tl139:TG:=[]
def rs139:List AResV:=[.tmp 4]
def pr139_0_0:PT (List RV):=pRs [wI]
def ur139_0_0 {β:Type}(g:List RV->β):Int->β:=pr139_0_0.unc g
def E139_0g:EnvK:=EnvK.of [] noSeq
def E139_0:EnvK:=E139_0g
theorem eo139_0:E139_0.Ok Pg:=EnvK.of_ok noSeq_ok trivial
abbrev Tf139_0:Type 1:=(α:Type)->Int->Int->(Int->Op α)->Op α
def f139_0g (α:Type)(b a:Int)(k1:Int->Op α):Op α:=
 gK (a != 0) (gK (a != 0) (cK (decide ((Int.tmod b a) < 0))
 (k1 (w64 ((w64 (Int.tdiv b a)) - 1)))
 (k1 (w64 (Int.tdiv b a)))))
def f139_0 (α:Type)(a b:Int)(k1:Int->Op α):Op α:=f139_0g α a b k1
def pa139_0:PT (List DV):=pA [vI,vI]
def Fn139_0 (v:Tf139_0)(α:Type)(k:RT α):Int->Int->Op α:=fun a b=>v α a b (fun c=>ur139_0_0 k c)
def cm139_0g:MCode:=(.seq (.region r139_2 [] (tO [0,1])) (.seq (.region r139_4 [] (tO [0,1,5])) (.seq (.seq (.region r139_7 [] (tO [5,12])) (.cond (.tmp 12) (.region r139_9 [] (tO [5])) .skip)) (.seq (.region r139_11 [] (tO [4])) .ret))))
def cm139_0:MCode:=cm139_0g
theorem gm139_0:cm139_0.Good Pg E139_0 sh139:=⟨trivial,trivial,⟨trivial,trivial,trivial⟩,trivial,trivial⟩
theorem fm139_0g (α:Type)(k:RT α):Fn139_0 (f139_0g ) α k=pa139_0.unc fun ds=>fnM Pg (E139_0g ) sh139 (cm139_0g ) rs139 k ds:=by kernel_rfl
theorem fm139_0:∀ (α:Type) (k:RT α),Fn139_0 f139_0 α k=pa139_0.unc fun ds=>fnM Pg E139_0 sh139 cm139_0 rs139 k ds:=fm139_0g
theorem is139:FnIs Pg 139 nt139 tr139 tl139 cm139_0.erase rs139:=⟨Tryz.f139,Tryz.func139,rfl,by kernel_rfl,by kernel_rfl,by kernel_rfl⟩
theorem io139_0:InstOk Pg 139 nt139 ⟨pa139_0,Fn139_0 f139_0⟩:=inst_ok eo139_0 followsTry is139 ⟨⟨sh139,cm139_0,by kernel_rfl,gm139_0,fm139_0⟩⟩
abbrev nt127:Nat:=15
def sh127:SG:=[]
def r127_2:LA:=[oO 6 (.mv (.const (.bool false)))]
def r127_4:LA:=[oM 7 1,oM 8 0,bT 9 .leq 7 8,oM 10 9,oG 11 (.mv (.tmp 0)) 10 true,oG 12 (.mv (.tmp 2)) 10 true,oG 13 (.bin .leq 3 (.tmp 11) (.tmp 12)) 10 true,oO 14 (.pick (.tmp 10) (.tmp 13) (.const (.bool false))),oM 6 14]
def tr127:TG:=[tT 0 [0,1,2],tT 1 [6]]
def tl127:TG:=[]
def rs127:List AResV:=[.tmp 6]
def pr127_0_0:PT (List RV):=pRs [pR false [rD dB]]
def ur127_0_0 {β:Type}(g:List RV->β):Bool->β:=pr127_0_0.unc g
def E127_0g:EnvK:=EnvK.of [] noSeq
def E127_0:EnvK:=E127_0g
theorem eo127_0:E127_0.Ok Pg:=EnvK.of_ok noSeq_ok trivial
abbrev Tf127_0:Type 1:=(α:Type)->Int->Int->Int->(Bool->Op α)->Op α
def f127_0g (α:Type)(a b c:Int)(k1:Bool->Op α):Op α:=
 cK (decide (b<=a))
 (k1 (decide (a<=c)))
 (k1 false)
def f127_0 (α:Type)(a b c:Int)(k1:Bool->Op α):Op α:=f127_0g α a b c k1
def pa127_0:PT (List DV):=pA [vI,vI,vI]
def Fn127_0 (v:Tf127_0)(α:Type)(k:RT α):Int->Int->Int->Op α:=fun a b c=>v α a b c (fun d=>ur127_0_0 k d)
def cm127_0g:MCode:=(.seq (.region r127_2 [] (tO [0,1,2])) (.seq (.region r127_4 [] (tO [6])) .ret))
def cm127_0:MCode:=cm127_0g
theorem gm127_0:cm127_0.Good Pg E127_0 sh127:=⟨trivial,trivial,trivial⟩
theorem fm127_0g (α:Type)(k:RT α):Fn127_0 (f127_0g ) α k=pa127_0.unc fun ds=>fnM Pg (E127_0g ) sh127 (cm127_0g ) rs127 k ds:=by kernel_rfl
theorem fm127_0:∀ (α:Type) (k:RT α),Fn127_0 f127_0 α k=pa127_0.unc fun ds=>fnM Pg E127_0 sh127 cm127_0 rs127 k ds:=fm127_0g
theorem is127:FnIs Pg 127 nt127 tr127 tl127 cm127_0.erase rs127:=⟨Tryz.f127,Tryz.func127,rfl,by kernel_rfl,by kernel_rfl,by kernel_rfl⟩
theorem io127_0:InstOk Pg 127 nt127 ⟨pa127_0,Fn127_0 f127_0⟩:=inst_ok eo127_0 followsTry is127 ⟨⟨sh127,cm127_0,by kernel_rfl,gm127_0,fm127_0⟩⟩
abbrev nt51:Nat:=15
def sh51:SG:=[]
def r51_2:LA:=[oO 6 (.mv (.const (.bool false)))]
def r51_4:LA:=[oM 7 0,oM 8 1,bT 9 .geq 7 8,oM 10 9,oG 11 (.mv (.tmp 0)) 10 true,oG 12 (.mv (.tmp 2)) 10 true,oG 13 (.bin .leq 3 (.tmp 11) (.tmp 12)) 10 true,oO 14 (.pick (.tmp 10) (.tmp 13) (.const (.bool false))),oM 6 14]
def tr51:TG:=[tT 0 [0,1,2],tT 1 [6]]
def tl51:TG:=[]
def rs51:List AResV:=[.tmp 6]
def pr51_0_0:PT (List RV):=pRs [pR false [rD dB]]
def ur51_0_0 {β:Type}(g:List RV->β):Bool->β:=pr51_0_0.unc g
def E51_0g:EnvK:=EnvK.of [] noSeq
def E51_0:EnvK:=E51_0g
theorem eo51_0:E51_0.Ok Pg:=EnvK.of_ok noSeq_ok trivial
abbrev Tf51_0:Type 1:=(α:Type)->Int->Int->Int->(Bool->Op α)->Op α
def f51_0g (α:Type)(a b c:Int)(k1:Bool->Op α):Op α:=
 cK (decide (b<=a))
 (k1 (decide (a<=c)))
 (k1 false)
def f51_0 (α:Type)(a b c:Int)(k1:Bool->Op α):Op α:=f51_0g α a b c k1
def pa51_0:PT (List DV):=pA [vI,vI,vI]
def Fn51_0 (v:Tf51_0)(α:Type)(k:RT α):Int->Int->Int->Op α:=fun a b c=>v α a b c (fun d=>ur51_0_0 k d)
def cm51_0g:MCode:=(.seq (.region r51_2 [] (tO [0,1,2])) (.seq (.region r51_4 [] (tO [6])) .ret))
def cm51_0:MCode:=cm51_0g
theorem gm51_0:cm51_0.Good Pg E51_0 sh51:=⟨trivial,trivial,trivial⟩
theorem fm51_0g (α:Type)(k:RT α):Fn51_0 (f51_0g ) α k=pa51_0.unc fun ds=>fnM Pg (E51_0g ) sh51 (cm51_0g ) rs51 k ds:=by kernel_rfl
theorem fm51_0:∀ (α:Type) (k:RT α),Fn51_0 f51_0 α k=pa51_0.unc fun ds=>fnM Pg E51_0 sh51 cm51_0 rs51 k ds:=fm51_0g
theorem is51:FnIs Pg 51 nt51 tr51 tl51 cm51_0.erase rs51:=⟨Tryz.f51,Tryz.func51,rfl,by kernel_rfl,by kernel_rfl,by kernel_rfl⟩
theorem io51_0:InstOk Pg 51 nt51 ⟨pa51_0,Fn51_0 f51_0⟩:=inst_ok eo51_0 followsTry is51 ⟨⟨sh51,cm51_0,by kernel_rfl,gm51_0,fm51_0⟩⟩
abbrev nt122:Nat:=17
def sh122:SG:=[(7,iS 2),(9,iS 2),(12,iT),(14,iT)]
def r122_2:LA:=[oO 2 (.box (.tmp 0)),oO 3 (.box (.tmp 1)),oO 4 (.alloc (zI 3)),mK 5 0]
def r122_4:LA:=[fA 6 0 2,lA 7 2 6,fA 8 0 3,lA 9 2 8,oO 10 (.call 123 [(.tmp 7),(.tmp 9)]),fA 11 2 2,lD 12 11,fA 13 2 3,lD 14 13,bT 15 .add 12 14,oO 16 (.build (zI 3) [(0,2,(.tmp 10)),(2,1,(.tmp 15))]),sD 3 4 16,mK 5 0]
def tr122:TG:=[tT 0 [2,3,4],tT 1 [4,5]]
def tl122:TG:=[]
def rs122:List AResV:=[.cell 4 true 3,.tmp 5]
def pr122_0_0:PT (List RV):=pRs [pR true [rD (dI .i64),rD (dI .i64),rD (dI .i64)],wI]
def ur122_0_0 {β:Type}(g:List RV->β):I4 β:=pr122_0_0.unc g
def E122_0g (a:Tf123_0):EnvK:=EnvK.of [⟨123,nt123,[⟨pa123_0,Fn123_0 a⟩]⟩] noSeq
def E122_0:EnvK:=E122_0g f123_0
theorem eo122_0:E122_0.Ok Pg:=EnvK.of_ok noSeq_ok ⟨⟨io123_0,trivial⟩,trivial⟩
abbrev Tf122_0:Type 1:=(α:Type)->Int->Int->Int->Int->Int->Int->(Int->Int->Int->Op α)->Op α
def f122_0g (a:Tf123_0)(α:Type)(b c d e g h:Int)(k1:Int->Int->Int->Op α):Op α:=
 a α b c e g
 (fun i j=>k1 i j (w64 (d+h)))
def f122_0 (α:Type)(a b c d e g:Int)(k1:Int->Int->Int->Op α):Op α:=f122_0g f123_0 α a b c d e g k1
def pa122_0:PT (List DV):=pA [pV true [(dI .i64),(dI .i64),(dI .i64)],pV true [(dI .i64),(dI .i64),(dI .i64)]]
def Fn122_0 (v:Tf122_0)(α:Type)(k:RT α):I6 (Op α):=fun a b c d e g=>v α a b c d e g (fun h i j=>ur122_0_0 k h i j 0)
def cm122_0g:MCode:=(.seq (.region r122_2 [] (tO [2,3,4])) (.seq (.region r122_4 [(4,6),(4,8)] (tO [4,5])) .ret))
def cm122_0:MCode:=cm122_0g
theorem gm122_0:cm122_0.Good Pg E122_0 sh122:=⟨trivial,trivial,trivial⟩
theorem fm122_0g (a:Tf123_0)(α:Type)(k:RT α):Fn122_0 (f122_0g a) α k=pa122_0.unc fun ds=>fnM Pg (E122_0g a) sh122 (cm122_0g ) rs122 k ds:=by kernel_rfl
theorem fm122_0:∀ (α:Type) (k:RT α),Fn122_0 f122_0 α k=pa122_0.unc fun ds=>fnM Pg E122_0 sh122 cm122_0 rs122 k ds:=fm122_0g f123_0
theorem is122:FnIs Pg 122 nt122 tr122 tl122 cm122_0.erase rs122:=⟨Tryz.f122,Tryz.func122,rfl,by kernel_rfl,by kernel_rfl,by kernel_rfl⟩
theorem io122_0:InstOk Pg 122 nt122 ⟨pa122_0,Fn122_0 f122_0⟩:=inst_ok eo122_0 followsTry is122 ⟨⟨sh122,cm122_0,by kernel_rfl,gm122_0,fm122_0⟩⟩
abbrev nt96:Nat:=19
def sh96:SG:=[(10,iS 2),(11,iS 2)]
def r96_2:LA:=[oO 3 (.box (.tmp 0)),oO 4 (.box (.tmp 1)),oO 6 (.mv (.const (.bool false)))]
def r96_4:LA:=[oM 7 2,bK 8 .geq 7 0,oM 9 8,oG 10 (.load true 2 (.tmp 3)) 9 true,oG 11 (.load true 2 (.tmp 4)) 9 true,oG 12 (.call 123 [(.tmp 10),(.tmp 11)]) 9 true,oG 13 (.call 131 [.tmp 12]) 9 true,oG 14 (.mv (.tmp 2)) 9 true,oG 15 (.mv (.tmp 2)) 9 true,oG 16 (.bin .mul 3 (.tmp 14) (.tmp 15)) 9 true,oG 17 (.bin .leq 3 (.tmp 13) (.tmp 16)) 9 true,oO 18 (.pick (.tmp 9) (.tmp 17) (.const (.bool false))),oM 6 18]
def tr96:TG:=[tT 0 [2,3,4],tT 1 [6]]
def tl96:TG:=[]
def rs96:List AResV:=[.tmp 6]
def pr96_0_0:PT (List RV):=pRs [pR false [rD dB]]
def ur96_0_0 {β:Type}(g:List RV->β):Bool->β:=pr96_0_0.unc g
def E96_0g (a:Tf123_0)(b:Tf131_0):EnvK:=EnvK.of [⟨123,nt123,[⟨pa123_0,Fn123_0 a⟩]⟩,⟨131,nt131,[⟨pa131_0,Fn131_0 b⟩]⟩] noSeq
def E96_0:EnvK:=E96_0g f123_0 f131_0
theorem eo96_0:E96_0.Ok Pg:=EnvK.of_ok noSeq_ok ⟨⟨io123_0,trivial⟩,⟨io131_0,trivial⟩,trivial⟩
abbrev Tf96_0:Type 1:=(α:Type)->Int->Int->Int->Int->Int->(Bool->Op α)->Op α
def f96_0g (b:Tf123_0)(c:Tf131_0)(α:Type)(d e g h a:Int)(k1:Bool->Op α):Op α:=
 cK (decide (0<=a))
 (b α d e g h
 (fun i j=>c α i j
 (fun l=>k1 (decide (l<=(w64 (a*a)))))))
 (k1 false)
def f96_0 (α:Type)(a b c d e:Int)(k1:Bool->Op α):Op α:=f96_0g f123_0 f131_0 α a b c d e k1
def pa96_0:PT (List DV):=pA [pV true [(dI .i64),(dI .i64)],pV true [(dI .i64),(dI .i64)],vI]
def Fn96_0 (v:Tf96_0)(α:Type)(k:RT α):I5 (Op α):=fun a b c d e=>v α a b c d e (fun g=>ur96_0_0 k g)
def cm96_0g:MCode:=(.seq (.region r96_2 [] (tO [2,3,4])) (.seq (.region r96_4 [] (tO [6])) .ret))
def cm96_0:MCode:=cm96_0g
theorem gm96_0:cm96_0.Good Pg E96_0 sh96:=⟨trivial,trivial,trivial⟩
theorem fm96_0g (a:Tf123_0)(b:Tf131_0)(α:Type)(k:RT α):Fn96_0 (f96_0g a b) α k=pa96_0.unc fun ds=>fnM Pg (E96_0g a b) sh96 (cm96_0g ) rs96 k ds:=by kernel_rfl
theorem fm96_0:∀ (α:Type) (k:RT α),Fn96_0 f96_0 α k=pa96_0.unc fun ds=>fnM Pg E96_0 sh96 cm96_0 rs96 k ds:=fm96_0g f123_0 f131_0
theorem is96:FnIs Pg 96 nt96 tr96 tl96 cm96_0.erase rs96:=⟨Tryz.f96,Tryz.func96,rfl,by kernel_rfl,by kernel_rfl,by kernel_rfl⟩
theorem io96_0:InstOk Pg 96 nt96 ⟨pa96_0,Fn96_0 f96_0⟩:=inst_ok eo96_0 followsTry is96 ⟨⟨sh96,cm96_0,by kernel_rfl,gm96_0,fm96_0⟩⟩
abbrev nt109:Nat:=11
def sh109:SG:=[(4,iT),(7,iT)]
def r109_2:LA:=[oO 1 (.box (.tmp 0)),mK 2 0]
def r109_4:LA:=[fA 3 0 1,lD 4 3,oO 5 (.pure (oB (.unOp .neg 3 (.tmp 4)) 3)),fA 6 1 1,lD 7 6,oO 8 (.build [(cI 0),(cI 0)] [(0,1,(.tmp 5)),(1,1,(.tmp 7))]),oO 9 (.call 108 [.tmp 8]),oO 10 (.pure (oB (.unOp .neg 3 (.tmp 9)) 3)),oM 2 10]
def tr109:TG:=[tT 0 [1],tT 1 [2]]
def tl109:TG:=[]
def rs109:List AResV:=[.tmp 2]
def pr109_0_0:PT (List RV):=pRs [wI]
def ur109_0_0 {β:Type}(g:List RV->β):Int->β:=pr109_0_0.unc g
def E109_0g (a:Tf108_0):EnvK:=EnvK.of [⟨108,nt108,[⟨pa108_0,Fn108_0 a⟩]⟩] noSeq
def E109_0:EnvK:=E109_0g f108_0
theorem eo109_0:E109_0.Ok Pg:=EnvK.of_ok noSeq_ok ⟨⟨io108_0,trivial⟩,trivial⟩
abbrev Tf109_0:Type 1:=(α:Type)->Int->Int->(Int->Op α)->Op α
def f109_0g (a:Tf108_0)(α:Type)(b c:Int)(k1:Int->Op α):Op α:=
 a α (w64 (0 - b)) c
 (fun d=>k1 (w64 (0 - d)))
def f109_0 (α:Type)(a b:Int)(k1:Int->Op α):Op α:=f109_0g f108_0 α a b k1
def pa109_0:PT (List DV):=pA [pV true [(dI .i64),(dI .i64)]]
def Fn109_0 (v:Tf109_0)(α:Type)(k:RT α):Int->Int->Op α:=fun a b=>v α a b (fun c=>ur109_0_0 k c)
def cm109_0g:MCode:=(.seq (.region r109_2 [] (tO [1])) (.seq (.region r109_4 [] (tO [2])) .ret))
def cm109_0:MCode:=cm109_0g
theorem gm109_0:cm109_0.Good Pg E109_0 sh109:=⟨trivial,trivial,trivial⟩
theorem fm109_0g (a:Tf108_0)(α:Type)(k:RT α):Fn109_0 (f109_0g a) α k=pa109_0.unc fun ds=>fnM Pg (E109_0g a) sh109 (cm109_0g ) rs109 k ds:=by kernel_rfl
theorem fm109_0:∀ (α:Type) (k:RT α),Fn109_0 f109_0 α k=pa109_0.unc fun ds=>fnM Pg E109_0 sh109 cm109_0 rs109 k ds:=fm109_0g f108_0
theorem is109:FnIs Pg 109 nt109 tr109 tl109 cm109_0.erase rs109:=⟨Tryz.f109,Tryz.func109,rfl,by kernel_rfl,by kernel_rfl,by kernel_rfl⟩
theorem io109_0:InstOk Pg 109 nt109 ⟨pa109_0,Fn109_0 f109_0⟩:=inst_ok eo109_0 followsTry is109 ⟨⟨sh109,cm109_0,by kernel_rfl,gm109_0,fm109_0⟩⟩
abbrev nt63:Nat:=14
def sh63:SG:=[(4,iT),(7,iT),(10,iT)]
def r63_2:LA:=[oO 1 (.box (.tmp 0)),mK 2 0]
def r63_4:LA:=[fA 3 0 1,lD 4 3,oO 5 (.bin .mul 3 (kI 2) (.tmp 4)),fA 6 1 1,lD 7 6,bT 8 .add 5 7,fA 9 1 1,lD 10 9,oO 11 (.bin .mul 3 (kI 2) (.tmp 10)),oO 12 (.build [(cI 0),(cI 0)] [(0,1,(.tmp 8)),(1,1,(.tmp 11))]),oO 13 (.call 108 [.tmp 12]),oM 2 13]
def tr63:TG:=[tT 0 [1],tT 1 [2]]
def tl63:TG:=[]
def rs63:List AResV:=[.tmp 2]
def pr63_0_0:PT (List RV):=pRs [wI]
def ur63_0_0 {β:Type}(g:List RV->β):Int->β:=pr63_0_0.unc g
def E63_0g (a:Tf108_0):EnvK:=EnvK.of [⟨108,nt108,[⟨pa108_0,Fn108_0 a⟩]⟩] noSeq
def E63_0:EnvK:=E63_0g f108_0
theorem eo63_0:E63_0.Ok Pg:=EnvK.of_ok noSeq_ok ⟨⟨io108_0,trivial⟩,trivial⟩
abbrev Tf63_0:Type 1:=(α:Type)->Int->Int->(Int->Op α)->Op α
def f63_0g (b:Tf108_0)(α:Type)(c a:Int)(k1:Int->Op α):Op α:=
 b α (w64 ((w64 (2*c))+a)) (w64 (2*a))
 (fun d=>k1 d)
def f63_0 (α:Type)(a b:Int)(k1:Int->Op α):Op α:=f63_0g f108_0 α a b k1
def pa63_0:PT (List DV):=pA [pV true [(dI .i64),(dI .i64)]]
def Fn63_0 (v:Tf63_0)(α:Type)(k:RT α):Int->Int->Op α:=fun a b=>v α a b (fun c=>ur63_0_0 k c)
def cm63_0g:MCode:=(.seq (.region r63_2 [] (tO [1])) (.seq (.region r63_4 [] (tO [2])) .ret))
def cm63_0:MCode:=cm63_0g
theorem gm63_0:cm63_0.Good Pg E63_0 sh63:=⟨trivial,trivial,trivial⟩
theorem fm63_0g (a:Tf108_0)(α:Type)(k:RT α):Fn63_0 (f63_0g a) α k=pa63_0.unc fun ds=>fnM Pg (E63_0g a) sh63 (cm63_0g ) rs63 k ds:=by kernel_rfl
theorem fm63_0:∀ (α:Type) (k:RT α),Fn63_0 f63_0 α k=pa63_0.unc fun ds=>fnM Pg E63_0 sh63 cm63_0 rs63 k ds:=fm63_0g f108_0
theorem is63:FnIs Pg 63 nt63 tr63 tl63 cm63_0.erase rs63:=⟨Tryz.f63,Tryz.func63,rfl,by kernel_rfl,by kernel_rfl,by kernel_rfl⟩
theorem io63_0:InstOk Pg 63 nt63 ⟨pa63_0,Fn63_0 f63_0⟩:=inst_ok eo63_0 followsTry is63 ⟨⟨sh63,cm63_0,by kernel_rfl,gm63_0,fm63_0⟩⟩
abbrev nt13:Nat:=20
def sh13:SG:=[(16,iT),(17,iT)]
def r13_2:LA:=[mK 2 0]
def r13_5:LA:=[oM 4 0,oO 5 (.len (.tmp 4)),oO 6 (.call 56 [.tmp 5]),oO 7 (.pure (oB (.unOp .not 4 (.tmp 6)) 4))]
def r13_8:LA:=[mK 2 12]
def r13_11:LA:=[mK 3 0]
def td13_13:OT:=(tO [0,3])
def r13_16:LA:=[oM 8 3,oM 9 0,oO 10 (.len (.tmp 9)),bT 11 .lss 8 10]
def r13_21:LA:=[oM 14 0,oM 15 3,oO 16 (.iaddr 1 none (.tmp 14) (.tmp 15)),lD 17 16,oO 18 (.call 57 [(.tmp 17),(kI (-1000)),(kI 1000)]),oO 19 (.pure (oB (.unOp .not 4 (.tmp 18)) 4))]
def r13_24:LA:=[mK 2 2]
def r13_25:LA:=[oM 12 3,bK 13 .add 12 1,oM 3 13]
def r13_27:LA:=[mK 2 0]
def tr13:TG:=[tT 0 [0],tT 1 [0,7],tT 2 [2],tT 3 [0,3],tT 4 [0,3,11],tT 6 [0,3,19],tT 7 [2],tT 5 [0,3],tT 8 [2]]
def tl13:TG:=[tT 4 [0,3]]
def rs13:List AResV:=[.tmp 2]
def p13_0_0:PT St:=pS [sl 0 (aV false [(cD dL)]),sI 3] []
def u13_0_0 {β:Type}(g:St->β):Rows->Int->β:=p13_0_0.unc g
def p13_0_1:PT St:=pS [sI 2] []
def u13_0_1 {β:Type}(g:St->β):Int->β:=p13_0_1.unc g
def p13_0_2:PT St:=pS [sl 0 (aV false [(cD dL)]),sI 3,sl 11 (aV false [(cD dB)])] []
def u13_0_2 {β:Type}(g:St->β):Rows->Int->Bool->β:=p13_0_2.unc g
def pr13_0_0:PT (List RV):=pRs [wI]
def ur13_0_0 {β:Type}(g:List RV->β):Int->β:=pr13_0_0.unc g
def E13_0g (a:Tf56_0)(b:Tf57_0):EnvK:=EnvK.of [⟨56,nt56,[⟨pa56_0,Fn56_0 a⟩]⟩,⟨57,nt57,[⟨pa57_0,Fn57_0 b⟩]⟩] noSeq
def E13_0:EnvK:=E13_0g f56_0 f57_0
theorem eo13_0:E13_0.Ok Pg:=EnvK.of_ok noSeq_ok ⟨⟨io56_0,trivial⟩,⟨io57_0,trivial⟩,trivial⟩
def c13_0_13g:MCode:=(.seq (.seq (.region r13_16 [] (tO [0,3,11])) (.cond (.tmp 11) .skip (.exit 0))) (.seq (.block 1 (.seq (.region r13_21 [] (tO [0,3,19])) (.cond (.tmp 19) (.seq (.region r13_24 [] (tO [2])) .ret) .skip))) (.region r13_25 [] (tO [0,3]))))
def c13_0_13:MCode:=c13_0_13g
theorem g13_0_13:c13_0_13.Good Pg E13_0 sh13:=⟨⟨trivial,trivial,trivial⟩,⟨trivial,⟨trivial,trivial⟩,trivial⟩,trivial⟩
def S13_0_0g (c:Tf57_0)(α:Type)(b:Rows)(a:Int)(kn:Int->Op α)(k1:Op α)(k2:Int->Bool->Op α):Op α:=
 cK (decide (a < ((List.length b:Nat):Int)))
 (rowK b a [.int .i64]
 (fun d=>c α d (-1000) 1000
 (fun e=>cK (!e)
 (k1)
 (kn (w64 (a+1))))))
 (k2 a (decide (a < ((List.length b:Nat):Int))))
def S13_0_0 (α:Type)(a:Rows)(b:Int)(kn:Int->Op α)(k1:Op α)(k2:Int->Bool->Op α):Op α:=S13_0_0g f57_0 α a b kn k1 k2
def R13_0_0 (α:Type)(a:Rows)(k1:Op α)(k2:Int->Bool->Op α):Nat->Int->Op α
 | 0,_=>none
 | n+1,b=>S13_0_0 α a b (R13_0_0 α a k1 k2 n) k1 k2
def L13_0_0 (α:Type)(a:Rows)(k1:Op α)(k2:Int->Bool->Op α)(b:Int):Op α:=R13_0_0 α a k1 k2 fuel b
abbrev TL13_0_0:Type 1:=(α:Type)->Rows->(Op α)->(Int->Bool->Op α)->Int->Op α
def F13_0_0 (v:TL13_0_0)(α:Type)(K:KT α):Rows->Int->Op α:=fun a b=>v α a (u13_0_1 (K .ret) 2) (fun c d=>u13_0_2 (K (.exit 0)) a c d) b
theorem r13_0_0g (d:Tf56_0)(c:Tf57_0)(α:Type)(K:KT α)(Kn:SK α)(a:Rows)(b:Int):u13_0_0 (fun σ=>runM Pg (E13_0g d c) sh13 (c13_0_13g ) (thenK (fun σ=>tidyK td13_13 σ Kn) K) σ) a b=S13_0_0g c α a b (fun b=>u13_0_0 Kn a b) (u13_0_1 (K .ret) 2) (fun e g=>u13_0_2 (K (.exit 0)) a e g):=by kernel_rfl
theorem r13_0_0 (α:Type)(K:KT α)(Kn:SK α)(a:Rows)(b:Int):u13_0_0 (fun σ=>runM Pg E13_0 sh13 c13_0_13 (thenK (fun σ=>tidyK td13_13 σ Kn) K) σ) a b=S13_0_0 α a b (fun b=>u13_0_0 Kn a b) (u13_0_1 (K .ret) 2) (fun c d=>u13_0_2 (K (.exit 0)) a c d):=r13_0_0g f56_0 f57_0 α K Kn a b
theorem t13_0_0 (α:Type)(K:KT α):∀ (n:Nat) (a:Rows) (b:Int),R13_0_0 α a (u13_0_1 (K .ret) 2) (fun c d=>u13_0_2 (K (.exit 0)) a c d) n b=u13_0_0 (loopT (runM Pg E13_0 sh13 c13_0_13) td13_13 K n) a b:=by
 intro n
 induction n with
 | zero=>intros;rfl
 | succ n ih=>intro a b;exact (congrArg (fun kn=>S13_0_0 α a b kn (u13_0_1 (K .ret) 2) (fun c d=>u13_0_2 (K (.exit 0)) a c d)) (funext fun b=>ih a b)).trans (r13_0_0 α K (loopT (runM Pg E13_0 sh13 c13_0_13) td13_13 K n) a b).symm
theorem m13_0_0:∀ (α:Type) (K:KT α),F13_0_0 L13_0_0 α K=p13_0_0.unc fun σ=>loopT (runM Pg E13_0 sh13 c13_0_13) td13_13 K fuel σ:=fun α K=>funext fun a=>funext fun b=>t13_0_0 α K fuel a b
abbrev Tf13_0:Type 1:=(α:Type)->Rows->(Int->Op α)->Op α
def f13_0g (b:TL13_0_0)(c:Tf56_0)(α:Type)(a:Rows)(k1:Int->Op α):Op α:=
 c α ((List.length a:Nat):Int)
 (fun d=>cK (!d)
 (k1 12)
 (b α a
 (k1 2)
 (fun e g=>k1 0) 0))
def f13_0 (α:Type)(a:Rows)(k1:Int->Op α):Op α:=f13_0g L13_0_0 f56_0 α a k1
def pa13_0:PT (List DV):=pA [pV false [dL]]
def Fn13_0 (v:Tf13_0)(α:Type)(k:RT α):Rows->Op α:=fun a=>v α a (fun b=>ur13_0_0 k b)
def cm13_0g (a:TL13_0_0):MCode:=(.seq (.region r13_2 [] (tO [0])) (.seq (.seq (.region r13_5 [] (tO [0,7])) (.cond (.tmp 7) (.seq (.region r13_8 [] (tO [2])) .ret) .skip)) (.seq (.seq (.region r13_11 [] (tO [0,3])) (.block 0 (.loop td13_13 [⟨p13_0_0,F13_0_0 a⟩] c13_0_13))) (.seq (.region r13_27 [] (tO [2])) .ret))))
def cm13_0:MCode:=cm13_0g L13_0_0
theorem gm13_0:cm13_0.Good Pg E13_0 sh13:=⟨trivial,⟨trivial,⟨trivial,trivial⟩,trivial⟩,⟨trivial,g13_0_13,m13_0_0,trivial⟩,trivial,trivial⟩
theorem fm13_0g (a:Tf56_0)(c:Tf57_0)(b:TL13_0_0)(α:Type)(k:RT α):Fn13_0 (f13_0g b a) α k=pa13_0.unc fun ds=>fnM Pg (E13_0g a c) sh13 (cm13_0g b) rs13 k ds:=by kernel_rfl
theorem fm13_0:∀ (α:Type) (k:RT α),Fn13_0 f13_0 α k=pa13_0.unc fun ds=>fnM Pg E13_0 sh13 cm13_0 rs13 k ds:=fm13_0g f56_0 f57_0 L13_0_0
theorem is13:FnIs Pg 13 nt13 tr13 tl13 cm13_0.erase rs13:=⟨Tryz.f13,Tryz.func13,rfl,by kernel_rfl,by kernel_rfl,by kernel_rfl⟩
theorem io13_0:InstOk Pg 13 nt13 ⟨pa13_0,Fn13_0 f13_0⟩:=inst_ok eo13_0 followsTry is13 ⟨⟨sh13,cm13_0,by kernel_rfl,gm13_0,fm13_0⟩⟩
abbrev nt154:Nat:=17
def sh154:SG:=[(7,iS 2),(9,iS 2),(12,iT),(14,iT)]
def r154_2:LA:=[oO 2 (.box (.tmp 0)),oO 3 (.box (.tmp 1)),oO 4 (.alloc (zI 3)),mK 5 0]
def r154_4:LA:=[fA 6 0 2,lA 7 2 6,fA 8 0 3,lA 9 2 8,oO 10 (.call 155 [(.tmp 7),(.tmp 9)]),fA 11 2 2,lD 12 11,fA 13 2 3,lD 14 13,bT 15 .add 12 14,oO 16 (.build (zI 3) [(0,2,(.tmp 10)),(2,1,(.tmp 15))]),sD 3 4 16,mK 5 0]
def tr154:TG:=[tT 0 [2,3,4],tT 1 [4,5]]
def tl154:TG:=[]
def rs154:List AResV:=[.cell 4 true 3,.tmp 5]
def pr154_0_0:PT (List RV):=pRs [pR true [rD (dI .i64),rD (dI .i64),rD (dI .i64)],wI]
def ur154_0_0 {β:Type}(g:List RV->β):I4 β:=pr154_0_0.unc g
def E154_0g (a:Tf155_0):EnvK:=EnvK.of [⟨155,nt155,[⟨pa155_0,Fn155_0 a⟩]⟩] noSeq
def E154_0:EnvK:=E154_0g f155_0
theorem eo154_0:E154_0.Ok Pg:=EnvK.of_ok noSeq_ok ⟨⟨io155_0,trivial⟩,trivial⟩
abbrev Tf154_0:Type 1:=(α:Type)->Int->Int->Int->Int->Int->Int->(Int->Int->Int->Op α)->Op α
def f154_0g (a:Tf155_0)(α:Type)(b c d e g h:Int)(k1:Int->Int->Int->Op α):Op α:=
 a α b c e g
 (fun i j=>k1 i j (w64 (d+h)))
def f154_0 (α:Type)(a b c d e g:Int)(k1:Int->Int->Int->Op α):Op α:=f154_0g f155_0 α a b c d e g k1
def pa154_0:PT (List DV):=pA [pV true [(dI .i64),(dI .i64),(dI .i64)],pV true [(dI .i64),(dI .i64),(dI .i64)]]
def Fn154_0 (v:Tf154_0)(α:Type)(k:RT α):I6 (Op α):=fun a b c d e g=>v α a b c d e g (fun h i j=>ur154_0_0 k h i j 0)
def cm154_0g:MCode:=(.seq (.region r154_2 [] (tO [2,3,4])) (.seq (.region r154_4 [(4,6),(4,8)] (tO [4,5])) .ret))
def cm154_0:MCode:=cm154_0g
theorem gm154_0:cm154_0.Good Pg E154_0 sh154:=⟨trivial,trivial,trivial⟩
theorem fm154_0g (a:Tf155_0)(α:Type)(k:RT α):Fn154_0 (f154_0g a) α k=pa154_0.unc fun ds=>fnM Pg (E154_0g a) sh154 (cm154_0g ) rs154 k ds:=by kernel_rfl
theorem fm154_0:∀ (α:Type) (k:RT α),Fn154_0 f154_0 α k=pa154_0.unc fun ds=>fnM Pg E154_0 sh154 cm154_0 rs154 k ds:=fm154_0g f155_0
theorem is154:FnIs Pg 154 nt154 tr154 tl154 cm154_0.erase rs154:=⟨Tryz.f154,Tryz.func154,rfl,by kernel_rfl,by kernel_rfl,by kernel_rfl⟩
theorem io154_0:InstOk Pg 154 nt154 ⟨pa154_0,Fn154_0 f154_0⟩:=inst_ok eo154_0 followsTry is154 ⟨⟨sh154,cm154_0,by kernel_rfl,gm154_0,fm154_0⟩⟩
abbrev nt151:Nat:=15
def sh151:SG:=[]
def r151_2:LA:=[oO 4 (.mv (.const (.bool false)))]
def r151_5:LA:=[oM 5 1,bK 6 .eql 5 0]
def r151_7:LA:=[oM 7 0,oO 8 (.call 129 [.tmp 7]),oM 0 8]
def r151_9:LA:=[oM 9 1,bK 10 .lss 9 0]
def r151_11:LA:=[oM 11 0,oO 12 (.pure (oB (.unOp .neg 117 (.tmp 11)) 117)),oM 0 12]
def r151_13:LA:=[oM 13 0,oO 14 (.bin .gtr 117 (.tmp 13) (.const (.float Go.FloatKind.f64 9218868437227405311))),oM 4 14]
def tr151:TG:=[tT 0 [0,1],tT 1 [0,1,6],tT 2 [0],tT 3 [0,10],tT 4 [0],tT 5 [4]]
def tl151:TG:=[]
def rs151:List AResV:=[.tmp 4]
def pr151_0_0:PT (List RV):=pRs [pR false [rD dB]]
def ur151_0_0 {β:Type}(g:List RV->β):Bool->β:=pr151_0_0.unc g
def E151_0g (a:Tf129_0):EnvK:=EnvK.of [⟨129,nt129,[⟨pa129_0,Fn129_0 a⟩]⟩] noSeq
def E151_0:EnvK:=E151_0g f129_0
theorem eo151_0:E151_0.Ok Pg:=EnvK.of_ok noSeq_ok ⟨⟨io129_0,trivial⟩,trivial⟩
abbrev Tf151_0:Type 1:=(α:Type)->Nat->Int->(Bool->Op α)->Op α
def f151_0g (c:Tf129_0)(α:Type)(a:Nat)(b:Int)(k1:Bool->Op α):Op α:=
 cK (b == 0)
 (c α a
 (fun d=>k1 ((FloatKind.format .f64).order d 9218868437227405311 == some Ordering.gt)))
 (cK (decide (b < 0))
 (k1 ((FloatKind.format .f64).order (Op.negFloat .f64 a) 9218868437227405311 == some Ordering.gt))
 (k1 ((FloatKind.format .f64).order a 9218868437227405311 == some Ordering.gt)))
def f151_0 (α:Type)(a:Nat)(b:Int)(k1:Bool->Op α):Op α:=f151_0g f129_0 α a b k1
def pa151_0:PT (List DV):=pA [pV false [(dF .f64)],vI]
def Fn151_0 (v:Tf151_0)(α:Type)(k:RT α):Nat->Int->Op α:=fun a b=>v α a b (fun c=>ur151_0_0 k c)
def cm151_0g:MCode:=(.seq (.region r151_2 [] (tO [0,1])) (.seq (.seq (.region r151_5 [] (tO [0,1,6])) (.cond (.tmp 6) (.region r151_7 [] (tO [0])) (.seq (.region r151_9 [] (tO [0,10])) (.cond (.tmp 10) (.region r151_11 [] (tO [0])) .skip)))) (.seq (.region r151_13 [] (tO [4])) .ret)))
def cm151_0:MCode:=cm151_0g
theorem gm151_0:cm151_0.Good Pg E151_0 sh151:=⟨trivial,⟨trivial,trivial,trivial,trivial,trivial⟩,trivial,trivial⟩
theorem fm151_0g (a:Tf129_0)(α:Type)(k:RT α):Fn151_0 (f151_0g a) α k=pa151_0.unc fun ds=>fnM Pg (E151_0g a) sh151 (cm151_0g ) rs151 k ds:=by kernel_rfl
theorem fm151_0:∀ (α:Type) (k:RT α),Fn151_0 f151_0 α k=pa151_0.unc fun ds=>fnM Pg E151_0 sh151 cm151_0 rs151 k ds:=fm151_0g f129_0
theorem is151:FnIs Pg 151 nt151 tr151 tl151 cm151_0.erase rs151:=⟨Tryz.f151,Tryz.func151,rfl,by kernel_rfl,by kernel_rfl,by kernel_rfl⟩
theorem io151_0:InstOk Pg 151 nt151 ⟨pa151_0,Fn151_0 f151_0⟩:=inst_ok eo151_0 followsTry is151 ⟨⟨sh151,cm151_0,by kernel_rfl,gm151_0,fm151_0⟩⟩
abbrev nt117:Nat:=17
def sh117:SG:=[]
def r117_2:LA:=[mK 4 0,oO 5 (.mv (.const (.bool false)))]
def r117_4:LA:=[oM 6 0,oO 7 (.bin .mul 3 (kI 2) (.tmp 6)),oM 8 1,bT 9 .add 7 8,oM 10 1,oO 11 (.bin .mul 3 (kI 2) (.tmp 10)),oO 12 (.call 139 [(.tmp 9),(.tmp 11)]),oM 13 0,oM 14 1,bT 15 .rem 13 14,bK 16 .neq 15 0,oM 4 12,oM 5 16]
def tr117:TG:=[tT 0 [0,1],tT 1 [4,5]]
def tl117:TG:=[]
def rs117:List AResV:=[.tmp 4,.tmp 5]
def pr117_0_0:PT (List RV):=pRs [wI,pR false [rD dB]]
def ur117_0_0 {β:Type}(g:List RV->β):Int->Bool->β:=pr117_0_0.unc g
def E117_0g (a:Tf139_0):EnvK:=EnvK.of [⟨139,nt139,[⟨pa139_0,Fn139_0 a⟩]⟩] noSeq
def E117_0:EnvK:=E117_0g f139_0
theorem eo117_0:E117_0.Ok Pg:=EnvK.of_ok noSeq_ok ⟨⟨io139_0,trivial⟩,trivial⟩
abbrev Tf117_0:Type 1:=(α:Type)->Int->Int->(Int->Bool->Op α)->Op α
def f117_0g (c:Tf139_0)(α:Type)(b a:Int)(k1:Int->Bool->Op α):Op α:=
 c α (w64 ((w64 (2*b))+a)) (w64 (2*a))
 (fun d=>gK (a != 0) (k1 d ((Int.tmod b a) != 0)))
def f117_0 (α:Type)(a b:Int)(k1:Int->Bool->Op α):Op α:=f117_0g f139_0 α a b k1
def pa117_0:PT (List DV):=pA [vI,vI]
def Fn117_0 (v:Tf117_0)(α:Type)(k:RT α):Int->Int->Op α:=fun a b=>v α a b (fun c d=>ur117_0_0 k c d)
def cm117_0g:MCode:=(.seq (.region r117_2 [] (tO [0,1])) (.seq (.region r117_4 [] (tO [4,5])) .ret))
def cm117_0:MCode:=cm117_0g
theorem gm117_0:cm117_0.Good Pg E117_0 sh117:=⟨trivial,trivial,trivial⟩
theorem fm117_0g (a:Tf139_0)(α:Type)(k:RT α):Fn117_0 (f117_0g a) α k=pa117_0.unc fun ds=>fnM Pg (E117_0g a) sh117 (cm117_0g ) rs117 k ds:=by kernel_rfl
theorem fm117_0:∀ (α:Type) (k:RT α),Fn117_0 f117_0 α k=pa117_0.unc fun ds=>fnM Pg E117_0 sh117 cm117_0 rs117 k ds:=fm117_0g f139_0
theorem is117:FnIs Pg 117 nt117 tr117 tl117 cm117_0.erase rs117:=⟨Tryz.f117,Tryz.func117,rfl,by kernel_rfl,by kernel_rfl,by kernel_rfl⟩
theorem io117_0:InstOk Pg 117 nt117 ⟨pa117_0,Fn117_0 f117_0⟩:=inst_ok eo117_0 followsTry is117 ⟨⟨sh117,cm117_0,by kernel_rfl,gm117_0,fm117_0⟩⟩
abbrev nt118:Nat:=10
def sh118:SG:=[]
def r118_2:LA:=[mK 4 0]
def r118_4:LA:=[oM 5 0,oO 6 (.pure (oB (.unOp .neg 3 (.tmp 5)) 3)),oM 7 1,oO 8 (.call 139 [(.tmp 6),(.tmp 7)]),oO 9 (.pure (oB (.unOp .neg 3 (.tmp 8)) 3)),oM 4 9]
def tr118:TG:=[tT 0 [0,1],tT 1 [4]]
def tl118:TG:=[]
def rs118:List AResV:=[.tmp 4]
def pr118_0_0:PT (List RV):=pRs [wI]
def ur118_0_0 {β:Type}(g:List RV->β):Int->β:=pr118_0_0.unc g
def E118_0g (a:Tf139_0):EnvK:=EnvK.of [⟨139,nt139,[⟨pa139_0,Fn139_0 a⟩]⟩] noSeq
def E118_0:EnvK:=E118_0g f139_0
theorem eo118_0:E118_0.Ok Pg:=EnvK.of_ok noSeq_ok ⟨⟨io139_0,trivial⟩,trivial⟩
abbrev Tf118_0:Type 1:=(α:Type)->Int->Int->(Int->Op α)->Op α
def f118_0g (a:Tf139_0)(α:Type)(b c:Int)(k1:Int->Op α):Op α:=
 a α (w64 (0 - b)) c
 (fun d=>k1 (w64 (0 - d)))
def f118_0 (α:Type)(a b:Int)(k1:Int->Op α):Op α:=f118_0g f139_0 α a b k1
def pa118_0:PT (List DV):=pA [vI,vI]
def Fn118_0 (v:Tf118_0)(α:Type)(k:RT α):Int->Int->Op α:=fun a b=>v α a b (fun c=>ur118_0_0 k c)
def cm118_0g:MCode:=(.seq (.region r118_2 [] (tO [0,1])) (.seq (.region r118_4 [] (tO [4])) .ret))
def cm118_0:MCode:=cm118_0g
theorem gm118_0:cm118_0.Good Pg E118_0 sh118:=⟨trivial,trivial,trivial⟩
theorem fm118_0g (a:Tf139_0)(α:Type)(k:RT α):Fn118_0 (f118_0g a) α k=pa118_0.unc fun ds=>fnM Pg (E118_0g a) sh118 (cm118_0g ) rs118 k ds:=by kernel_rfl
theorem fm118_0:∀ (α:Type) (k:RT α),Fn118_0 f118_0 α k=pa118_0.unc fun ds=>fnM Pg E118_0 sh118 cm118_0 rs118 k ds:=fm118_0g f139_0
theorem is118:FnIs Pg 118 nt118 tr118 tl118 cm118_0.erase rs118:=⟨Tryz.f118,Tryz.func118,rfl,by kernel_rfl,by kernel_rfl,by kernel_rfl⟩
theorem io118_0:InstOk Pg 118 nt118 ⟨pa118_0,Fn118_0 f118_0⟩:=inst_ok eo118_0 followsTry is118 ⟨⟨sh118,cm118_0,by kernel_rfl,gm118_0,fm118_0⟩⟩
abbrev nt137:Nat:=10
def sh137:SG:=[]
def r137_2:LA:=[oO 4 (.mv (.const (.bool false)))]
def r137_4:LA:=[oM 5 0,oM 6 1,oO 7 (.pure (oB (.unOp .neg 3 (.tmp 6)) 3)),oM 8 1,oO 9 (.call 127 [(.tmp 5),(.tmp 7),(.tmp 8)]),oM 4 9]
def tr137:TG:=[tT 0 [0,1],tT 1 [4]]
def tl137:TG:=[]
def rs137:List AResV:=[.tmp 4]
def pr137_0_0:PT (List RV):=pRs [pR false [rD dB]]
def ur137_0_0 {β:Type}(g:List RV->β):Bool->β:=pr137_0_0.unc g
def E137_0g (a:Tf127_0):EnvK:=EnvK.of [⟨127,nt127,[⟨pa127_0,Fn127_0 a⟩]⟩] noSeq
def E137_0:EnvK:=E137_0g f127_0
theorem eo137_0:E137_0.Ok Pg:=EnvK.of_ok noSeq_ok ⟨⟨io127_0,trivial⟩,trivial⟩
abbrev Tf137_0:Type 1:=(α:Type)->Int->Int->(Bool->Op α)->Op α
def f137_0g (b:Tf127_0)(α:Type)(c a:Int)(k1:Bool->Op α):Op α:=
 b α c (w64 (0 - a)) a
 (fun d=>k1 d)
def f137_0 (α:Type)(a b:Int)(k1:Bool->Op α):Op α:=f137_0g f127_0 α a b k1
def pa137_0:PT (List DV):=pA [vI,vI]
def Fn137_0 (v:Tf137_0)(α:Type)(k:RT α):Int->Int->Op α:=fun a b=>v α a b (fun c=>ur137_0_0 k c)
def cm137_0g:MCode:=(.seq (.region r137_2 [] (tO [0,1])) (.seq (.region r137_4 [] (tO [4])) .ret))
def cm137_0:MCode:=cm137_0g
theorem gm137_0:cm137_0.Good Pg E137_0 sh137:=⟨trivial,trivial,trivial⟩
theorem fm137_0g (a:Tf127_0)(α:Type)(k:RT α):Fn137_0 (f137_0g a) α k=pa137_0.unc fun ds=>fnM Pg (E137_0g a) sh137 (cm137_0g ) rs137 k ds:=by kernel_rfl
theorem fm137_0:∀ (α:Type) (k:RT α),Fn137_0 f137_0 α k=pa137_0.unc fun ds=>fnM Pg E137_0 sh137 cm137_0 rs137 k ds:=fm137_0g f127_0
theorem is137:FnIs Pg 137 nt137 tr137 tl137 cm137_0.erase rs137:=⟨Tryz.f137,Tryz.func137,rfl,by kernel_rfl,by kernel_rfl,by kernel_rfl⟩
theorem io137_0:InstOk Pg 137 nt137 ⟨pa137_0,Fn137_0 f137_0⟩:=inst_ok eo137_0 followsTry is137 ⟨⟨sh137,cm137_0,by kernel_rfl,gm137_0,fm137_0⟩⟩
abbrev nt50:Nat:=13
def sh50:SG:=[]
def r50_2:LA:=[mK 2 0]
def r50_5:LA:=[oM 3 0,oO 4 (.call 51 [(.tmp 3),(kI 2),(kI 32)]),oO 5 (.pure (oB (.unOp .not 4 (.tmp 4)) 4)),oM 6 5,oG 7 (.mv (.tmp 0)) 6 false,oG 8 (.mv (.tmp 0)) 6 false,oG 9 (.bin .sub 3 (.tmp 8) (kI 1)) 6 false,oG 10 (.bin .and 3 (.tmp 7) (.tmp 9)) 6 false,oG 11 (.bin .neq 3 (.tmp 10) (kI 0)) 6 false,oO 12 (.pick (.tmp 6) (.const (.bool true)) (.tmp 11))]
def r50_8:LA:=[mK 2 12]
def r50_10:LA:=[mK 2 0]
def tr50:TG:=[tT 0 [0],tT 1 [12],tT 2 [2],tT 3 [2]]
def tl50:TG:=[]
def rs50:List AResV:=[.tmp 2]
def pr50_0_0:PT (List RV):=pRs [wI]
def ur50_0_0 {β:Type}(g:List RV->β):Int->β:=pr50_0_0.unc g
def E50_0g (a:Tf51_0):EnvK:=EnvK.of [⟨51,nt51,[⟨pa51_0,Fn51_0 a⟩]⟩] noSeq
def E50_0:EnvK:=E50_0g f51_0
theorem eo50_0:E50_0.Ok Pg:=EnvK.of_ok noSeq_ok ⟨⟨io51_0,trivial⟩,trivial⟩
abbrev Tf50_0:Type 1:=(α:Type)->Int->(Int->Op α)->Op α
def f50_0g (b:Tf51_0)(α:Type)(a:Int)(k1:Int->Op α):Op α:=
 b α a 2 32
 (fun c=>cK (!c)
 (k1 12)
 (cK ((iAnd .i64 a (w64 (a - 1))) != 0)
 (k1 12)
 (k1 0)))
def f50_0 (α:Type)(a:Int)(k1:Int->Op α):Op α:=f50_0g f51_0 α a k1
def pa50_0:PT (List DV):=pA [vI]
def Fn50_0 (v:Tf50_0)(α:Type)(k:RT α):Int->Op α:=fun a=>v α a (fun b=>ur50_0_0 k b)
def cm50_0g:MCode:=(.seq (.region r50_2 [] (tO [0])) (.seq (.seq (.region r50_5 [] (tO [12])) (.cond (.tmp 12) (.seq (.region r50_8 [] (tO [2])) .ret) .skip)) (.seq (.region r50_10 [] (tO [2])) .ret)))
def cm50_0:MCode:=cm50_0g
theorem gm50_0:cm50_0.Good Pg E50_0 sh50:=⟨trivial,⟨trivial,⟨trivial,trivial⟩,trivial⟩,trivial,trivial⟩
theorem fm50_0g (a:Tf51_0)(α:Type)(k:RT α):Fn50_0 (f50_0g a) α k=pa50_0.unc fun ds=>fnM Pg (E50_0g a) sh50 (cm50_0g ) rs50 k ds:=by kernel_rfl
theorem fm50_0:∀ (α:Type) (k:RT α),Fn50_0 f50_0 α k=pa50_0.unc fun ds=>fnM Pg E50_0 sh50 cm50_0 rs50 k ds:=fm50_0g f51_0
theorem is50:FnIs Pg 50 nt50 tr50 tl50 cm50_0.erase rs50:=⟨Tryz.f50,Tryz.func50,rfl,by kernel_rfl,by kernel_rfl,by kernel_rfl⟩
theorem io50_0:InstOk Pg 50 nt50 ⟨pa50_0,Fn50_0 f50_0⟩:=inst_ok eo50_0 followsTry is50 ⟨⟨sh50,cm50_0,by kernel_rfl,gm50_0,fm50_0⟩⟩
abbrev nt98:Nat:=15
def sh98:SG:=[(6,iS 2),(8,iS 2),(10,iT),(12,iT)]
def r98_2:LA:=[oO 2 (.box (.tmp 0)),oO 3 (.box (.tmp 1)),oO 4 (.mv (.const (.bool false)))]
def r98_4:LA:=[fA 5 0 2,lA 6 2 5,fA 7 0 3,lA 8 2 7,fA 9 2 2,lD 10 9,fA 11 2 3,lD 12 11,bT 13 .add 10 12,oO 14 (.call 96 [(.tmp 6),(.tmp 8),(.tmp 13)]),oM 4 14]
def tr98:TG:=[tT 0 [2,3],tT 1 [4]]
def tl98:TG:=[]
def rs98:List AResV:=[.tmp 4]
def pr98_0_0:PT (List RV):=pRs [pR false [rD dB]]
def ur98_0_0 {β:Type}(g:List RV->β):Bool->β:=pr98_0_0.unc g
def E98_0g (a:Tf96_0):EnvK:=EnvK.of [⟨96,nt96,[⟨pa96_0,Fn96_0 a⟩]⟩] noSeq
def E98_0:EnvK:=E98_0g f96_0
theorem eo98_0:E98_0.Ok Pg:=EnvK.of_ok noSeq_ok ⟨⟨io96_0,trivial⟩,trivial⟩
abbrev Tf98_0:Type 1:=(α:Type)->Int->Int->Int->Int->Int->Int->(Bool->Op α)->Op α
def f98_0g (a:Tf96_0)(α:Type)(b c d e g h:Int)(k1:Bool->Op α):Op α:=
 a α b c e g (w64 (d+h))
 (fun i=>k1 i)
def f98_0 (α:Type)(a b c d e g:Int)(k1:Bool->Op α):Op α:=f98_0g f96_0 α a b c d e g k1
def pa98_0:PT (List DV):=pA [pV true [(dI .i64),(dI .i64),(dI .i64)],pV true [(dI .i64),(dI .i64),(dI .i64)]]
def Fn98_0 (v:Tf98_0)(α:Type)(k:RT α):I6 (Op α):=fun a b c d e g=>v α a b c d e g (fun h=>ur98_0_0 k h)
def cm98_0g:MCode:=(.seq (.region r98_2 [] (tO [2,3])) (.seq (.region r98_4 [] (tO [4])) .ret))
def cm98_0:MCode:=cm98_0g
theorem gm98_0:cm98_0.Good Pg E98_0 sh98:=⟨trivial,trivial,trivial⟩
theorem fm98_0g (a:Tf96_0)(α:Type)(k:RT α):Fn98_0 (f98_0g a) α k=pa98_0.unc fun ds=>fnM Pg (E98_0g a) sh98 (cm98_0g ) rs98 k ds:=by kernel_rfl
theorem fm98_0:∀ (α:Type) (k:RT α),Fn98_0 f98_0 α k=pa98_0.unc fun ds=>fnM Pg E98_0 sh98 cm98_0 rs98 k ds:=fm98_0g f96_0
theorem is98:FnIs Pg 98 nt98 tr98 tl98 cm98_0.erase rs98:=⟨Tryz.f98,Tryz.func98,rfl,by kernel_rfl,by kernel_rfl,by kernel_rfl⟩
theorem io98_0:InstOk Pg 98 nt98 ⟨pa98_0,Fn98_0 f98_0⟩:=inst_ok eo98_0 followsTry is98 ⟨⟨sh98,cm98_0,by kernel_rfl,gm98_0,fm98_0⟩⟩
abbrev nt83:Nat:=50
def sh83:SG:=[(9,[.cpx .f64]),(15,[.cpx .f64]),(20,iS 2),(23,iS 2),(28,iT),(34,iT),(40,iT),(46,iT),(49,[.cpx .f64,.int .i64])]
def r83_2:LA:=[oO 2 (.box (.tmp 0)),oO 4 (.alloc [(.d (.v (.complex Go.FloatKind.f64 0 0))),(cI 0)])]
def r83_4:LA:=[fA 8 0 2,lD 9 8,oO 10 (.pure (oB (.call { callee:=.builtin .real,args:=#[(.tmp 9)],argTypes:=#[43] }) 117)),oO 11 (.pure (oB (.convert 117 3 (.tmp 10)) 3)),oM 12 1,oO 13 (.build [(cI 0),(cI 0)] [(0,1,(.tmp 11)),(1,1,(.tmp 12))]),fA 14 0 2,lD 15 14,oO 16 (.pure (oB (.call { callee:=.builtin .imag,args:=#[(.tmp 15)],argTypes:=#[43] }) 117)),oO 17 (.pure (oB (.convert 117 3 (.tmp 16)) 3)),oM 18 1,oO 19 (.build [(cI 0),(cI 0)] [(0,1,(.tmp 17)),(1,1,(.tmp 18))]),oO 5 (.alloc [(cI 0),(cI 0)]),oO 6 (.alloc [(cI 0),(cI 0)]),sD 2 5 13,sD 2 6 19]
def r83_6:LA:=[lA 20 2 5,oO 21 (.call 63 [.tmp 20]),oO 22 (.pure (oB (.convert 3 117 (.tmp 21)) 117)),lA 23 2 6,oO 24 (.call 63 [.tmp 23]),oO 25 (.pure (oB (.convert 3 117 (.tmp 24)) 117)),oO 26 (.pure (oB (.call { callee:=.builtin .complex,args:=#[(.tmp 22),(.tmp 25)],argTypes:=#[117,117] }) 43)),fA 27 1 2,lD 28 27,oM 29 1,oO 30 (.build [(cI 0),(cI 0)] [(0,1,(.tmp 28)),(1,1,(.tmp 29))]),oO 31 (.call 109 [.tmp 30]),oO 32 (.build [(.d (.v (.complex Go.FloatKind.f64 0 0))),(cI 0)] [(0,1,(.tmp 26)),(1,1,(.tmp 31))]),oO 7 (.alloc [(.d (.v (.complex Go.FloatKind.f64 0 0))),(cI 0)]),sD 2 7 32]
def r83_9:LA:=[fA 33 0 5,lD 34 33,oM 35 1,bT 36 .rem 34 35,bK 37 .neq 36 0,oM 38 37,oG 39 (.faddr 0 (.tmp 6)) 38 false,oG 40 (.load false 1 (.tmp 39)) 38 false,oG 41 (.mv (.tmp 1)) 38 false,oG 42 (.bin .rem 3 (.tmp 40) (.tmp 41)) 38 false,oG 43 (.bin .neq 3 (.tmp 42) (kI 0)) 38 false,oO 44 (.pick (.tmp 38) (.const (.bool true)) (.tmp 43))]
def r83_11:LA:=[fA 45 1 7,lD 46 45,bK 47 .add 46 1,fA 48 1 7,sD 1 48 47]
def r83_13:LA:=[lA 49 2 7,sD 2 4 49]
def tr83:TG:=[tT 0 [1,2,4],tT 1 [1,2,4,5,6],tT 2 [1,4,5,6,7],tT 3 [4,7,44],tT 4 [4,7],tT 5 [4]]
def tl83:TG:=[]
def rs83:List AResV:=[.cell 4 true 2]
def p83_0_0:PT St:=pS [sI 1,sP 4,sP 5,sP 6,sP 7] [eBox 4 [(cD (dX .f64)),xI],eBox 5 [xI,xI],eBox 6 [xI,xI],eBox 7 [(cD (dX .f64)),xI]]
def u83_0_0 {β:Type}(g:St->β):Int->Nat->Nat->Int->Int->Int->Int->Int->Nat->Nat->Int->β:=p83_0_0.unc g
def p83_0_1:PT St:=pS [sP 4,sP 7,sl 44 (aV false [(cD dB)])] [eBox 4 [(cD (dX .f64)),xI],eBox 7 [(cD (dX .f64)),xI]]
def u83_0_1 {β:Type}(g:St->β):Bool->Nat->Nat->Int->Nat->Nat->Int->β:=p83_0_1.unc g
def pr83_0_0:PT (List RV):=pRs [pR true [rD (dX .f64),rD (dI .i64)]]
def ur83_0_0 {β:Type}(g:List RV->β):Nat->Nat->Int->β:=pr83_0_0.unc g
def E83_0g (a:Tf63_0)(b:Tf109_0):EnvK:=EnvK.of [⟨63,nt63,[⟨pa63_0,Fn63_0 a⟩]⟩,⟨109,nt109,[⟨pa109_0,Fn109_0 b⟩]⟩] noSeq
def E83_0:EnvK:=E83_0g f63_0 f109_0
theorem eo83_0:E83_0.Ok Pg:=EnvK.of_ok noSeq_ok ⟨⟨io63_0,trivial⟩,⟨io109_0,trivial⟩,trivial⟩
def c83_0_8g:MCode:=(.region r83_9 [] (tO [4,7,44]))
def c83_0_8:MCode:=c83_0_8g
theorem g83_0_8:c83_0_8.Good Pg E83_0 sh83:=trivial
abbrev TJ83_0_0:Type 1:=(α:Type)->Int->Int->Int->(Bool->Op α)->Op α
def J83_0_0g (α:Type)(a b c:Int)(k1:Bool->Op α):Op α:=
 gK (a != 0) (cK ((Int.tmod b a) != 0)
 (k1 true)
 (gK (a != 0) (k1 ((Int.tmod c a) != 0))))
def J83_0_0 (α:Type)(a b c:Int)(k1:Bool->Op α):Op α:=J83_0_0g α a b c k1
def F83_0_0 (v:TJ83_0_0)(α:Type)(K:KT α):Int->Nat->Nat->Int->Int->Int->Int->Int->Nat->Nat->Int->Op α:=fun a b c d e m g o h i j=>v α a e g (fun l=>u83_0_1 (K .normal) l b c d h i j)
theorem m83_0_0g (a:Tf63_0)(b:Tf109_0)(α:Type)(K:KT α):F83_0_0 (J83_0_0g ) α K=p83_0_0.unc fun σ=>runM Pg (E83_0g a b) sh83 (c83_0_8g ) K σ:=by kernel_rfl
theorem m83_0_0:∀ (α:Type) (K:KT α),F83_0_0 J83_0_0 α K=p83_0_0.unc fun σ=>runM Pg E83_0 sh83 c83_0_8 K σ:=m83_0_0g f63_0 f109_0
abbrev Tf83_0:Type 1:=(α:Type)->Nat->Nat->Int->Int->(Nat->Nat->Int->Op α)->Op α
def f83_0g (i:TJ83_0_0)(j:Tf109_0)(b:Tf63_0)(α:Type)(l m:Nat)(o a:Int)(k1:Nat->Nat->Int->Op α):Op α:=
 ivK (f2i .f64 l .i64)
 (fun c=>ivK (f2i .f64 m .i64)
 (fun d=>b α c a
 (fun e=>b α d a
 (fun g=>j α o a
 (fun h=>i α a c d
 (fun p=>cK p
 (k1 (FloatKind.nearest .f64 e) (FloatKind.nearest .f64 g) (w64 (h+1)))
 (k1 (FloatKind.nearest .f64 e) (FloatKind.nearest .f64 g) h)))))))
def f83_0 (α:Type)(a b:Nat)(c d:Int)(k1:Nat->Nat->Int->Op α):Op α:=f83_0g J83_0_0 f109_0 f63_0 α a b c d k1
def pa83_0:PT (List DV):=pA [pV true [(dX .f64),(dI .i64)],vI]
def Fn83_0 (v:Tf83_0)(α:Type)(k:RT α):Nat->Nat->Int->Int->Op α:=fun a b c d=>v α a b c d (fun e g h=>ur83_0_0 k e g h)
def cm83_0g (a:TJ83_0_0):MCode:=(.seq (.region r83_2 [] (tO [1,2,4])) (.seq (.region r83_4 [(1,12),(7,12),(1,13),(7,13),(12,13),(7,14)] (tO [1,2,4,5,6])) (.seq (.region r83_6 [(1,3),(1,8),(4,8),(0,13),(1,13),(3,13),(4,13),(8,13),(11,13)] (tO [1,4,5,6,7])) (.seq (.seq (.mark [⟨p83_0_0,F83_0_0 a⟩] c83_0_8) (.cond (.tmp 44) (.region r83_11 [] (tO [4,7])) .skip)) (.seq (.region r83_13 [] (tO [4])) .ret)))))
def cm83_0:MCode:=cm83_0g J83_0_0
theorem gm83_0:cm83_0.Good Pg E83_0 sh83:=⟨trivial,trivial,trivial,⟨⟨g83_0_8,m83_0_0,trivial⟩,trivial,trivial⟩,trivial,trivial⟩
theorem fm83_0g (a:Tf63_0)(b:Tf109_0)(c:TJ83_0_0)(α:Type)(k:RT α):Fn83_0 (f83_0g c b a) α k=pa83_0.unc fun ds=>fnM Pg (E83_0g a b) sh83 (cm83_0g c) rs83 k ds:=by kernel_rfl
theorem fm83_0:∀ (α:Type) (k:RT α),Fn83_0 f83_0 α k=pa83_0.unc fun ds=>fnM Pg E83_0 sh83 cm83_0 rs83 k ds:=fm83_0g f63_0 f109_0 J83_0_0
theorem is83:FnIs Pg 83 nt83 tr83 tl83 cm83_0.erase rs83:=⟨Tryz.f83,Tryz.func83,rfl,by kernel_rfl,by kernel_rfl,by kernel_rfl⟩
theorem io83_0:InstOk Pg 83 nt83 ⟨pa83_0,Fn83_0 f83_0⟩:=inst_ok eo83_0 followsTry is83 ⟨⟨sh83,cm83_0,by kernel_rfl,gm83_0,fm83_0⟩⟩
abbrev nt146:Nat:=14
def sh146:SG:=[]
def r146_2:LA:=[mK 2 0]
def r146_4:LA:=[oM 4 0,oO 5 (.call 160 [.tmp 4]),oM 3 5]
def r146_7:LA:=[oM 6 3,oM 7 3,bT 8 .mul 6 7,oM 9 0,bT 10 .lss 8 9]
def r146_9:LA:=[oM 11 3,bK 12 .add 11 1,oM 3 12]
def r146_11:LA:=[oM 13 3,oM 2 13]
def tr146:TG:=[tT 0 [0],tT 1 [0,3],tT 2 [3,10],tT 3 [3],tT 4 [2]]
def tl146:TG:=[]
def rs146:List AResV:=[.tmp 2]
def pr146_0_0:PT (List RV):=pRs [wI]
def ur146_0_0 {β:Type}(g:List RV->β):Int->β:=pr146_0_0.unc g
def E146_0g (a:Tf160_0):EnvK:=EnvK.of [⟨160,nt160,[⟨pa160_0,Fn160_0 a⟩]⟩] noSeq
def E146_0:EnvK:=E146_0g f160_0
theorem eo146_0:E146_0.Ok Pg:=EnvK.of_ok noSeq_ok ⟨⟨io160_0,trivial⟩,trivial⟩
abbrev Tf146_0:Type 1:=(α:Type)->Int->(Int->Op α)->Op α
def f146_0g (c:Tf160_0)(α:Type)(b:Int)(k1:Int->Op α):Op α:=
 c α b
 (fun a=>cK (decide ((w64 (a*a)) < b))
 (k1 (w64 (a+1)))
 (k1 a))
def f146_0 (α:Type)(a:Int)(k1:Int->Op α):Op α:=f146_0g f160_0 α a k1
def pa146_0:PT (List DV):=pA [vI]
def Fn146_0 (v:Tf146_0)(α:Type)(k:RT α):Int->Op α:=fun a=>v α a (fun b=>ur146_0_0 k b)
def cm146_0g:MCode:=(.seq (.region r146_2 [] (tO [0])) (.seq (.region r146_4 [] (tO [0,3])) (.seq (.seq (.region r146_7 [] (tO [3,10])) (.cond (.tmp 10) (.region r146_9 [] (tO [3])) .skip)) (.seq (.region r146_11 [] (tO [2])) .ret))))
def cm146_0:MCode:=cm146_0g
theorem gm146_0:cm146_0.Good Pg E146_0 sh146:=⟨trivial,trivial,⟨trivial,trivial,trivial⟩,trivial,trivial⟩
theorem fm146_0g (a:Tf160_0)(α:Type)(k:RT α):Fn146_0 (f146_0g a) α k=pa146_0.unc fun ds=>fnM Pg (E146_0g a) sh146 (cm146_0g ) rs146 k ds:=by kernel_rfl
theorem fm146_0:∀ (α:Type) (k:RT α),Fn146_0 f146_0 α k=pa146_0.unc fun ds=>fnM Pg E146_0 sh146 cm146_0 rs146 k ds:=fm146_0g f160_0
theorem is146:FnIs Pg 146 nt146 tr146 tl146 cm146_0.erase rs146:=⟨Tryz.f146,Tryz.func146,rfl,by kernel_rfl,by kernel_rfl,by kernel_rfl⟩
theorem io146_0:InstOk Pg 146 nt146 ⟨pa146_0,Fn146_0 f146_0⟩:=inst_ok eo146_0 followsTry is146 ⟨⟨sh146,cm146_0,by kernel_rfl,gm146_0,fm146_0⟩⟩
abbrev nt128:Nat:=12
def sh128:SG:=[]
def r128_2:LA:=[oO 2 (.mv (.const (.bool false)))]
def r128_4:LA:=[oM 3 0,oO 4 (.call 150 [.tmp 3]),oM 5 0,oO 6 (.bin .eql 117 (.tmp 4) (.tmp 5)),oM 7 6,oG 8 (.mv (.tmp 0)) 7 true,oG 9 (.call 151 [(.tmp 8),(kI 0)]) 7 true,oG 10 (.pure (oB (.unOp .not 4 (.tmp 9)) 4)) 7 true,oO 11 (.pick (.tmp 7) (.tmp 10) (.const (.bool false))),oM 2 11]
def tr128:TG:=[tT 0 [0],tT 1 [2]]
def tl128:TG:=[]
def rs128:List AResV:=[.tmp 2]
def pr128_0_0:PT (List RV):=pRs [pR false [rD dB]]
def ur128_0_0 {β:Type}(g:List RV->β):Bool->β:=pr128_0_0.unc g
def E128_0g (a:Tf150_0)(b:Tf151_0):EnvK:=EnvK.of [⟨150,nt150,[⟨pa150_0,Fn150_0 a⟩]⟩,⟨151,nt151,[⟨pa151_0,Fn151_0 b⟩]⟩] noSeq
def E128_0:EnvK:=E128_0g f150_0 f151_0
theorem eo128_0:E128_0.Ok Pg:=EnvK.of_ok noSeq_ok ⟨⟨io150_0,trivial⟩,⟨io151_0,trivial⟩,trivial⟩
abbrev Tf128_0:Type 1:=(α:Type)->Nat->(Bool->Op α)->Op α
def f128_0g (b:Tf150_0)(c:Tf151_0)(α:Type)(a:Nat)(k1:Bool->Op α):Op α:=
 b α a
 (k1 false)
 (fun d=>cK ((FloatKind.format .f64).order d a == some Ordering.eq)
 (c α a 0
 (fun e=>k1 (!e)))
 (k1 false))
def f128_0 (α:Type)(a:Nat)(k1:Bool->Op α):Op α:=f128_0g f150_0 f151_0 α a k1
def pa128_0:PT (List DV):=pA [pV false [(dF .f64)]]
def Fn128_0 (v:Tf128_0)(α:Type)(k:RT α):Nat->Op α:=fun a=>v α a (fun b=>ur128_0_0 k b)
def cm128_0g:MCode:=(.seq (.region r128_2 [] (tO [0])) (.seq (.region r128_4 [] (tO [2])) .ret))
def cm128_0:MCode:=cm128_0g
theorem gm128_0:cm128_0.Good Pg E128_0 sh128:=⟨trivial,trivial,trivial⟩
theorem fm128_0g (a:Tf150_0)(b:Tf151_0)(α:Type)(k:RT α):Fn128_0 (f128_0g a b) α k=pa128_0.unc fun ds=>fnM Pg (E128_0g a b) sh128 (cm128_0g ) rs128 k ds:=by kernel_rfl
theorem fm128_0:∀ (α:Type) (k:RT α),Fn128_0 f128_0 α k=pa128_0.unc fun ds=>fnM Pg E128_0 sh128 cm128_0 rs128 k ds:=fm128_0g f150_0 f151_0
theorem is128:FnIs Pg 128 nt128 tr128 tl128 cm128_0.erase rs128:=⟨Tryz.f128,Tryz.func128,rfl,by kernel_rfl,by kernel_rfl,by kernel_rfl⟩
theorem io128_0:InstOk Pg 128 nt128 ⟨pa128_0,Fn128_0 f128_0⟩:=inst_ok eo128_0 followsTry is128 ⟨⟨sh128,cm128_0,by kernel_rfl,gm128_0,fm128_0⟩⟩
abbrev nt157:Nat:=29
def sh157:SG:=[(6,iT),(12,iT),(18,iT),(24,iS 2),(27,iT)]
def r157_2:LA:=[oO 1 (.box (.tmp 0)),oO 2 (.alloc [(.d (.v (.complex Go.FloatKind.f64 0 0))),(cI 0)]),mK 3 0]
def r157_5:LA:=[fA 4 0 1,fA 5 0 4,lD 6 5,oO 7 (.call 137 [(.tmp 6),(kI 67108864)]),oO 8 (.pure (oB (.unOp .not 4 (.tmp 7)) 4)),oM 9 8,oG 10 (.faddr 0 (.tmp 1)) 9 false,oG 11 (.faddr 1 (.tmp 10)) 9 false,oG 12 (.load false 1 (.tmp 11)) 9 false,oG 13 (.call 137 [(.tmp 12),(kI 67108864)]) 9 false,oG 14 (.pure (oB (.unOp .not 4 (.tmp 13)) 4)) 9 false,oO 15 (.pick (.tmp 9) (.const (.bool true)) (.tmp 14)),oM 16 15,oG 17 (.faddr 2 (.tmp 1)) 16 false,oG 18 (.load false 1 (.tmp 17)) 16 false,oG 19 (.call 127 [(.tmp 18),(kI 0),(kI 67108864)]) 16 false,oG 20 (.pure (oB (.unOp .not 4 (.tmp 19)) 4)) 16 false,oO 21 (.pick (.tmp 16) (.const (.bool true)) (.tmp 20))]
def r157_8:LA:=[oO 22 (.build [(.d (.v (.complex Go.FloatKind.f64 0 0))),(cI 0)] []),sD 2 2 22,mK 3 8]
def r157_10:LA:=[fA 23 0 1,lA 24 2 23,oO 25 (.call 166 [.tmp 24]),fA 26 2 1,lD 27 26,oO 28 (.build [(.d (.v (.complex Go.FloatKind.f64 0 0))),(cI 0)] [(0,1,(.tmp 25)),(1,1,(.tmp 27))]),sD 2 2 28,mK 3 0]
def tr157:TG:=[tT 0 [1,2],tT 1 [1,2,21],tT 2 [2,3],tT 3 [2,3]]
def tl157:TG:=[]
def rs157:List AResV:=[.cell 2 true 2,.tmp 3]
def p157_0_0:PT St:=pS [sP 1,sP 2] [eBox 1 (xs 3),eBox 2 [(cD (dX .f64)),xI]]
def u157_0_0 {β:Type}(g:St->β):Int->Int->Int->Nat->Nat->Int->β:=p157_0_0.unc g
def p157_0_1:PT St:=pS [sP 1,sP 2,sl 21 (aV false [(cD dB)])] [eBox 1 (xs 3),eBox 2 [(cD (dX .f64)),xI]]
def u157_0_1 {β:Type}(g:St->β):Bool->Int->Int->Int->Nat->Nat->Int->β:=p157_0_1.unc g
def pr157_0_0:PT (List RV):=pRs [pR true [rD (dX .f64),rD (dI .i64)],wI]
def ur157_0_0 {β:Type}(g:List RV->β):Nat->Nat->Int->Int->β:=pr157_0_0.unc g
def E157_0g (a:Tf137_0)(b:Tf127_0)(c:Tf166_0):EnvK:=EnvK.of [⟨137,nt137,[⟨pa137_0,Fn137_0 a⟩]⟩,⟨127,nt127,[⟨pa127_0,Fn127_0 b⟩]⟩,⟨166,nt166,[⟨pa166_0,Fn166_0 c⟩]⟩] noSeq
def E157_0:EnvK:=E157_0g f137_0 f127_0 f166_0
theorem eo157_0:E157_0.Ok Pg:=EnvK.of_ok noSeq_ok ⟨⟨io137_0,trivial⟩,⟨io127_0,trivial⟩,⟨io166_0,trivial⟩,trivial⟩
def c157_0_4g:MCode:=(.region r157_5 [] (tO [1,2,21]))
def c157_0_4:MCode:=c157_0_4g
theorem g157_0_4:c157_0_4.Good Pg E157_0 sh157:=trivial
abbrev TJ157_0_0:Type 1:=(α:Type)->Int->Int->Int->(Bool->Op α)->Op α
def J157_0_0g (b:Tf127_0)(a:Tf137_0)(α:Type)(c d e:Int)(k1:Bool->Op α):Op α:=
 a α c 67108864
 (fun g=>cK (!g)
 (k1 true)
 (a α d 67108864
 (fun h=>cK (!h)
 (k1 true)
 (b α e 0 67108864
 (fun i=>k1 (!i))))))
def J157_0_0 (α:Type)(a b c:Int)(k1:Bool->Op α):Op α:=J157_0_0g f127_0 f137_0 α a b c k1
def F157_0_0 (v:TJ157_0_0)(α:Type)(K:KT α):Int->Int->Int->Nat->Nat->Int->Op α:=fun a b c d e g=>v α a b c (fun h=>u157_0_1 (K .normal) h a b c d e g)
theorem m157_0_0g (a:Tf137_0)(b:Tf127_0)(c:Tf166_0)(α:Type)(K:KT α):F157_0_0 (J157_0_0g b a) α K=p157_0_0.unc fun σ=>runM Pg (E157_0g a b c) sh157 (c157_0_4g ) K σ:=by kernel_rfl
theorem m157_0_0:∀ (α:Type) (K:KT α),F157_0_0 J157_0_0 α K=p157_0_0.unc fun σ=>runM Pg E157_0 sh157 c157_0_4 K σ:=m157_0_0g f137_0 f127_0 f166_0
abbrev Tf157_0:Type 1:=(α:Type)->Int->Int->Int->(Nat->Nat->Int->Int->Op α)->Op α
def f157_0g (d:TJ157_0_0)(e:Tf166_0)(α:Type)(a b c:Int)(k1:Nat->Nat->Int->Int->Op α):Op α:=
 d α a b c
 (fun g=>cK g
 (k1 0 0 0 8)
 (e α a b
 (fun h i=>k1 h i c 0)))
def f157_0 (α:Type)(a b c:Int)(k1:Nat->Nat->Int->Int->Op α):Op α:=f157_0g J157_0_0 f166_0 α a b c k1
def pa157_0:PT (List DV):=pA [pV true [(dI .i64),(dI .i64),(dI .i64)]]
def Fn157_0 (v:Tf157_0)(α:Type)(k:RT α):Int->Int->Int->Op α:=fun a b c=>v α a b c (fun d e g h=>ur157_0_0 k d e g h)
def cm157_0g (a:TJ157_0_0):MCode:=(.seq (.region r157_2 [] (tO [1,2])) (.seq (.seq (.mark [⟨p157_0_0,F157_0_0 a⟩] c157_0_4) (.cond (.tmp 21) (.seq (.region r157_8 [] (tO [2,3])) .ret) .skip)) (.seq (.region r157_10 [(2,4)] (tO [2,3])) .ret)))
def cm157_0:MCode:=cm157_0g J157_0_0
theorem gm157_0:cm157_0.Good Pg E157_0 sh157:=⟨trivial,⟨⟨g157_0_4,m157_0_0,trivial⟩,⟨trivial,trivial⟩,trivial⟩,trivial,trivial⟩
theorem fm157_0g (c:Tf137_0)(d:Tf127_0)(a:Tf166_0)(b:TJ157_0_0)(α:Type)(k:RT α):Fn157_0 (f157_0g b a) α k=pa157_0.unc fun ds=>fnM Pg (E157_0g c d a) sh157 (cm157_0g b) rs157 k ds:=by kernel_rfl
theorem fm157_0:∀ (α:Type) (k:RT α),Fn157_0 f157_0 α k=pa157_0.unc fun ds=>fnM Pg E157_0 sh157 cm157_0 rs157 k ds:=fm157_0g f137_0 f127_0 f166_0 J157_0_0
theorem is157:FnIs Pg 157 nt157 tr157 tl157 cm157_0.erase rs157:=⟨Tryz.f157,Tryz.func157,rfl,by kernel_rfl,by kernel_rfl,by kernel_rfl⟩
theorem io157_0:InstOk Pg 157 nt157 ⟨pa157_0,Fn157_0 f157_0⟩:=inst_ok eo157_0 followsTry is157 ⟨⟨sh157,cm157_0,by kernel_rfl,gm157_0,fm157_0⟩⟩
abbrev nt173:Nat:=24
def sh173:SG:=[(7,iS 2),(8,iS 2),(10,iS 2),(14,iT),(19,iT)]
def r173_2:LA:=[oO 2 (.box (.tmp 0)),oO 3 (.box (.tmp 1)),oO 4 (.alloc [(cI 0),(cI 0)])]
def r173_4:LA:=[lA 7 2 2,lA 8 2 3,oO 9 (.call 155 [(.tmp 7),(.tmp 8)]),oO 5 (.alloc [(cI 0),(cI 0)]),sD 2 5 9]
def r173_6:LA:=[lA 10 2 5,oO 11 (.call 131 [.tmp 10]),oO 12 (.call 160 [.tmp 11]),oM 6 12]
def r173_8:LA:=[fA 13 0 5,lD 14 13,bK 15 .mul 14 67108864,oM 16 6,bT 17 .quo 15 16,fA 18 1 5,lD 19 18,bK 20 .mul 19 67108864,oM 21 6,bT 22 .quo 20 21,oO 23 (.build [(cI 0),(cI 0)] [(0,1,(.tmp 17)),(1,1,(.tmp 22))]),sD 2 4 23]
def tr173:TG:=[tT 0 [2,3,4],tT 1 [4,5],tT 2 [4,5,6],tT 3 [4]]
def tl173:TG:=[]
def rs173:List AResV:=[.cell 4 true 2]
def pr173_0_0:PT (List RV):=pRs [pR true [rD (dI .i64),rD (dI .i64)]]
def ur173_0_0 {β:Type}(g:List RV->β):Int->Int->β:=pr173_0_0.unc g
def E173_0g (a:Tf155_0)(b:Tf131_0)(c:Tf160_0):EnvK:=EnvK.of [⟨155,nt155,[⟨pa155_0,Fn155_0 a⟩]⟩,⟨131,nt131,[⟨pa131_0,Fn131_0 b⟩]⟩,⟨160,nt160,[⟨pa160_0,Fn160_0 c⟩]⟩] noSeq
def E173_0:EnvK:=E173_0g f155_0 f131_0 f160_0
theorem eo173_0:E173_0.Ok Pg:=EnvK.of_ok noSeq_ok ⟨⟨io155_0,trivial⟩,⟨io131_0,trivial⟩,⟨io160_0,trivial⟩,trivial⟩
abbrev Tf173_0:Type 1:=(α:Type)->Int->Int->Int->Int->(Int->Int->Op α)->Op α
def f173_0g (d:Tf131_0)(e:Tf155_0)(g:Tf160_0)(α:Type)(h i j l:Int)(k1:Int->Int->Op α):Op α:=
 e α h i j l
 (fun b c=>d α b c
 (fun m=>g α m
 (fun a=>gK (a != 0) (gK (a != 0) (k1 (w64 (Int.tdiv (w64 (b*67108864)) a)) (w64 (Int.tdiv (w64 (c*67108864)) a)))))))
def f173_0 (α:Type)(a b c d:Int)(k1:Int->Int->Op α):Op α:=f173_0g f131_0 f155_0 f160_0 α a b c d k1
def pa173_0:PT (List DV):=pA [pV true [(dI .i64),(dI .i64)],pV true [(dI .i64),(dI .i64)]]
def Fn173_0 (v:Tf173_0)(α:Type)(k:RT α):I4 (Op α):=fun a b c d=>v α a b c d (fun e g=>ur173_0_0 k e g)
def cm173_0g:MCode:=(.seq (.region r173_2 [] (tO [2,3,4])) (.seq (.region r173_4 [] (tO [4,5])) (.seq (.region r173_6 [] (tO [4,5,6])) (.seq (.region r173_8 [] (tO [4])) .ret))))
def cm173_0:MCode:=cm173_0g
theorem gm173_0:cm173_0.Good Pg E173_0 sh173:=⟨trivial,trivial,trivial,trivial,trivial⟩
theorem fm173_0g (a:Tf155_0)(b:Tf131_0)(c:Tf160_0)(α:Type)(k:RT α):Fn173_0 (f173_0g b a c) α k=pa173_0.unc fun ds=>fnM Pg (E173_0g a b c) sh173 (cm173_0g ) rs173 k ds:=by kernel_rfl
theorem fm173_0:∀ (α:Type) (k:RT α),Fn173_0 f173_0 α k=pa173_0.unc fun ds=>fnM Pg E173_0 sh173 cm173_0 rs173 k ds:=fm173_0g f155_0 f131_0 f160_0
theorem is173:FnIs Pg 173 nt173 tr173 tl173 cm173_0.erase rs173:=⟨Tryz.f173,Tryz.func173,rfl,by kernel_rfl,by kernel_rfl,by kernel_rfl⟩
theorem io173_0:InstOk Pg 173 nt173 ⟨pa173_0,Fn173_0 f173_0⟩:=inst_ok eo173_0 followsTry is173 ⟨⟨sh173,cm173_0,by kernel_rfl,gm173_0,fm173_0⟩⟩
abbrev nt119:Nat:=6
def sh119:SG:=[(3,iS 2)]
def r119_2:LA:=[oO 1 (.box (.tmp 0)),mK 2 0]
def r119_4:LA:=[lA 3 2 1,oO 4 (.call 131 [.tmp 3]),oO 5 (.call 146 [.tmp 4]),oM 2 5]
def tr119:TG:=[tT 0 [1],tT 1 [2]]
def tl119:TG:=[]
def rs119:List AResV:=[.tmp 2]
def pr119_0_0:PT (List RV):=pRs [wI]
def ur119_0_0 {β:Type}(g:List RV->β):Int->β:=pr119_0_0.unc g
def E119_0g (a:Tf131_0)(b:Tf146_0):EnvK:=EnvK.of [⟨131,nt131,[⟨pa131_0,Fn131_0 a⟩]⟩,⟨146,nt146,[⟨pa146_0,Fn146_0 b⟩]⟩] noSeq
def E119_0:EnvK:=E119_0g f131_0 f146_0
theorem eo119_0:E119_0.Ok Pg:=EnvK.of_ok noSeq_ok ⟨⟨io131_0,trivial⟩,⟨io146_0,trivial⟩,trivial⟩
abbrev Tf119_0:Type 1:=(α:Type)->Int->Int->(Int->Op α)->Op α
def f119_0g (a:Tf131_0)(b:Tf146_0)(α:Type)(c d:Int)(k1:Int->Op α):Op α:=
 a α c d
 (fun e=>b α e
 (fun g=>k1 g))
def f119_0 (α:Type)(a b:Int)(k1:Int->Op α):Op α:=f119_0g f131_0 f146_0 α a b k1
def pa119_0:PT (List DV):=pA [pV true [(dI .i64),(dI .i64)]]
def Fn119_0 (v:Tf119_0)(α:Type)(k:RT α):Int->Int->Op α:=fun a b=>v α a b (fun c=>ur119_0_0 k c)
def cm119_0g:MCode:=(.seq (.region r119_2 [] (tO [1])) (.seq (.region r119_4 [] (tO [2])) .ret))
def cm119_0:MCode:=cm119_0g
theorem gm119_0:cm119_0.Good Pg E119_0 sh119:=⟨trivial,trivial,trivial⟩
theorem fm119_0g (a:Tf131_0)(b:Tf146_0)(α:Type)(k:RT α):Fn119_0 (f119_0g a b) α k=pa119_0.unc fun ds=>fnM Pg (E119_0g a b) sh119 (cm119_0g ) rs119 k ds:=by kernel_rfl
theorem fm119_0:∀ (α:Type) (k:RT α),Fn119_0 f119_0 α k=pa119_0.unc fun ds=>fnM Pg E119_0 sh119 cm119_0 rs119 k ds:=fm119_0g f131_0 f146_0
theorem is119:FnIs Pg 119 nt119 tr119 tl119 cm119_0.erase rs119:=⟨Tryz.f119,Tryz.func119,rfl,by kernel_rfl,by kernel_rfl,by kernel_rfl⟩
theorem io119_0:InstOk Pg 119 nt119 ⟨pa119_0,Fn119_0 f119_0⟩:=inst_ok eo119_0 followsTry is119 ⟨⟨sh119,cm119_0,by kernel_rfl,gm119_0,fm119_0⟩⟩
abbrev nt95:Nat:=37
def sh95:SG:=[(16,[.flt .f64,.flt .f64]),(25,[.flt .f64,.flt .f64])]
def r95_2:LA:=[oO 4 (.alloc [(cI 0),(cI 0)]),mK 5 0]
def r95_4:LA:=[oM 11 0,oO 12 (.pure (oB (.call { callee:=.builtin .real,args:=#[(.tmp 11)],argTypes:=#[43] }) 117)),oM 13 0,oO 14 (.pure (oB (.call { callee:=.builtin .imag,args:=#[(.tmp 13)],argTypes:=#[43] }) 117)),oO 15 (.build [(.d (.v (.float Go.FloatKind.f64 0))),(.d (.v (.float Go.FloatKind.f64 0)))] [(0,1,(.tmp 12)),(1,1,(.tmp 14))]),oO 6 (.alloc [(.d (.v (.float Go.FloatKind.f64 0))),(.d (.v (.float Go.FloatKind.f64 0)))]),sD 2 6 15]
def r95_7:LA:=[lA 16 2 6,mK 17 0]
def td95_9:OT:=(tO [0,1,4,6,16,17])
def r95_11:LA:=[bK 18 .lss 17 2]
def r95_17:LA:=[oO 19 (.index false 2 1 (.tmp 16) (.tmp 17)),oM 8 19]
def r95_19:LA:=[oM 20 8,oO 21 (.call 128 [.tmp 20]),oO 22 (.pure (oB (.unOp .not 4 (.tmp 21)) 4))]
def r95_22:LA:=[oO 23 (.build [(cI 0),(cI 0)] []),sD 2 4 23,mK 5 27]
def r95_23:LA:=[bK 24 .add 17 1,oM 17 24]
def r95_26:LA:=[lA 25 2 6,mK 26 0]
def td95_28:OT:=(tO [0,1,4,25,26])
def r95_30:LA:=[bK 27 .lss 26 2]
def r95_36:LA:=[oO 28 (.index false 2 1 (.tmp 25) (.tmp 26)),oM 10 28]
def r95_38:LA:=[oM 29 10,oO 30 (.call 129 [.tmp 29]),oM 31 1,oO 32 (.bin .gtr 117 (.tmp 30) (.tmp 31))]
def r95_41:LA:=[oO 33 (.build [(cI 0),(cI 0)] []),sD 2 4 33,mK 5 2]
def r95_42:LA:=[bK 34 .add 26 1,oM 26 34]
def r95_44:LA:=[oM 35 0,oO 36 (.call 130 [.tmp 35]),sD 2 4 36,mK 5 0]
def tr95:TG:=[tT 0 [0,1,4],tT 1 [0,1,4,6],tT 2 [0,1,4,6,16,17],tT 3 [0,1,4,6,16,17,18],tT 4 [0,1,4,6,8,16,17],tT 5 [0,1,4,6,16,17,22],tT 6 [4,5],tT 7 [0,1,4,6,16,17],tT 8 [0,1,4,25,26],tT 9 [0,1,4,25,26,27],tT 10 [0,1,4,10,25,26],tT 11 [0,1,4,25,26,32],tT 12 [4,5],tT 13 [0,1,4,25,26],tT 14 [4,5]]
def tl95:TG:=[tT 3 [0,1,4,6,16,17],tT 9 [0,1,4,25,26]]
def rs95:List AResV:=[.cell 4 true 2,.tmp 5]
def p95_0_0:PT St:=pS [sl 0 (aV false [(cD (dX .f64))]),sl 1 (aV false [(cD (dF .f64))]),sP 4,sP 6,sl 16 (aV true [(cD (dF .f64)),(cD (dF .f64))]),sI 17,sl 18 (aV false [(cD dB)])] [eBox 4 [xI,xI],eBox 6 [(cD (dF .f64)),(cD (dF .f64))]]
def u95_0_0 {β:Type}(g:St->β):Nat->Nat->Nat->Nat->Nat->Int->Bool->Int->Int->Nat->Nat->β:=p95_0_0.unc g
def p95_0_1:PT St:=pS [sl 0 (aV false [(cD (dX .f64))]),sl 1 (aV false [(cD (dF .f64))]),sP 4,sP 6,sl 8 (aV false [(cD (dF .f64))]),sl 16 (aV true [(cD (dF .f64)),(cD (dF .f64))]),sI 17] [eBox 4 [xI,xI],eBox 6 [(cD (dF .f64)),(cD (dF .f64))]]
def u95_0_1 {β:Type}(g:St->β):Nat->Nat->Nat->Nat->Nat->Nat->Int->Int->Int->Nat->Nat->β:=p95_0_1.unc g
def p95_0_2:PT St:=pS [sl 0 (aV false [(cD (dX .f64))]),sl 1 (aV false [(cD (dF .f64))]),sP 4,sP 6,sl 16 (aV true [(cD (dF .f64)),(cD (dF .f64))]),sI 17] [eBox 4 [xI,xI],eBox 6 [(cD (dF .f64)),(cD (dF .f64))]]
def u95_0_2 {β:Type}(g:St->β):Nat->Nat->Nat->Nat->Nat->Int->Int->Int->Nat->Nat->β:=p95_0_2.unc g
def p95_0_3:PT St:=pS [sP 4,sI 5] [eBox 4 [xI,xI]]
def u95_0_3 {β:Type}(g:St->β):Int->Int->Int->β:=p95_0_3.unc g
def p95_0_4:PT St:=pS [sl 0 (aV false [(cD (dX .f64))]),sl 1 (aV false [(cD (dF .f64))]),sP 4,sl 25 (aV true [(cD (dF .f64)),(cD (dF .f64))]),sI 26,sl 27 (aV false [(cD dB)])] [eBox 4 [xI,xI]]
def u95_0_4 {β:Type}(g:St->β):Nat->Nat->Nat->Nat->Nat->Int->Bool->Int->Int->β:=p95_0_4.unc g
def p95_0_5:PT St:=pS [sl 0 (aV false [(cD (dX .f64))]),sl 1 (aV false [(cD (dF .f64))]),sP 4,sl 10 (aV false [(cD (dF .f64))]),sl 25 (aV true [(cD (dF .f64)),(cD (dF .f64))]),sI 26] [eBox 4 [xI,xI]]
def u95_0_5 {β:Type}(g:St->β):Nat->Nat->Nat->Nat->Nat->Nat->Int->Int->Int->β:=p95_0_5.unc g
def p95_0_6:PT St:=pS [sl 0 (aV false [(cD (dX .f64))]),sl 1 (aV false [(cD (dF .f64))]),sP 4,sl 25 (aV true [(cD (dF .f64)),(cD (dF .f64))]),sI 26] [eBox 4 [xI,xI]]
def u95_0_6 {β:Type}(g:St->β):Nat->Nat->Nat->Nat->Nat->Int->Int->Int->β:=p95_0_6.unc g
def pr95_0_0:PT (List RV):=pRs [pR true [rD (dI .i64),rD (dI .i64)],wI]
def ur95_0_0 {β:Type}(g:List RV->β):Int->Int->Int->β:=pr95_0_0.unc g
def E95_0g (a:Tf128_0)(b:Tf129_0)(c:Tf130_0):EnvK:=EnvK.of [⟨128,nt128,[⟨pa128_0,Fn128_0 a⟩]⟩,⟨129,nt129,[⟨pa129_0,Fn129_0 b⟩]⟩,⟨130,nt130,[⟨pa130_0,Fn130_0 c⟩]⟩] noSeq
def E95_0:EnvK:=E95_0g f128_0 f129_0 f130_0
theorem eo95_0:E95_0.Ok Pg:=EnvK.of_ok noSeq_ok ⟨⟨io128_0,trivial⟩,⟨io129_0,trivial⟩,⟨io130_0,trivial⟩,trivial⟩
def c95_0_35g:MCode:=(.region r95_36 [] (tO [0,1,4,10,25,26]))
def c95_0_35:MCode:=c95_0_35g
theorem g95_0_35:c95_0_35.Good Pg E95_0 sh95:=trivial
abbrev TJ95_0_2:Type 1:=(α:Type)->Nat->Nat->Int->(Nat->Op α)->Op α
def J95_0_2g (α:Type)(b c:Nat)(a:Int)(k1:Nat->Op α):Op α:=
 cK (a == 1)
 (k1 c)
 (cK (a == 0)
 (k1 b)
 (none))
def J95_0_2 (α:Type)(a b:Nat)(c:Int)(k1:Nat->Op α):Op α:=J95_0_2g α a b c k1
def F95_0_2 (v:TJ95_0_2)(α:Type)(K:KT α):Nat->Nat->Nat->Nat->Nat->Int->Bool->Int->Int->Op α:=fun d e g a b c l h i=>v α a b c (fun j=>u95_0_5 (K .normal) d e g j a b c h i)
theorem m95_0_2g (a:Tf128_0)(b:Tf129_0)(c:Tf130_0)(α:Type)(K:KT α):F95_0_2 (J95_0_2g ) α K=p95_0_4.unc fun σ=>runM Pg (E95_0g a b c) sh95 (c95_0_35g ) K σ:=by kernel_rfl
theorem m95_0_2:∀ (α:Type) (K:KT α),F95_0_2 J95_0_2 α K=p95_0_4.unc fun σ=>runM Pg E95_0 sh95 c95_0_35 K σ:=m95_0_2g f128_0 f129_0 f130_0
def c95_0_28g (a:TJ95_0_2):MCode:=(.seq (.region r95_30 [] (tO [0,1,4,25,26,27])) (.seq (.cond (.tmp 27) .skip (.exit 2)) (.seq (.block 3 (.seq (.mark [⟨p95_0_4,F95_0_2 a⟩] c95_0_35) (.seq (.region r95_38 [] (tO [0,1,4,25,26,32])) (.cond (.tmp 32) (.seq (.region r95_41 [] (tO [4,5])) .ret) .skip)))) (.region r95_42 [] (tO [0,1,4,25,26])))))
def c95_0_28:MCode:=c95_0_28g J95_0_2
theorem g95_0_28:c95_0_28.Good Pg E95_0 sh95:=⟨trivial,⟨trivial,trivial⟩,⟨⟨g95_0_35,m95_0_2,trivial⟩,trivial,⟨trivial,trivial⟩,trivial⟩,trivial⟩
def S95_0_3g (b:TJ95_0_2)(c:Tf129_0)(α:Type)(d e g:Nat)(a:Int)(kn:Int->Op α)(k1:Op α)(k2:Int->Bool->Op α):Op α:=
 cK (decide (a < 2))
 (b α e g a
 (fun h=>c α h
 (fun i=>cK ((FloatKind.format .f64).order i d == some Ordering.gt)
 (k1)
 (kn (w64 (a+1))))))
 (k2 a (decide (a < 2)))
def S95_0_3 (α:Type)(a b c:Nat)(d:Int)(kn:Int->Op α)(k1:Op α)(k2:Int->Bool->Op α):Op α:=S95_0_3g J95_0_2 f129_0 α a b c d kn k1 k2
def R95_0_3 (α:Type)(a b c:Nat)(k1:Op α)(k2:Int->Bool->Op α):Nat->Int->Op α
 | 0,_=>none
 | n+1,d=>S95_0_3 α a b c d (R95_0_3 α a b c k1 k2 n) k1 k2
def L95_0_3 (α:Type)(a b c:Nat)(k1:Op α)(k2:Int->Bool->Op α)(d:Int):Op α:=R95_0_3 α a b c k1 k2 fuel d
abbrev TL95_0_3:Type 1:=(α:Type)->Nat->Nat->Nat->(Op α)->(Int->Bool->Op α)->Int->Op α
def F95_0_3 (v:TL95_0_3)(α:Type)(K:KT α):Nat->Nat->Nat->Nat->Nat->Int->Int->Int->Op α:=fun d e a b c g h i=>v α a b c (u95_0_3 (K .ret) 2 0 0) (fun j l=>u95_0_4 (K (.exit 2)) d e a b c j l h i) g
theorem r95_0_3g (m:Tf128_0)(j:Tf129_0)(o:Tf130_0)(l:TJ95_0_2)(α:Type)(K:KT α)(Kn:SK α)(e g a b c:Nat)(d h i:Int):u95_0_6 (fun σ=>runM Pg (E95_0g m j o) sh95 (c95_0_28g l) (thenK (fun σ=>tidyK td95_28 σ Kn) K) σ) e g a b c d h i=S95_0_3g l j α a b c d (fun d=>u95_0_6 Kn e g a b c d h i) (u95_0_3 (K .ret) 2 0 0) (fun p q=>u95_0_4 (K (.exit 2)) e g a b c p q h i):=by kernel_rfl
theorem r95_0_3 (α:Type)(K:KT α)(Kn:SK α)(e g a b c:Nat)(d h i:Int):u95_0_6 (fun σ=>runM Pg E95_0 sh95 c95_0_28 (thenK (fun σ=>tidyK td95_28 σ Kn) K) σ) e g a b c d h i=S95_0_3 α a b c d (fun d=>u95_0_6 Kn e g a b c d h i) (u95_0_3 (K .ret) 2 0 0) (fun j l=>u95_0_4 (K (.exit 2)) e g a b c j l h i):=r95_0_3g f128_0 f129_0 f130_0 J95_0_2 α K Kn e g a b c d h i
theorem t95_0_3 (α:Type)(K:KT α):∀ (n:Nat) (e g a b c:Nat) (d h i:Int),R95_0_3 α a b c (u95_0_3 (K .ret) 2 0 0) (fun j l=>u95_0_4 (K (.exit 2)) e g a b c j l h i) n d=u95_0_6 (loopT (runM Pg E95_0 sh95 c95_0_28) td95_28 K n) e g a b c d h i:=by
 intro n
 induction n with
 | zero=>intros;rfl
 | succ n ih=>intro e g a b c d h i;exact (congrArg (fun kn=>S95_0_3 α a b c d kn (u95_0_3 (K .ret) 2 0 0) (fun j l=>u95_0_4 (K (.exit 2)) e g a b c j l h i)) (funext fun d=>ih e g a b c d h i)).trans (r95_0_3 α K (loopT (runM Pg E95_0 sh95 c95_0_28) td95_28 K n) e g a b c d h i).symm
theorem m95_0_3:∀ (α:Type) (K:KT α),F95_0_3 L95_0_3 α K=p95_0_6.unc fun σ=>loopT (runM Pg E95_0 sh95 c95_0_28) td95_28 K fuel σ:=fun α K=>by funext a b c d e g h i;exact t95_0_3 α K fuel a b c d e g h i
def c95_0_16g:MCode:=(.region r95_17 [] (tO [0,1,4,6,8,16,17]))
def c95_0_16:MCode:=c95_0_16g
theorem g95_0_16:c95_0_16.Good Pg E95_0 sh95:=trivial
abbrev TJ95_0_0:Type 1:=(α:Type)->Nat->Nat->Int->(Nat->Op α)->Op α
def J95_0_0g (α:Type)(b c:Nat)(a:Int)(k1:Nat->Op α):Op α:=
 cK (a == 1)
 (k1 c)
 (cK (a == 0)
 (k1 b)
 (none))
def J95_0_0 (α:Type)(a b:Nat)(c:Int)(k1:Nat->Op α):Op α:=J95_0_0g α a b c k1
def F95_0_0 (v:TJ95_0_0)(α:Type)(K:KT α):Nat->Nat->Nat->Nat->Nat->Int->Bool->Int->Int->Nat->Nat->Op α:=fun d e g a b c o h i j l=>v α a b c (fun m=>u95_0_1 (K .normal) d e g m a b c h i j l)
theorem m95_0_0g (a:Tf128_0)(b:Tf129_0)(c:Tf130_0)(α:Type)(K:KT α):F95_0_0 (J95_0_0g ) α K=p95_0_0.unc fun σ=>runM Pg (E95_0g a b c) sh95 (c95_0_16g ) K σ:=by kernel_rfl
theorem m95_0_0:∀ (α:Type) (K:KT α),F95_0_0 J95_0_0 α K=p95_0_0.unc fun σ=>runM Pg E95_0 sh95 c95_0_16 K σ:=m95_0_0g f128_0 f129_0 f130_0
def c95_0_9g (a:TJ95_0_0):MCode:=(.seq (.region r95_11 [] (tO [0,1,4,6,16,17,18])) (.seq (.cond (.tmp 18) .skip (.exit 0)) (.seq (.block 1 (.seq (.mark [⟨p95_0_0,F95_0_0 a⟩] c95_0_16) (.seq (.region r95_19 [] (tO [0,1,4,6,16,17,22])) (.cond (.tmp 22) (.seq (.region r95_22 [] (tO [4,5])) .ret) .skip)))) (.region r95_23 [] (tO [0,1,4,6,16,17])))))
def c95_0_9:MCode:=c95_0_9g J95_0_0
theorem g95_0_9:c95_0_9.Good Pg E95_0 sh95:=⟨trivial,⟨trivial,trivial⟩,⟨⟨g95_0_16,m95_0_0,trivial⟩,trivial,⟨trivial,trivial⟩,trivial⟩,trivial⟩
def S95_0_1g (b:TJ95_0_0)(c:Tf128_0)(α:Type)(d e:Nat)(a:Int)(kn:Int->Op α)(k1:Op α)(k2:Int->Bool->Op α):Op α:=
 cK (decide (a < 2))
 (b α d e a
 (fun g=>c α g
 (fun h=>cK (!h)
 (k1)
 (kn (w64 (a+1))))))
 (k2 a (decide (a < 2)))
def S95_0_1 (α:Type)(a b:Nat)(c:Int)(kn:Int->Op α)(k1:Op α)(k2:Int->Bool->Op α):Op α:=S95_0_1g J95_0_0 f128_0 α a b c kn k1 k2
def R95_0_1 (α:Type)(a b:Nat)(k1:Op α)(k2:Int->Bool->Op α):Nat->Int->Op α
 | 0,_=>none
 | n+1,c=>S95_0_1 α a b c (R95_0_1 α a b k1 k2 n) k1 k2
def L95_0_1 (α:Type)(a b:Nat)(k1:Op α)(k2:Int->Bool->Op α)(c:Int):Op α:=R95_0_1 α a b k1 k2 fuel c
abbrev TL95_0_1:Type 1:=(α:Type)->Nat->Nat->(Op α)->(Int->Bool->Op α)->Int->Op α
def F95_0_1 (v:TL95_0_1)(α:Type)(K:KT α):Nat->Nat->Nat->Nat->Nat->Int->Int->Int->Nat->Nat->Op α:=fun c d e a b g h i j l=>v α a b (u95_0_3 (K .ret) 27 0 0) (fun m o=>u95_0_0 (K (.exit 0)) c d e a b m o h i j l) g
theorem r95_0_1g (m:Tf128_0)(p:Tf129_0)(q:Tf130_0)(o:TJ95_0_0)(α:Type)(K:KT α)(Kn:SK α)(d e g a b:Nat)(c h i:Int)(j l:Nat):u95_0_2 (fun σ=>runM Pg (E95_0g m p q) sh95 (c95_0_9g o) (thenK (fun σ=>tidyK td95_9 σ Kn) K) σ) d e g a b c h i j l=S95_0_1g o m α a b c (fun c=>u95_0_2 Kn d e g a b c h i j l) (u95_0_3 (K .ret) 27 0 0) (fun r s=>u95_0_0 (K (.exit 0)) d e g a b r s h i j l):=by kernel_rfl
theorem r95_0_1 (α:Type)(K:KT α)(Kn:SK α)(d e g a b:Nat)(c h i:Int)(j l:Nat):u95_0_2 (fun σ=>runM Pg E95_0 sh95 c95_0_9 (thenK (fun σ=>tidyK td95_9 σ Kn) K) σ) d e g a b c h i j l=S95_0_1 α a b c (fun c=>u95_0_2 Kn d e g a b c h i j l) (u95_0_3 (K .ret) 27 0 0) (fun m o=>u95_0_0 (K (.exit 0)) d e g a b m o h i j l):=r95_0_1g f128_0 f129_0 f130_0 J95_0_0 α K Kn d e g a b c h i j l
theorem t95_0_1 (α:Type)(K:KT α):∀ (n:Nat) (d e g a b:Nat) (c h i:Int) (j l:Nat),R95_0_1 α a b (u95_0_3 (K .ret) 27 0 0) (fun m o=>u95_0_0 (K (.exit 0)) d e g a b m o h i j l) n c=u95_0_2 (loopT (runM Pg E95_0 sh95 c95_0_9) td95_9 K n) d e g a b c h i j l:=by
 intro n
 induction n with
 | zero=>intros;rfl
 | succ n ih=>intro d e g a b c h i j l;exact (congrArg (fun kn=>S95_0_1 α a b c kn (u95_0_3 (K .ret) 27 0 0) (fun m o=>u95_0_0 (K (.exit 0)) d e g a b m o h i j l)) (funext fun c=>ih d e g a b c h i j l)).trans (r95_0_1 α K (loopT (runM Pg E95_0 sh95 c95_0_9) td95_9 K n) d e g a b c h i j l).symm
theorem m95_0_1:∀ (α:Type) (K:KT α),F95_0_1 L95_0_1 α K=p95_0_2.unc fun σ=>loopT (runM Pg E95_0 sh95 c95_0_9) td95_9 K fuel σ:=fun α K=>by funext a b c d e g h i j l;exact t95_0_1 α K fuel a b c d e g h i j l
abbrev Tf95_0:Type 1:=(α:Type)->Nat->Nat->Nat->(Int->Int->Int->Op α)->Op α
def f95_0g (c:TL95_0_1)(d:TL95_0_3)(e:Tf130_0)(α:Type)(a b g:Nat)(k1:Int->Int->Int->Op α):Op α:=
 c α a b
 (k1 0 0 27)
 (fun j l=>d α g a b
 (k1 0 0 2)
 (fun m o=>e α a b
 (fun h i=>k1 h i 0)) 0) 0
def f95_0 (α:Type)(a b c:Nat)(k1:Int->Int->Int->Op α):Op α:=f95_0g L95_0_1 L95_0_3 f130_0 α a b c k1
def pa95_0:PT (List DV):=pA [pV false [(dX .f64)],pV false [(dF .f64)]]
def Fn95_0 (v:Tf95_0)(α:Type)(k:RT α):Nat->Nat->Nat->Op α:=fun a b c=>v α a b c (fun d e g=>ur95_0_0 k d e g)
def cm95_0g (a:TL95_0_1)(b:TL95_0_3):MCode:=(.seq (.region r95_2 [] (tO [0,1,4])) (.seq (.region r95_4 [] (tO [0,1,4,6])) (.seq (.seq (.region r95_7 [] (tO [0,1,4,6,16,17])) (.block 0 (.loop td95_9 [⟨p95_0_2,F95_0_1 a⟩] c95_0_9))) (.seq (.seq (.region r95_26 [] (tO [0,1,4,25,26])) (.block 2 (.loop td95_28 [⟨p95_0_6,F95_0_3 b⟩] c95_0_28))) (.seq (.region r95_44 [] (tO [4,5])) .ret)))))
def cm95_0:MCode:=cm95_0g L95_0_1 L95_0_3
theorem gm95_0:cm95_0.Good Pg E95_0 sh95:=⟨trivial,trivial,⟨trivial,g95_0_9,m95_0_1,trivial⟩,⟨trivial,g95_0_28,m95_0_3,trivial⟩,trivial,trivial⟩
theorem fm95_0g (d:Tf128_0)(e:Tf129_0)(a:Tf130_0)(b:TL95_0_1)(c:TL95_0_3)(α:Type)(k:RT α):Fn95_0 (f95_0g b c a) α k=pa95_0.unc fun ds=>fnM Pg (E95_0g d e a) sh95 (cm95_0g b c) rs95 k ds:=by kernel_rfl
theorem fm95_0:∀ (α:Type) (k:RT α),Fn95_0 f95_0 α k=pa95_0.unc fun ds=>fnM Pg E95_0 sh95 cm95_0 rs95 k ds:=fm95_0g f128_0 f129_0 f130_0 L95_0_1 L95_0_3
theorem is95:FnIs Pg 95 nt95 tr95 tl95 cm95_0.erase rs95:=⟨Tryz.f95,Tryz.func95,rfl,by kernel_rfl,by kernel_rfl,by kernel_rfl⟩
theorem io95_0:InstOk Pg 95 nt95 ⟨pa95_0,Fn95_0 f95_0⟩:=inst_ok eo95_0 followsTry is95 ⟨⟨sh95,cm95_0,by kernel_rfl,gm95_0,fm95_0⟩⟩
abbrev nt165:Nat:=42
def sh165:SG:=[(27,iS 2),(28,iS 2),(34,iS 2),(36,iS 2),(40,iS 2),(41,iS 2)]
def r165_2:LA:=[oO 2 (.alloc [(cI 0),(cI 0)])]
def r165_4:LA:=[oO 10 (.call 160 [(kI 2251799813685248)]),oM 3 10]
def r165_6:LA:=[oO 11 (.build [(cI 0),(cI 0)] [(0,1,(kI 67108864))]),oM 12 3,oM 13 3,oO 14 (.build [(cI 0),(cI 0)] [(0,1,(.tmp 12)),(1,1,(.tmp 13))]),oO 4 (.alloc [(cI 0),(cI 0)]),oO 5 (.alloc [(cI 0),(cI 0)]),sD 2 4 11,sD 2 5 14]
def r165_8:LA:=[mK 6 0,mK 7 524288]
def td165_11:OT:=(tO [0,2,4,5,6,7])
def r165_14:LA:=[oM 15 0,oM 16 6,bT 17 .neq 15 16,oM 18 17,oG 19 (.mv (.tmp 0)) 18 true,oG 20 (.mv (.tmp 7)) 18 true,oG 21 (.bin .neq 3 (.tmp 19) (.tmp 20)) 18 true,oO 22 (.pick (.tmp 18) (.tmp 21) (.const (.bool false)))]
def r165_18:LA:=[oM 23 6,oM 24 7,bT 25 .add 23 24,bK 26 .quo 25 2,oM 8 26]
def r165_20:LA:=[lA 27 2 4,lA 28 2 5,oO 29 (.call 173 [(.tmp 27),(.tmp 28)]),oO 9 (.alloc [(cI 0),(cI 0)]),sD 2 9 29]
def r165_22:LA:=[oM 30 0,oM 31 8,bT 32 .geq 30 31]
def r165_24:LA:=[oM 33 8,lA 34 2 9,oM 6 33,sD 2 4 34]
def r165_25:LA:=[oM 35 8,lA 36 2 9,oM 7 35,sD 2 5 36]
def r165_28:LA:=[oM 37 0,oM 38 6,bT 39 .eql 37 38]
def r165_31:LA:=[lA 40 2 4,sD 2 2 40]
def r165_33:LA:=[lA 41 2 5,sD 2 2 41]
def tr165:TG:=[tT 0 [0,2],tT 1 [0,2,3],tT 2 [0,2,4,5],tT 3 [0,2,4,5,6,7],tT 4 [0,2,4,5,6,7,22],tT 5 [0,2,4,5,6,7,8],tT 6 [0,2,4,5,6,7,8,9],tT 7 [0,2,4,5,6,7,8,9,32],tT 8 [0,2,4,5,6,7],tT 9 [0,2,4,5,6,7],tT 10 [2,4,5,39],tT 11 [2],tT 12 [2]]
def tl165:TG:=[tT 4 [0,2,4,5,6,7]]
def rs165:List AResV:=[.cell 2 true 2]
def p165_0_0:PT St:=pS [sI 0,sP 2,sP 4,sP 5,sI 6,sI 7] [eBox 2 [xI,xI],eBox 4 [xI,xI],eBox 5 [xI,xI]]
def u165_0_0 {β:Type}(g:St->β):I9 β:=p165_0_0.unc g
def p165_0_1:PT St:=pS [sI 0,sP 2,sP 4,sP 5,sI 6,sI 7,sl 22 (aV false [(cD dB)])] [eBox 2 [xI,xI],eBox 4 [xI,xI],eBox 5 [xI,xI]]
def u165_0_1 {β:Type}(g:St->β):Int->Int->Int->Bool->I6 β:=p165_0_1.unc g
def pr165_0_0:PT (List RV):=pRs [pR true [rD (dI .i64),rD (dI .i64)]]
def ur165_0_0 {β:Type}(g:List RV->β):Int->Int->β:=pr165_0_0.unc g
def E165_0g (a:Tf160_0)(b:Tf173_0):EnvK:=EnvK.of [⟨160,nt160,[⟨pa160_0,Fn160_0 a⟩]⟩,⟨173,nt173,[⟨pa173_0,Fn173_0 b⟩]⟩] noSeq
def E165_0:EnvK:=E165_0g f160_0 f173_0
theorem eo165_0:E165_0.Ok Pg:=EnvK.of_ok noSeq_ok ⟨⟨io160_0,trivial⟩,⟨io173_0,trivial⟩,trivial⟩
def c165_0_11g:MCode:=(.seq (.seq (.region r165_14 [] (tO [0,2,4,5,6,7,22])) (.cond (.tmp 22) .skip (.exit 0))) (.block 1 (.seq (.region r165_18 [] (tO [0,2,4,5,6,7,8])) (.seq (.region r165_20 [] (tO [0,2,4,5,6,7,8,9])) (.seq (.region r165_22 [] (tO [0,2,4,5,6,7,8,9,32])) (.cond (.tmp 32) (.region r165_24 [] (tO [0,2,4,5,6,7])) (.region r165_25 [] (tO [0,2,4,5,6,7]))))))))
def c165_0_11:MCode:=c165_0_11g
theorem g165_0_11:c165_0_11.Good Pg E165_0 sh165:=⟨⟨trivial,trivial,trivial⟩,trivial,trivial,trivial,trivial,trivial⟩
def S165_0_0g (l:Tf173_0)(α:Type)(c b a d e g h:Int)(kn:I6 (Op α))(k1:Int->Int->Bool->I4 (Op α)):Op α:=
 cK (c != b)
 (cK (c != a)
 (l α d e g h
 (fun i j=>cK (decide ((w64 (Int.tdiv (w64 (b+a)) 2))<=c))
 (kn (w64 (Int.tdiv (w64 (b+a)) 2)) a i j g h)
 (kn b (w64 (Int.tdiv (w64 (b+a)) 2)) d e i j)))
 (k1 b a (c != a) d e g h))
 (k1 b a false d e g h)
def S165_0_0 (α:Type)(a b c d e g h:Int)(kn:I6 (Op α))(k1:Int->Int->Bool->I4 (Op α)):Op α:=S165_0_0g f173_0 α a b c d e g h kn k1
def R165_0_0 (α:Type)(a:Int)(k1:Int->Int->Bool->I4 (Op α)):Nat->I6 (Op α)
 | 0,_,_,_,_,_,_=>none
 | n+1,b,c,d,e,g,h=>S165_0_0 α a b c d e g h (R165_0_0 α a k1 n) k1
def L165_0_0 (α:Type)(a:Int)(k1:Int->Int->Bool->I4 (Op α))(b c d e g h:Int):Op α:=R165_0_0 α a k1 fuel b c d e g h
abbrev TL165_0_0:Type 1:=(α:Type)->Int->(Int->Int->Bool->I4 (Op α))->I6 (Op α)
def F165_0_0 (v:TL165_0_0)(α:Type)(K:KT α):I9 (Op α):=fun a b c d e g h i j=>v α a (fun l m o p q r s=>u165_0_1 (K (.exit 0)) a l m o d e p q r s) b c g h i j
theorem r165_0_0g (m:Tf160_0)(l:Tf173_0)(α:Type)(K:KT α)(Kn:SK α)(a b c i j d e g h:Int):u165_0_0 (fun σ=>runM Pg (E165_0g m l) sh165 (c165_0_11g ) (thenK (fun σ=>tidyK td165_11 σ Kn) K) σ) a b c i j d e g h=S165_0_0g l α a b c d e g h (fun b c d e g h=>u165_0_0 Kn a b c i j d e g h) (fun o p q r s t w=>u165_0_1 (K (.exit 0)) a o p q i j r s t w):=by kernel_rfl
theorem r165_0_0 (α:Type)(K:KT α)(Kn:SK α)(a b c i j d e g h:Int):u165_0_0 (fun σ=>runM Pg E165_0 sh165 c165_0_11 (thenK (fun σ=>tidyK td165_11 σ Kn) K) σ) a b c i j d e g h=S165_0_0 α a b c d e g h (fun b c d e g h=>u165_0_0 Kn a b c i j d e g h) (fun l m o p q r s=>u165_0_1 (K (.exit 0)) a l m o i j p q r s):=r165_0_0g f160_0 f173_0 α K Kn a b c i j d e g h
theorem t165_0_0 (α:Type)(K:KT α):∀ (n:Nat) (a b c i j d e g h:Int),R165_0_0 α a (fun l m o p q r s=>u165_0_1 (K (.exit 0)) a l m o i j p q r s) n b c d e g h=u165_0_0 (loopT (runM Pg E165_0 sh165 c165_0_11) td165_11 K n) a b c i j d e g h:=by
 intro n
 induction n with
 | zero=>intros;rfl
 | succ n ih=>intro a b c i j d e g h;exact (congrArg (fun kn=>S165_0_0 α a b c d e g h kn (fun l m o p q r s=>u165_0_1 (K (.exit 0)) a l m o i j p q r s)) (funext fun b=>funext fun c=>funext fun d=>funext fun e=>funext fun g=>funext fun h=>ih a b c i j d e g h)).trans (r165_0_0 α K (loopT (runM Pg E165_0 sh165 c165_0_11) td165_11 K n) a b c i j d e g h).symm
theorem m165_0_0:∀ (α:Type) (K:KT α),F165_0_0 L165_0_0 α K=p165_0_0.unc fun σ=>loopT (runM Pg E165_0 sh165 c165_0_11) td165_11 K fuel σ:=fun α K=>by funext a b c d e g h i j;exact t165_0_0 α K fuel a b c d e g h i j
abbrev Tf165_0:Type 1:=(α:Type)->Int->(Int->Int->Op α)->Op α
def f165_0g (c:TL165_0_0)(d:Tf160_0)(α:Type)(a:Int)(k1:Int->Int->Op α):Op α:=
 d α 2251799813685248
 (fun b=>c α a
 (fun e l m g h i j=>cK (a == e)
 (k1 g h)
 (k1 i j)) 0 524288 67108864 0 b b)
def f165_0 (α:Type)(a:Int)(k1:Int->Int->Op α):Op α:=f165_0g L165_0_0 f160_0 α a k1
def pa165_0:PT (List DV):=pA [vI]
def Fn165_0 (v:Tf165_0)(α:Type)(k:RT α):Int->Op α:=fun a=>v α a (fun b c=>ur165_0_0 k b c)
def cm165_0g (a:TL165_0_0):MCode:=(.seq (.region r165_2 [] (tO [0,2])) (.seq (.region r165_4 [] (tO [0,2,3])) (.seq (.region r165_6 [] (tO [0,2,4,5])) (.seq (.region r165_8 [] (tO [0,2,4,5,6,7])) (.seq (.block 0 (.loop td165_11 [⟨p165_0_0,F165_0_0 a⟩] c165_0_11)) (.seq (.seq (.region r165_28 [] (tO [2,4,5,39])) (.cond (.tmp 39) (.seq (.region r165_31 [] (tO [2])) .ret) .skip)) (.seq (.region r165_33 [] (tO [2])) .ret)))))))
def cm165_0:MCode:=cm165_0g L165_0_0
theorem gm165_0:cm165_0.Good Pg E165_0 sh165:=⟨trivial,trivial,trivial,trivial,⟨g165_0_11,m165_0_0,trivial⟩,⟨trivial,⟨trivial,trivial⟩,trivial⟩,trivial,trivial⟩
theorem fm165_0g (a:Tf160_0)(c:Tf173_0)(b:TL165_0_0)(α:Type)(k:RT α):Fn165_0 (f165_0g b a) α k=pa165_0.unc fun ds=>fnM Pg (E165_0g a c) sh165 (cm165_0g b) rs165 k ds:=by kernel_rfl
theorem fm165_0:∀ (α:Type) (k:RT α),Fn165_0 f165_0 α k=pa165_0.unc fun ds=>fnM Pg E165_0 sh165 cm165_0 rs165 k ds:=fm165_0g f160_0 f173_0 L165_0_0
theorem is165:FnIs Pg 165 nt165 tr165 tl165 cm165_0.erase rs165:=⟨Tryz.f165,Tryz.func165,rfl,by kernel_rfl,by kernel_rfl,by kernel_rfl⟩
theorem io165_0:InstOk Pg 165 nt165 ⟨pa165_0,Fn165_0 f165_0⟩:=inst_ok eo165_0 followsTry is165 ⟨⟨sh165,cm165_0,by kernel_rfl,gm165_0,fm165_0⟩⟩
abbrev nt115:Nat:=58
def sh115:SG:=[(12,iS 2),(14,iS 2),(18,iT),(24,iT),(32,iS 2),(35,iT),(38,iS 2),(41,iT),(45,iT),(47,iT)]
def r115_2:LA:=[oO 2 (.box (.tmp 0)),oO 3 (.box (.tmp 1)),oO 4 (.alloc (zI 3)),mK 5 0]
def r115_4:LA:=[fA 11 0 2,lA 12 2 11,fA 13 0 3,lA 14 2 13,oO 15 (.call 116 [(.tmp 12),(.tmp 14)]),oO 6 (.alloc [(cI 0),(cI 0)]),sD 2 6 15]
def r115_6:LA:=[fA 17 0 6,lD 18 17,oO 19 (.call 117 [(.tmp 18),(kI 1048576)]),oM 16 19,oO 20 (.extract 0 (.tmp 16)),oO 21 (.extract 1 (.tmp 16)),oM 7 20,oM 8 21]
def r115_8:LA:=[fA 23 1 6,lD 24 23,oO 25 (.call 117 [(.tmp 24),(kI 1048576)]),oM 22 25,oO 26 (.extract 0 (.tmp 22)),oO 27 (.extract 1 (.tmp 22)),oM 9 26,oM 10 27]
def r115_10:LA:=[oM 28 7,oM 29 9,oO 30 (.build [(cI 0),(cI 0)] [(0,1,(.tmp 28)),(1,1,(.tmp 29))]),fA 31 0 2,lA 32 2 31,oO 33 (.call 119 [.tmp 32]),fA 34 2 3,lD 35 34,bT 36 .mul 33 35,fA 37 0 3,lA 38 2 37,oO 39 (.call 119 [.tmp 38]),fA 40 2 2,lD 41 40,bT 42 .mul 39 41,bT 43 .add 36 42,fA 44 2 2,lD 45 44,fA 46 2 3,lD 47 46,bT 48 .mul 45 47,bT 49 .add 43 48,oO 50 (.call 118 [(.tmp 49),(kI 1048576)]),oM 51 8,oM 52 51,oG 53 (.mv (.tmp 10)) 52 false,oO 54 (.pick (.tmp 52) (.const (.bool true)) (.tmp 53)),oO 55 (.call 120 [.tmp 54]),bT 56 .add 50 55,oO 57 (.build (zI 3) [(0,2,(.tmp 30)),(2,1,(.tmp 56))]),sD 3 4 57,mK 5 0]
def tr115:TG:=[tT 0 [2,3,4],tT 1 [2,3,4,6],tT 2 [2,3,4,6,7,8],tT 3 [2,3,4,7,8,9,10],tT 4 [4,5]]
def tl115:TG:=[]
def rs115:List AResV:=[.cell 4 true 3,.tmp 5]
def pr115_0_0:PT (List RV):=pRs [pR true [rD (dI .i64),rD (dI .i64),rD (dI .i64)],wI]
def ur115_0_0 {β:Type}(g:List RV->β):I4 β:=pr115_0_0.unc g
def E115_0g (a:Tf116_0)(b:Tf117_0)(c:Tf119_0)(d:Tf118_0)(e:Tf120_0):EnvK:=EnvK.of [⟨116,nt116,[⟨pa116_0,Fn116_0 a⟩]⟩,⟨117,nt117,[⟨pa117_0,Fn117_0 b⟩]⟩,⟨119,nt119,[⟨pa119_0,Fn119_0 c⟩]⟩,⟨118,nt118,[⟨pa118_0,Fn118_0 d⟩]⟩,⟨120,nt120,[⟨pa120_0,Fn120_0 e⟩]⟩] noSeq
def E115_0:EnvK:=E115_0g f116_0 f117_0 f119_0 f118_0 f120_0
theorem eo115_0:E115_0.Ok Pg:=EnvK.of_ok noSeq_ok ⟨⟨io116_0,trivial⟩,⟨io117_0,trivial⟩,⟨io119_0,trivial⟩,⟨io118_0,trivial⟩,⟨io120_0,trivial⟩,trivial⟩
abbrev Tf115_0:Type 1:=(α:Type)->Int->Int->Int->Int->Int->Int->(Int->Int->Int->Op α)->Op α
def f115_0g (p:Tf116_0)(a:Tf117_0)(q:Tf118_0)(b:Tf119_0)(c:Tf120_0)(α:Type)(d e g h i j:Int)(k1:Int->Int->Int->Op α):Op α:=
 p α d e h i
 (fun r s=>a α r 1048576
 (fun l t=>a α s 1048576
 (fun m w=>b α d e
 (fun z=>b α h i
 (fun A=>q α (w64 ((w64 ((w64 (z*j))+(w64 (A*g))))+(w64 (g*j)))) 1048576
 (fun o=>cK t
 (c α true
 (fun B=>k1 l m (w64 (o+B))))
 (c α w
 (fun C=>k1 l m (w64 (o+C))))))))))
def f115_0 (α:Type)(a b c d e g:Int)(k1:Int->Int->Int->Op α):Op α:=f115_0g f116_0 f117_0 f118_0 f119_0 f120_0 α a b c d e g k1
def pa115_0:PT (List DV):=pA [pV true [(dI .i64),(dI .i64),(dI .i64)],pV true [(dI .i64),(dI .i64),(dI .i64)]]
def Fn115_0 (v:Tf115_0)(α:Type)(k:RT α):I6 (Op α):=fun a b c d e g=>v α a b c d e g (fun h i j=>ur115_0_0 k h i j 0)
def cm115_0g:MCode:=(.seq (.region r115_2 [] (tO [2,3,4])) (.seq (.region r115_4 [] (tO [2,3,4,6])) (.seq (.region r115_6 [] (tO [2,3,4,6,7,8])) (.seq (.region r115_8 [] (tO [2,3,4,7,8,9,10])) (.seq (.region r115_10 [(5,7),(5,10),(7,11),(5,13),(11,13),(5,17),(11,17),(5,19),(11,19)] (tO [4,5])) .ret)))))
def cm115_0:MCode:=cm115_0g
theorem gm115_0:cm115_0.Good Pg E115_0 sh115:=⟨trivial,trivial,trivial,trivial,trivial,trivial⟩
theorem fm115_0g (a:Tf116_0)(b:Tf117_0)(c:Tf119_0)(d:Tf118_0)(e:Tf120_0)(α:Type)(k:RT α):Fn115_0 (f115_0g a b d c e) α k=pa115_0.unc fun ds=>fnM Pg (E115_0g a b c d e) sh115 (cm115_0g ) rs115 k ds:=by kernel_rfl
theorem fm115_0:∀ (α:Type) (k:RT α),Fn115_0 f115_0 α k=pa115_0.unc fun ds=>fnM Pg E115_0 sh115 cm115_0 rs115 k ds:=fm115_0g f116_0 f117_0 f119_0 f118_0 f120_0
theorem is115:FnIs Pg 115 nt115 tr115 tl115 cm115_0.erase rs115:=⟨Tryz.f115,Tryz.func115,rfl,by kernel_rfl,by kernel_rfl,by kernel_rfl⟩
theorem io115_0:InstOk Pg 115 nt115 ⟨pa115_0,Fn115_0 f115_0⟩:=inst_ok eo115_0 followsTry is115 ⟨⟨sh115,cm115_0,by kernel_rfl,gm115_0,fm115_0⟩⟩
abbrev nt94:Nat:=25
def sh94:SG:=[(8,[.cpx .f64]),(16,iT),(20,iS 2),(22,iT)]
def r94_2:LA:=[oO 1 (.box (.tmp 0)),oO 2 (.alloc (zI 3)),mK 3 0]
def r94_4:LA:=[fA 7 0 1,lD 8 7,oO 9 (.call 95 [(.tmp 8),(.const (.float Go.FloatKind.f64 4724276009111650304))]),oM 6 9,oO 10 (.extract 0 (.tmp 6)),oO 11 (.extract 1 (.tmp 6)),oO 4 (.alloc [(cI 0),(cI 0)]),sD 2 4 10,oM 5 11]
def r94_7:LA:=[oM 12 5,oO 13 (.bin .eql 26 (.tmp 12) (kI 0)),oM 14 13,oG 15 (.faddr 1 (.tmp 1)) 14 true,oG 16 (.load false 1 (.tmp 15)) 14 true,oG 17 (.call 127 [(.tmp 16),(kI 0),(kI 67108864)]) 14 true,oG 18 (.pure (oB (.unOp .not 4 (.tmp 17)) 4)) 14 true,oO 19 (.pick (.tmp 14) (.tmp 18) (.const (.bool false)))]
def r94_9:LA:=[mK 5 2]
def r94_11:LA:=[lA 20 2 4,fA 21 1 1,lD 22 21,oO 23 (.build (zI 3) [(0,2,(.tmp 20)),(2,1,(.tmp 22))]),oM 24 5,sD 3 2 23,oM 3 24]
def tr94:TG:=[tT 0 [1,2],tT 1 [1,2,4,5],tT 2 [1,2,4,5,19],tT 3 [1,2,4,5],tT 4 [2,3]]
def tl94:TG:=[]
def rs94:List AResV:=[.cell 2 true 3,.tmp 3]
def p94_0_0:PT St:=pS [sP 1,sP 2,sP 4,sI 5] [eBox 1 [(cD (dX .f64)),xI],eBox 2 (xs 3),eBox 4 [xI,xI]]
def u94_0_0 {β:Type}(g:St->β):Int->Nat->Nat->I6 β:=p94_0_0.unc g
def p94_0_1:PT St:=pS [sP 1,sP 2,sP 4,sI 5,sl 19 (aV false [(cD dB)])] [eBox 1 [(cD (dX .f64)),xI],eBox 2 (xs 3),eBox 4 [xI,xI]]
def u94_0_1 {β:Type}(g:St->β):Int->Bool->Nat->Nat->I6 β:=p94_0_1.unc g
def pr94_0_0:PT (List RV):=pRs [pR true [rD (dI .i64),rD (dI .i64),rD (dI .i64)],wI]
def ur94_0_0 {β:Type}(g:List RV->β):I4 β:=pr94_0_0.unc g
def E94_0g (a:Tf95_0)(b:Tf127_0):EnvK:=EnvK.of [⟨95,nt95,[⟨pa95_0,Fn95_0 a⟩]⟩,⟨127,nt127,[⟨pa127_0,Fn127_0 b⟩]⟩] noSeq
def E94_0:EnvK:=E94_0g f95_0 f127_0
theorem eo94_0:E94_0.Ok Pg:=EnvK.of_ok noSeq_ok ⟨⟨io95_0,trivial⟩,⟨io127_0,trivial⟩,trivial⟩
def c94_0_5g:MCode:=(.seq (.region r94_7 [] (tO [1,2,4,5,19])) (.cond (.tmp 19) (.region r94_9 [] (tO [1,2,4,5])) .skip))
def c94_0_5:MCode:=c94_0_5g
theorem g94_0_5:c94_0_5.Good Pg E94_0 sh94:=⟨trivial,trivial,trivial⟩
abbrev TJ94_0_0:Type 1:=(α:Type)->Int->Int->(Op α)->(Bool->Op α)->Op α
def J94_0_0g (b:Tf127_0)(α:Type)(c d:Int)(k1:Op α)(k2:Bool->Op α):Op α:=
 cK (c == 0)
 (b α d 0 67108864
 (fun a=>cK (!a)
 (k1)
 (k2 (!a))))
 (k2 false)
def J94_0_0 (α:Type)(a b:Int)(k1:Op α)(k2:Bool->Op α):Op α:=J94_0_0g f127_0 α a b k1 k2
def F94_0_0 (v:TJ94_0_0)(α:Type)(K:KT α):Int->Nat->Nat->I6 (Op α):=fun b c d a e g h i j=>v α b a (u94_0_0 (K .normal) 2 c d a e g h i j) (fun l=>u94_0_1 (K .normal) b l c d a e g h i j)
theorem m94_0_0g (b:Tf95_0)(a:Tf127_0)(α:Type)(K:KT α):F94_0_0 (J94_0_0g a) α K=p94_0_0.unc fun σ=>runM Pg (E94_0g b a) sh94 (c94_0_5g ) K σ:=by kernel_rfl
theorem m94_0_0:∀ (α:Type) (K:KT α),F94_0_0 J94_0_0 α K=p94_0_0.unc fun σ=>runM Pg E94_0 sh94 c94_0_5 K σ:=m94_0_0g f95_0 f127_0
abbrev Tf94_0:Type 1:=(α:Type)->Nat->Nat->Int->(Int->Int->Int->Op α)->Op α
def f94_0g (d:TJ94_0_0)(e:Tf95_0)(α:Type)(g h:Nat)(i:Int)(k1:Int->Int->Int->Op α):Op α:=
 e α g h 4724276009111650304
 (fun a b c=>d α c i
 (k1 a b 2)
 (fun j=>k1 a b c))
def f94_0 (α:Type)(a b:Nat)(c:Int)(k1:Int->Int->Int->Op α):Op α:=f94_0g J94_0_0 f95_0 α a b c k1
def pa94_0:PT (List DV):=pA [pV true [(dX .f64),(dI .i64)]]
def Fn94_0 (v:Tf94_0)(α:Type)(k:RT α):Nat->Nat->Int->Op α:=fun b c a=>v α b c a (fun d e g=>ur94_0_0 k d e a g)
def cm94_0g (a:TJ94_0_0):MCode:=(.seq (.region r94_2 [] (tO [1,2])) (.seq (.region r94_4 [] (tO [1,2,4,5])) (.seq (.mark [⟨p94_0_0,F94_0_0 a⟩] c94_0_5) (.seq (.region r94_11 [] (tO [2,3])) .ret))))
def cm94_0:MCode:=cm94_0g J94_0_0
theorem gm94_0:cm94_0.Good Pg E94_0 sh94:=⟨trivial,trivial,⟨g94_0_5,m94_0_0,trivial⟩,trivial,trivial⟩
theorem fm94_0g (a:Tf95_0)(c:Tf127_0)(b:TJ94_0_0)(α:Type)(k:RT α):Fn94_0 (f94_0g b a) α k=pa94_0.unc fun ds=>fnM Pg (E94_0g a c) sh94 (cm94_0g b) rs94 k ds:=by kernel_rfl
theorem fm94_0:∀ (α:Type) (k:RT α),Fn94_0 f94_0 α k=pa94_0.unc fun ds=>fnM Pg E94_0 sh94 cm94_0 rs94 k ds:=fm94_0g f95_0 f127_0 J94_0_0
theorem is94:FnIs Pg 94 nt94 tr94 tl94 cm94_0.erase rs94:=⟨Tryz.f94,Tryz.func94,rfl,by kernel_rfl,by kernel_rfl,by kernel_rfl⟩
theorem io94_0:InstOk Pg 94 nt94 ⟨pa94_0,Fn94_0 f94_0⟩:=inst_ok eo94_0 followsTry is94 ⟨⟨sh94,cm94_0,by kernel_rfl,gm94_0,fm94_0⟩⟩
abbrev nt156:Nat:=36
def sh156:SG:=[(30,iT),(32,iT)]
def r156_2:LA:=[oO 2 (.alloc [(cI 0),(cI 0)])]
def r156_4:LA:=[oM 4 0,oM 5 0,oO 6 (.call 139 [(.tmp 5),(kI 4194304)]),oO 7 (.bin .mul 3 (kI 4194304) (.tmp 6)),bT 8 .sub 4 7,oM 0 8]
def r156_8:LA:=[oM 10 0,bK 11 .geq 10 2097152,oM 9 11]
def r156_11:LA:=[oM 12 0,bK 13 .sub 12 2097152,oO 14 (.call 156 [.tmp 13]),oO 15 (.call 164 [(.tmp 14),(kI 2)]),sD 2 2 15]
def r156_13:LA:=[oM 17 0,bK 18 .geq 17 1048576,oM 16 18]
def r156_16:LA:=[oM 19 0,bK 20 .sub 19 1048576,oO 21 (.call 156 [.tmp 20]),oO 22 (.call 164 [(.tmp 21),(kI 1)]),sD 2 2 22]
def r156_18:LA:=[oM 24 0,bK 25 .gtr 24 524288,oM 23 25]
def r156_21:LA:=[oM 26 0,oO 27 (.bin .sub 3 (kI 1048576) (.tmp 26)),oO 28 (.call 165 [.tmp 27]),oO 3 (.alloc [(cI 0),(cI 0)]),sD 2 3 28]
def r156_23:LA:=[fA 29 1 3,lD 30 29,fA 31 0 3,lD 32 31,oO 33 (.build [(cI 0),(cI 0)] [(0,1,(.tmp 30)),(1,1,(.tmp 32))]),sD 2 2 33]
def r156_25:LA:=[oM 34 0,oO 35 (.call 165 [.tmp 34]),sD 2 2 35]
def tr156:TG:=[tT 0 [0,2],tT 1 [0,2],tT 2 [0,2,9],tT 3 [2],tT 4 [0,2,16],tT 5 [2],tT 6 [0,2,23],tT 7 [2,3],tT 8 [2],tT 9 [2]]
def tl156:TG:=[]
def rs156:List AResV:=[.cell 2 true 2]
def pr156_2_0:PT (List RV):=pRs [pR true [rD (dI .i64),rD (dI .i64)]]
def ur156_2_0 {β:Type}(g:List RV->β):Int->Int->β:=pr156_2_0.unc g
def E156_2g (a:Tf139_0)(b:Tf165_0):EnvK:=EnvK.of [⟨139,nt139,[⟨pa139_0,Fn139_0 a⟩]⟩,⟨165,nt165,[⟨pa165_0,Fn165_0 b⟩]⟩] noSeq
def E156_2:EnvK:=E156_2g f139_0 f165_0
theorem eo156_2:E156_2.Ok Pg:=EnvK.of_ok noSeq_ok ⟨⟨io139_0,trivial⟩,⟨io165_0,trivial⟩,trivial⟩
abbrev Tf156_2:Type 1:=(α:Type)->Int->(Int->Int->Op α)->Op α
def f156_2g (d:Tf139_0)(c:Tf165_0)(α:Type)(a:Int)(k1:Int->Int->Op α):Op α:=
 d α a 4194304
 (fun b=>cK (decide (2097152<=(w64 (a - (w64 (4194304*b))))))
 (none)
 (cK (decide (1048576<=(w64 (a - (w64 (4194304*b))))))
 (none)
 (cK (decide (524288 < (w64 (a - (w64 (4194304*b))))))
 (c α (w64 (1048576 - (w64 (a - (w64 (4194304*b))))))
 (fun e g=>k1 g e))
 (c α (w64 (a - (w64 (4194304*b))))
 (fun h i=>k1 h i)))))
def f156_2 (α:Type)(a:Int)(k1:Int->Int->Op α):Op α:=f156_2g f139_0 f165_0 α a k1
def pa156_2:PT (List DV):=pA [vI]
def Fn156_2 (v:Tf156_2)(α:Type)(k:RT α):Int->Op α:=fun a=>v α a (fun b c=>ur156_2_0 k b c)
def cm156_2g:MCode:=(.seq (.region r156_2 [] (tO [0,2])) (.seq (.region r156_4 [] (tO [0,2])) (.seq (.block 0 (.seq (.region r156_8 [] (tO [0,2,9])) (.cond (.tmp 9) (.seq (.region r156_11 [] (tO [2])) .ret) (.seq (.region r156_13 [] (tO [0,2,16])) (.cond (.tmp 16) (.seq (.region r156_16 [] (tO [2])) .ret) (.seq (.region r156_18 [] (tO [0,2,23])) (.cond (.tmp 23) (.seq (.region r156_21 [] (tO [2,3])) (.seq (.region r156_23 [] (tO [2])) .ret)) .skip))))))) (.seq (.region r156_25 [] (tO [2])) .ret))))
def cm156_2:MCode:=cm156_2g
theorem gm156_2:cm156_2.Good Pg E156_2 sh156:=⟨trivial,trivial,⟨trivial,⟨trivial,trivial⟩,trivial,⟨trivial,trivial⟩,trivial,⟨trivial,trivial,trivial⟩,trivial⟩,trivial,trivial⟩
theorem fm156_2g (a:Tf139_0)(b:Tf165_0)(α:Type)(k:RT α):Fn156_2 (f156_2g a b) α k=pa156_2.unc fun ds=>fnM Pg (E156_2g a b) sh156 (cm156_2g ) rs156 k ds:=by kernel_rfl
theorem fm156_2:∀ (α:Type) (k:RT α),Fn156_2 f156_2 α k=pa156_2.unc fun ds=>fnM Pg E156_2 sh156 cm156_2 rs156 k ds:=fm156_2g f139_0 f165_0
theorem is156:FnIs Pg 156 nt156 tr156 tl156 cm156_2.erase rs156:=⟨Tryz.f156,Tryz.func156,rfl,by kernel_rfl,by kernel_rfl,by kernel_rfl⟩
theorem io156_2:InstOk Pg 156 nt156 ⟨pa156_2,Fn156_2 f156_2⟩:=inst_ok eo156_2 followsTry is156 ⟨⟨sh156,cm156_2,by kernel_rfl,gm156_2,fm156_2⟩⟩
def pr156_1_0:PT (List RV):=pRs [pR true [rD (dI .i64),rD (dI .i64)]]
def ur156_1_0 {β:Type}(g:List RV->β):Int->Int->β:=pr156_1_0.unc g
def E156_1g (a:Tf139_0)(b:Tf156_2)(c:Tf164_0)(d:Tf165_0):EnvK:=EnvK.of [⟨139,nt139,[⟨pa139_0,Fn139_0 a⟩]⟩,⟨156,nt156,[⟨pa156_2,Fn156_2 b⟩]⟩,⟨164,nt164,[⟨pa164_0,Fn164_0 c⟩]⟩,⟨165,nt165,[⟨pa165_0,Fn165_0 d⟩]⟩] noSeq
def E156_1:EnvK:=E156_1g f139_0 f156_2 f164_0 f165_0
theorem eo156_1:E156_1.Ok Pg:=EnvK.of_ok noSeq_ok ⟨⟨io139_0,trivial⟩,⟨io156_2,trivial⟩,⟨io164_0,trivial⟩,⟨io165_0,trivial⟩,trivial⟩
abbrev Tf156_1:Type 1:=(α:Type)->Int->(Int->Int->Op α)->Op α
def f156_1g (g:Tf139_0)(c:Tf156_2)(d:Tf164_0)(e:Tf165_0)(α:Type)(a:Int)(k1:Int->Int->Op α):Op α:=
 g α a 4194304
 (fun b=>cK (decide (2097152<=(w64 (a - (w64 (4194304*b))))))
 (c α (w64 ((w64 (a - (w64 (4194304*b)))) - 2097152))
 (fun h i=>d α h i 2
 (fun j l=>k1 j l)))
 (cK (decide (1048576<=(w64 (a - (w64 (4194304*b))))))
 (c α (w64 ((w64 (a - (w64 (4194304*b)))) - 1048576))
 (fun m o=>d α m o 1
 (fun p q=>k1 p q)))
 (cK (decide (524288 < (w64 (a - (w64 (4194304*b))))))
 (e α (w64 (1048576 - (w64 (a - (w64 (4194304*b))))))
 (fun r s=>k1 s r))
 (e α (w64 (a - (w64 (4194304*b))))
 (fun t w=>k1 t w)))))
def f156_1 (α:Type)(a:Int)(k1:Int->Int->Op α):Op α:=f156_1g f139_0 f156_2 f164_0 f165_0 α a k1
def pa156_1:PT (List DV):=pA [vI]
def Fn156_1 (v:Tf156_1)(α:Type)(k:RT α):Int->Op α:=fun a=>v α a (fun b c=>ur156_1_0 k b c)
def cm156_1g:MCode:=(.seq (.region r156_2 [] (tO [0,2])) (.seq (.region r156_4 [] (tO [0,2])) (.seq (.block 0 (.seq (.region r156_8 [] (tO [0,2,9])) (.cond (.tmp 9) (.seq (.region r156_11 [] (tO [2])) .ret) (.seq (.region r156_13 [] (tO [0,2,16])) (.cond (.tmp 16) (.seq (.region r156_16 [] (tO [2])) .ret) (.seq (.region r156_18 [] (tO [0,2,23])) (.cond (.tmp 23) (.seq (.region r156_21 [] (tO [2,3])) (.seq (.region r156_23 [] (tO [2])) .ret)) .skip))))))) (.seq (.region r156_25 [] (tO [2])) .ret))))
def cm156_1:MCode:=cm156_1g
theorem gm156_1:cm156_1.Good Pg E156_1 sh156:=⟨trivial,trivial,⟨trivial,⟨trivial,trivial⟩,trivial,⟨trivial,trivial⟩,trivial,⟨trivial,trivial,trivial⟩,trivial⟩,trivial,trivial⟩
theorem fm156_1g (a:Tf139_0)(b:Tf156_2)(c:Tf164_0)(d:Tf165_0)(α:Type)(k:RT α):Fn156_1 (f156_1g a b c d) α k=pa156_1.unc fun ds=>fnM Pg (E156_1g a b c d) sh156 (cm156_1g ) rs156 k ds:=by kernel_rfl
theorem fm156_1:∀ (α:Type) (k:RT α),Fn156_1 f156_1 α k=pa156_1.unc fun ds=>fnM Pg E156_1 sh156 cm156_1 rs156 k ds:=fm156_1g f139_0 f156_2 f164_0 f165_0
theorem io156_1:InstOk Pg 156 nt156 ⟨pa156_1,Fn156_1 f156_1⟩:=inst_ok eo156_1 followsTry is156 ⟨⟨sh156,cm156_1,by kernel_rfl,gm156_1,fm156_1⟩⟩
def pr156_0_0:PT (List RV):=pRs [pR true [rD (dI .i64),rD (dI .i64)]]
def ur156_0_0 {β:Type}(g:List RV->β):Int->Int->β:=pr156_0_0.unc g
def E156_0g (a:Tf139_0)(b:Tf156_1)(c:Tf164_0)(d:Tf165_0):EnvK:=EnvK.of [⟨139,nt139,[⟨pa139_0,Fn139_0 a⟩]⟩,⟨156,nt156,[⟨pa156_1,Fn156_1 b⟩]⟩,⟨164,nt164,[⟨pa164_0,Fn164_0 c⟩]⟩,⟨165,nt165,[⟨pa165_0,Fn165_0 d⟩]⟩] noSeq
def E156_0:EnvK:=E156_0g f139_0 f156_1 f164_0 f165_0
theorem eo156_0:E156_0.Ok Pg:=EnvK.of_ok noSeq_ok ⟨⟨io139_0,trivial⟩,⟨io156_1,trivial⟩,⟨io164_0,trivial⟩,⟨io165_0,trivial⟩,trivial⟩
abbrev Tf156_0:Type 1:=(α:Type)->Int->(Int->Int->Op α)->Op α
def f156_0g (g:Tf139_0)(c:Tf156_1)(d:Tf164_0)(e:Tf165_0)(α:Type)(a:Int)(k1:Int->Int->Op α):Op α:=
 g α a 4194304
 (fun b=>cK (decide (2097152<=(w64 (a - (w64 (4194304*b))))))
 (c α (w64 ((w64 (a - (w64 (4194304*b)))) - 2097152))
 (fun h i=>d α h i 2
 (fun j l=>k1 j l)))
 (cK (decide (1048576<=(w64 (a - (w64 (4194304*b))))))
 (c α (w64 ((w64 (a - (w64 (4194304*b)))) - 1048576))
 (fun m o=>d α m o 1
 (fun p q=>k1 p q)))
 (cK (decide (524288 < (w64 (a - (w64 (4194304*b))))))
 (e α (w64 (1048576 - (w64 (a - (w64 (4194304*b))))))
 (fun r s=>k1 s r))
 (e α (w64 (a - (w64 (4194304*b))))
 (fun t w=>k1 t w)))))
def f156_0 (α:Type)(a:Int)(k1:Int->Int->Op α):Op α:=f156_0g f139_0 f156_1 f164_0 f165_0 α a k1
def pa156_0:PT (List DV):=pA [vI]
def Fn156_0 (v:Tf156_0)(α:Type)(k:RT α):Int->Op α:=fun a=>v α a (fun b c=>ur156_0_0 k b c)
def cm156_0g:MCode:=(.seq (.region r156_2 [] (tO [0,2])) (.seq (.region r156_4 [] (tO [0,2])) (.seq (.block 0 (.seq (.region r156_8 [] (tO [0,2,9])) (.cond (.tmp 9) (.seq (.region r156_11 [] (tO [2])) .ret) (.seq (.region r156_13 [] (tO [0,2,16])) (.cond (.tmp 16) (.seq (.region r156_16 [] (tO [2])) .ret) (.seq (.region r156_18 [] (tO [0,2,23])) (.cond (.tmp 23) (.seq (.region r156_21 [] (tO [2,3])) (.seq (.region r156_23 [] (tO [2])) .ret)) .skip))))))) (.seq (.region r156_25 [] (tO [2])) .ret))))
def cm156_0:MCode:=cm156_0g
theorem gm156_0:cm156_0.Good Pg E156_0 sh156:=⟨trivial,trivial,⟨trivial,⟨trivial,trivial⟩,trivial,⟨trivial,trivial⟩,trivial,⟨trivial,trivial,trivial⟩,trivial⟩,trivial,trivial⟩
theorem fm156_0g (a:Tf139_0)(b:Tf156_1)(c:Tf164_0)(d:Tf165_0)(α:Type)(k:RT α):Fn156_0 (f156_0g a b c d) α k=pa156_0.unc fun ds=>fnM Pg (E156_0g a b c d) sh156 (cm156_0g ) rs156 k ds:=by kernel_rfl
theorem fm156_0:∀ (α:Type) (k:RT α),Fn156_0 f156_0 α k=pa156_0.unc fun ds=>fnM Pg E156_0 sh156 cm156_0 rs156 k ds:=fm156_0g f139_0 f156_1 f164_0 f165_0
theorem io156_0:InstOk Pg 156 nt156 ⟨pa156_0,Fn156_0 f156_0⟩:=inst_ok eo156_0 followsTry is156 ⟨⟨sh156,cm156_0,by kernel_rfl,gm156_0,fm156_0⟩⟩
abbrev nt97:Nat:=31
def sh97:SG:=[(12,[.cpx .f64,.int .i64]),(20,[.cpx .f64,.int .i64]),(28,iS 3),(29,iS 3)]
def r97_2:LA:=[oO 3 (.box (.tmp 0)),oO 4 (.box (.tmp 1)),oO 6 (.mv (.const (.bool false))),mK 7 0]
def r97_4:LA:=[lA 12 2 3,oO 13 (.call 94 [.tmp 12]),oM 11 13,oO 14 (.extract 0 (.tmp 11)),oO 15 (.extract 1 (.tmp 11)),oO 8 (.alloc (zI 3)),sD 3 8 14,oM 9 15]
def r97_7:LA:=[oM 16 9,oO 17 (.bin .neq 26 (.tmp 16) (kI 0))]
def r97_10:LA:=[oM 18 9,oO 6 (.mv (.const (.bool false))),oM 7 18]
def r97_12:LA:=[lA 20 2 4,oO 21 (.call 94 [.tmp 20]),oM 19 21,oO 22 (.extract 0 (.tmp 19)),oO 23 (.extract 1 (.tmp 19)),oO 10 (.alloc (zI 3)),sD 3 10 22,oM 9 23]
def r97_15:LA:=[oM 24 9,oO 25 (.bin .neq 26 (.tmp 24) (kI 0))]
def r97_18:LA:=[oM 26 9,oO 6 (.mv (.const (.bool false))),oM 7 26]
def r97_20:LA:=[oM 27 2,lA 28 3 8,lA 29 3 10,oO 30 (.calld (.tmp 27) [(.tmp 28),(.tmp 29)]),oM 6 30,mK 7 0]
def tr97:TG:=[tT 0 [2,3,4],tT 1 [2,4,8,9],tT 2 [2,4,8,9,17],tT 3 [6,7],tT 4 [2,8,9,10],tT 5 [2,8,9,10,25],tT 6 [6,7],tT 7 [6,7]]
def tl97:TG:=[]
def rs97:List AResV:=[.tmp 6,.tmp 7]
def pr97_0_0:PT (List RV):=pRs [pR false [rD dB],wI]
def ur97_0_0 {β:Type}(g:List RV->β):Bool->Int->β:=pr97_0_0.unc g
def E97_0g (a:Tf94_0)(b:Tf98_0):EnvK:=EnvK.of [⟨94,nt94,[⟨pa94_0,Fn94_0 a⟩]⟩,⟨98,nt98,[⟨pa98_0,Fn98_0 b⟩]⟩] noSeq
def E97_0:EnvK:=E97_0g f94_0 f98_0
theorem eo97_0:E97_0.Ok Pg:=EnvK.of_ok noSeq_ok ⟨⟨io94_0,trivial⟩,⟨io98_0,trivial⟩,trivial⟩
abbrev Tf97_0:Type 1:=(α:Type)->Nat->Nat->Int->Nat->Nat->Int->(Bool->Int->Op α)->Op α
def f97_0g (a:Tf94_0)(g:Tf98_0)(α:Type)(h i:Nat)(b:Int)(j l:Nat)(c:Int)(k1:Bool->Int->Op α):Op α:=
 a α h i b
 (fun m o d=>cK (d != 0)
 (k1 false d)
 (a α j l c
 (fun p q e=>cK (e != 0)
 (k1 false e)
 (g α m o b p q c
 (fun r=>k1 r 0)))))
def f97_0 (α:Type)(a b:Nat)(c:Int)(d e:Nat)(g:Int)(k1:Bool->Int->Op α):Op α:=f97_0g f94_0 f98_0 α a b c d e g k1
def pa97_0:PT (List DV):=pA [pV true [(dX .f64),(dI .i64)],pV true [(dX .f64),(dI .i64)],pV false [(dFn 98 [])]]
def Fn97_0 (v:Tf97_0)(α:Type)(k:RT α):Nat->Nat->Int->Nat->Nat->Int->Op α:=fun a b c d e g=>v α a b c d e g (fun h i=>ur97_0_0 k h i)
def cm97_0g:MCode:=(.seq (.region r97_2 [] (tO [2,3,4])) (.seq (.region r97_4 [] (tO [2,4,8,9])) (.seq (.seq (.region r97_7 [] (tO [2,4,8,9,17])) (.cond (.tmp 17) (.seq (.region r97_10 [] (tO [6,7])) .ret) .skip)) (.seq (.region r97_12 [] (tO [2,8,9,10])) (.seq (.seq (.region r97_15 [] (tO [2,8,9,10,25])) (.cond (.tmp 25) (.seq (.region r97_18 [] (tO [6,7])) .ret) .skip)) (.seq (.region r97_20 [] (tO [6,7])) .ret))))))
def cm97_0:MCode:=cm97_0g
theorem gm97_0:cm97_0.Good Pg E97_0 sh97:=⟨trivial,trivial,⟨trivial,⟨trivial,trivial⟩,trivial⟩,trivial,⟨trivial,⟨trivial,trivial⟩,trivial⟩,trivial,trivial⟩
theorem fm97_0g (a:Tf94_0)(b:Tf98_0)(α:Type)(k:RT α):Fn97_0 (f97_0g a b) α k=pa97_0.unc fun ds=>fnM Pg (E97_0g a b) sh97 (cm97_0g ) rs97 k ds:=by kernel_rfl
theorem fm97_0:∀ (α:Type) (k:RT α),Fn97_0 f97_0 α k=pa97_0.unc fun ds=>fnM Pg E97_0 sh97 cm97_0 rs97 k ds:=fm97_0g f94_0 f98_0
theorem is97:FnIs Pg 97 nt97 tr97 tl97 cm97_0.erase rs97:=⟨Tryz.f97,Tryz.func97,rfl,by kernel_rfl,by kernel_rfl,by kernel_rfl⟩
theorem io97_0:InstOk Pg 97 nt97 ⟨pa97_0,Fn97_0 f97_0⟩:=inst_ok eo97_0 followsTry is97 ⟨⟨sh97,cm97_0,by kernel_rfl,gm97_0,fm97_0⟩⟩
abbrev nt145:Nat:=12
def sh145:SG:=[(7,iS 3),(8,iS 3)]
def r145_2:LA:=[oO 3 (.box (.tmp 0)),oO 4 (.alloc (zI 3)),mK 5 0]
def r145_4:LA:=[lD 6 1,lA 7 3 2,lA 8 3 3,oO 9 (.calld (.tmp 6) [(.tmp 7),(.tmp 8)]),oO 10 (.extract 0 (.tmp 9)),oO 11 (.extract 1 (.tmp 9)),sD 3 4 10,oM 5 11]
def tr145:TG:=[tT 0 [1,2,3,4],tT 1 [4,5]]
def tl145:TG:=[]
def rs145:List AResV:=[.cell 4 true 3,.tmp 5]
def pr145_0_0:PT (List RV):=pRs [pR true [rD (dI .i64),rD (dI .i64),rD (dI .i64)],wI]
def ur145_0_0 {β:Type}(g:List RV->β):I4 β:=pr145_0_0.unc g
def E145_0g (a:Tf154_0):EnvK:=EnvK.of [⟨154,nt154,[⟨pa154_0,Fn154_0 a⟩]⟩] noSeq
def E145_0:EnvK:=E145_0g f154_0
theorem eo145_0:E145_0.Ok Pg:=EnvK.of_ok noSeq_ok ⟨⟨io154_0,trivial⟩,trivial⟩
abbrev Tf145_0:Type 1:=(α:Type)->Int->Int->Int->Int->Int->Int->(Int->Int->Int->Op α)->Op α
def f145_0g (a:Tf154_0)(α:Type)(b c d e g h:Int)(k1:Int->Int->Int->Op α):Op α:=
 a α e g h b c d
 (fun i j l=>k1 i j l)
def f145_0 (α:Type)(a b c d e g:Int)(k1:Int->Int->Int->Op α):Op α:=f145_0g f154_0 α a b c d e g k1
def pa145_0:PT (List DV):=pA [pV true [(dI .i64),(dI .i64),(dI .i64)],pV false [(dP [(dFn 154 [])] 0)],pV false [(dP [(dI .i64),(dI .i64),(dI .i64)] 0)]]
def Fn145_0 (v:Tf145_0)(α:Type)(k:RT α):I6 (Op α):=fun a b c d e g=>v α a b c d e g (fun h i j=>ur145_0_0 k h i j 0)
def cm145_0g:MCode:=(.seq (.region r145_2 [] (tO [1,2,3,4])) (.seq (.region r145_4 [] (tO [4,5])) .ret))
def cm145_0:MCode:=cm145_0g
theorem gm145_0:cm145_0.Good Pg E145_0 sh145:=⟨trivial,trivial,trivial⟩
theorem fm145_0g (a:Tf154_0)(α:Type)(k:RT α):Fn145_0 (f145_0g a) α k=pa145_0.unc fun ds=>fnM Pg (E145_0g a) sh145 (cm145_0g ) rs145 k ds:=by kernel_rfl
theorem fm145_0:∀ (α:Type) (k:RT α),Fn145_0 f145_0 α k=pa145_0.unc fun ds=>fnM Pg E145_0 sh145 cm145_0 rs145 k ds:=fm145_0g f154_0
theorem is145:FnIs Pg 145 nt145 tr145 tl145 cm145_0.erase rs145:=⟨Tryz.f145,Tryz.func145,rfl,by kernel_rfl,by kernel_rfl,by kernel_rfl⟩
theorem io145_0:InstOk Pg 145 nt145 ⟨pa145_0,Fn145_0 f145_0⟩:=inst_ok eo145_0 followsTry is145 ⟨⟨sh145,cm145_0,by kernel_rfl,gm145_0,fm145_0⟩⟩
def pr145_1_0:PT (List RV):=pRs [pR true [rD (dI .i64),rD (dI .i64),rD (dI .i64)],wI]
def ur145_1_0 {β:Type}(g:List RV->β):I4 β:=pr145_1_0.unc g
def E145_1g (a:Tf115_0):EnvK:=EnvK.of [⟨115,nt115,[⟨pa115_0,Fn115_0 a⟩]⟩] noSeq
def E145_1:EnvK:=E145_1g f115_0
theorem eo145_1:E145_1.Ok Pg:=EnvK.of_ok noSeq_ok ⟨⟨io115_0,trivial⟩,trivial⟩
abbrev Tf145_1:Type 1:=(α:Type)->Int->Int->Int->Int->Int->Int->(Int->Int->Int->Op α)->Op α
def f145_1g (a:Tf115_0)(α:Type)(b c d e g h:Int)(k1:Int->Int->Int->Op α):Op α:=
 a α e g h b c d
 (fun i j l=>k1 i j l)
def f145_1 (α:Type)(a b c d e g:Int)(k1:Int->Int->Int->Op α):Op α:=f145_1g f115_0 α a b c d e g k1
def pa145_1:PT (List DV):=pA [pV true [(dI .i64),(dI .i64),(dI .i64)],pV false [(dP [(dFn 115 [])] 0)],pV false [(dP [(dI .i64),(dI .i64),(dI .i64)] 0)]]
def Fn145_1 (v:Tf145_1)(α:Type)(k:RT α):I6 (Op α):=fun a b c d e g=>v α a b c d e g (fun h i j=>ur145_1_0 k h i j 0)
def cm145_1g:MCode:=(.seq (.region r145_2 [] (tO [1,2,3,4])) (.seq (.region r145_4 [] (tO [4,5])) .ret))
def cm145_1:MCode:=cm145_1g
theorem gm145_1:cm145_1.Good Pg E145_1 sh145:=⟨trivial,trivial,trivial⟩
theorem fm145_1g (a:Tf115_0)(α:Type)(k:RT α):Fn145_1 (f145_1g a) α k=pa145_1.unc fun ds=>fnM Pg (E145_1g a) sh145 (cm145_1g ) rs145 k ds:=by kernel_rfl
theorem fm145_1:∀ (α:Type) (k:RT α),Fn145_1 f145_1 α k=pa145_1.unc fun ds=>fnM Pg E145_1 sh145 cm145_1 rs145 k ds:=fm145_1g f115_0
theorem io145_1:InstOk Pg 145 nt145 ⟨pa145_1,Fn145_1 f145_1⟩:=inst_ok eo145_1 followsTry is145 ⟨⟨sh145,cm145_1,by kernel_rfl,gm145_1,fm145_1⟩⟩
def pr145_2_0:PT (List RV):=pRs [pR true [rD (dI .i64),rD (dI .i64),rD (dI .i64)],wI]
def ur145_2_0 {β:Type}(g:List RV->β):I4 β:=pr145_2_0.unc g
def E145_2g (a:Tf122_0):EnvK:=EnvK.of [⟨122,nt122,[⟨pa122_0,Fn122_0 a⟩]⟩] noSeq
def E145_2:EnvK:=E145_2g f122_0
theorem eo145_2:E145_2.Ok Pg:=EnvK.of_ok noSeq_ok ⟨⟨io122_0,trivial⟩,trivial⟩
abbrev Tf145_2:Type 1:=(α:Type)->Int->Int->Int->Int->Int->Int->(Int->Int->Int->Op α)->Op α
def f145_2g (a:Tf122_0)(α:Type)(b c d e g h:Int)(k1:Int->Int->Int->Op α):Op α:=
 a α e g h b c d
 (fun i j l=>k1 i j l)
def f145_2 (α:Type)(a b c d e g:Int)(k1:Int->Int->Int->Op α):Op α:=f145_2g f122_0 α a b c d e g k1
def pa145_2:PT (List DV):=pA [pV true [(dI .i64),(dI .i64),(dI .i64)],pV false [(dP [(dFn 122 [])] 0)],pV false [(dP [(dI .i64),(dI .i64),(dI .i64)] 0)]]
def Fn145_2 (v:Tf145_2)(α:Type)(k:RT α):I6 (Op α):=fun a b c d e g=>v α a b c d e g (fun h i j=>ur145_2_0 k h i j 0)
def cm145_2g:MCode:=(.seq (.region r145_2 [] (tO [1,2,3,4])) (.seq (.region r145_4 [] (tO [4,5])) .ret))
def cm145_2:MCode:=cm145_2g
theorem gm145_2:cm145_2.Good Pg E145_2 sh145:=⟨trivial,trivial,trivial⟩
theorem fm145_2g (a:Tf122_0)(α:Type)(k:RT α):Fn145_2 (f145_2g a) α k=pa145_2.unc fun ds=>fnM Pg (E145_2g a) sh145 (cm145_2g ) rs145 k ds:=by kernel_rfl
theorem fm145_2:∀ (α:Type) (k:RT α),Fn145_2 f145_2 α k=pa145_2.unc fun ds=>fnM Pg E145_2 sh145 cm145_2 rs145 k ds:=fm145_2g f122_0
theorem io145_2:InstOk Pg 145 nt145 ⟨pa145_2,Fn145_2 f145_2⟩:=inst_ok eo145_2 followsTry is145 ⟨⟨sh145,cm145_2,by kernel_rfl,gm145_2,fm145_2⟩⟩
abbrev nt44:Nat:=31
def sh44:SG:=[(10,[.cpx .f64,.int .i64]),(25,iS 2),(27,iS 2),(29,iT)]
def r44_2:LA:=[oO 2 (.box (.tmp 0)),oO 4 (.mv (.const (.bool false))),mK 5 0]
def r44_4:LA:=[lA 10 2 2,oO 11 (.call 94 [.tmp 10]),oM 9 11,oO 12 (.extract 0 (.tmp 9)),oO 13 (.extract 1 (.tmp 9)),oO 6 (.alloc (zI 3)),sD 3 6 12,oM 7 13]
def r44_7:LA:=[oM 14 7,oO 15 (.bin .neq 26 (.tmp 14) (kI 0))]
def r44_10:LA:=[oM 16 7,oO 4 (.mv (.const (.bool false))),oM 5 16]
def r44_12:LA:=[oM 18 1,oO 19 (.call 95 [(.tmp 18),(.const (.float Go.FloatKind.f64 4728779608739020800))]),oM 17 19,oO 20 (.extract 0 (.tmp 17)),oO 21 (.extract 1 (.tmp 17)),oO 8 (.alloc [(cI 0),(cI 0)]),sD 2 8 20,oM 7 21]
def r44_15:LA:=[oM 22 7,oO 23 (.bin .neq 26 (.tmp 22) (kI 0))]
def r44_18:LA:=[oM 24 7,oO 4 (.mv (.const (.bool false))),oM 5 24]
def r44_20:LA:=[lA 25 2 8,fA 26 0 6,lA 27 2 26,fA 28 2 6,lD 29 28,oO 30 (.call 96 [(.tmp 25),(.tmp 27),(.tmp 29)]),oM 4 30,mK 5 0]
def tr44:TG:=[tT 0 [1,2],tT 1 [1,6,7],tT 2 [1,6,7,15],tT 3 [4,5],tT 4 [6,7,8],tT 5 [6,7,8,23],tT 6 [4,5],tT 7 [4,5]]
def tl44:TG:=[]
def rs44:List AResV:=[.tmp 4,.tmp 5]
def pr44_0_0:PT (List RV):=pRs [pR false [rD dB],wI]
def ur44_0_0 {β:Type}(g:List RV->β):Bool->Int->β:=pr44_0_0.unc g
def E44_0g (a:Tf94_0)(b:Tf95_0)(c:Tf96_0):EnvK:=EnvK.of [⟨94,nt94,[⟨pa94_0,Fn94_0 a⟩]⟩,⟨95,nt95,[⟨pa95_0,Fn95_0 b⟩]⟩,⟨96,nt96,[⟨pa96_0,Fn96_0 c⟩]⟩] noSeq
def E44_0:EnvK:=E44_0g f94_0 f95_0 f96_0
theorem eo44_0:E44_0.Ok Pg:=EnvK.of_ok noSeq_ok ⟨⟨io94_0,trivial⟩,⟨io95_0,trivial⟩,⟨io96_0,trivial⟩,trivial⟩
abbrev Tf44_0:Type 1:=(α:Type)->Nat->Nat->Int->Nat->Nat->(Bool->Int->Op α)->Op α
def f44_0g (d:Tf94_0)(e:Tf95_0)(g:Tf96_0)(α:Type)(h i:Nat)(a:Int)(j l:Nat)(k1:Bool->Int->Op α):Op α:=
 d α h i a
 (fun m o b=>cK (b != 0)
 (k1 false b)
 (e α j l 4728779608739020800
 (fun p q c=>cK (c != 0)
 (k1 false c)
 (g α p q m o a
 (fun r=>k1 r 0)))))
def f44_0 (α:Type)(a b:Nat)(c:Int)(d e:Nat)(k1:Bool->Int->Op α):Op α:=f44_0g f94_0 f95_0 f96_0 α a b c d e k1
def pa44_0:PT (List DV):=pA [pV true [(dX .f64),(dI .i64)],pV false [(dX .f64)]]
def Fn44_0 (v:Tf44_0)(α:Type)(k:RT α):Nat->Nat->Int->Nat->Nat->Op α:=fun a b c d e=>v α a b c d e (fun g h=>ur44_0_0 k g h)
def cm44_0g:MCode:=(.seq (.region r44_2 [] (tO [1,2])) (.seq (.region r44_4 [] (tO [1,6,7])) (.seq (.seq (.region r44_7 [] (tO [1,6,7,15])) (.cond (.tmp 15) (.seq (.region r44_10 [] (tO [4,5])) .ret) .skip)) (.seq (.region r44_12 [] (tO [6,7,8])) (.seq (.seq (.region r44_15 [] (tO [6,7,8,23])) (.cond (.tmp 23) (.seq (.region r44_18 [] (tO [4,5])) .ret) .skip)) (.seq (.region r44_20 [] (tO [4,5])) .ret))))))
def cm44_0:MCode:=cm44_0g
theorem gm44_0:cm44_0.Good Pg E44_0 sh44:=⟨trivial,trivial,⟨trivial,⟨trivial,trivial⟩,trivial⟩,trivial,⟨trivial,⟨trivial,trivial⟩,trivial⟩,trivial,trivial⟩
theorem fm44_0g (a:Tf94_0)(b:Tf95_0)(c:Tf96_0)(α:Type)(k:RT α):Fn44_0 (f44_0g a b c) α k=pa44_0.unc fun ds=>fnM Pg (E44_0g a b c) sh44 (cm44_0g ) rs44 k ds:=by kernel_rfl
theorem fm44_0:∀ (α:Type) (k:RT α),Fn44_0 f44_0 α k=pa44_0.unc fun ds=>fnM Pg E44_0 sh44 cm44_0 rs44 k ds:=fm44_0g f94_0 f95_0 f96_0
theorem is44:FnIs Pg 44 nt44 tr44 tl44 cm44_0.erase rs44:=⟨Tryz.f44,Tryz.func44,rfl,by kernel_rfl,by kernel_rfl,by kernel_rfl⟩
theorem io44_0:InstOk Pg 44 nt44 ⟨pa44_0,Fn44_0 f44_0⟩:=inst_ok eo44_0 followsTry is44 ⟨⟨sh44,cm44_0,by kernel_rfl,gm44_0,fm44_0⟩⟩
abbrev nt64:Nat:=11
def sh64:SG:=[(6,[.cpx .f64,.int .i64])]
def r64_2:LA:=[oO 1 (.box (.tmp 0)),mK 2 0]
def r64_4:LA:=[lA 6 2 1,oO 7 (.call 94 [.tmp 6]),oM 5 7,oO 8 (.extract 0 (.tmp 5)),oO 9 (.extract 1 (.tmp 5)),oO 3 (.alloc (zI 3)),sD 3 3 8,oM 4 9]
def r64_6:LA:=[oM 10 4,oM 2 10]
def tr64:TG:=[tT 0 [1],tT 1 [4],tT 2 [2]]
def tl64:TG:=[]
def rs64:List AResV:=[.tmp 2]
def pr64_0_0:PT (List RV):=pRs [wI]
def ur64_0_0 {β:Type}(g:List RV->β):Int->β:=pr64_0_0.unc g
def E64_0g (a:Tf94_0):EnvK:=EnvK.of [⟨94,nt94,[⟨pa94_0,Fn94_0 a⟩]⟩] noSeq
def E64_0:EnvK:=E64_0g f94_0
theorem eo64_0:E64_0.Ok Pg:=EnvK.of_ok noSeq_ok ⟨⟨io94_0,trivial⟩,trivial⟩
abbrev Tf64_0:Type 1:=(α:Type)->Nat->Nat->Int->(Int->Op α)->Op α
def f64_0g (a:Tf94_0)(α:Type)(b c:Nat)(d:Int)(k1:Int->Op α):Op α:=
 a α b c d
 (fun g h e=>k1 e)
def f64_0 (α:Type)(a b:Nat)(c:Int)(k1:Int->Op α):Op α:=f64_0g f94_0 α a b c k1
def pa64_0:PT (List DV):=pA [pV true [(dX .f64),(dI .i64)]]
def Fn64_0 (v:Tf64_0)(α:Type)(k:RT α):Nat->Nat->Int->Op α:=fun a b c=>v α a b c (fun d=>ur64_0_0 k d)
def cm64_0g:MCode:=(.seq (.region r64_2 [] (tO [1])) (.seq (.region r64_4 [] (tO [4])) (.seq (.region r64_6 [] (tO [2])) .ret)))
def cm64_0:MCode:=cm64_0g
theorem gm64_0:cm64_0.Good Pg E64_0 sh64:=⟨trivial,trivial,trivial,trivial⟩
theorem fm64_0g (a:Tf94_0)(α:Type)(k:RT α):Fn64_0 (f64_0g a) α k=pa64_0.unc fun ds=>fnM Pg (E64_0g a) sh64 (cm64_0g ) rs64 k ds:=by kernel_rfl
theorem fm64_0:∀ (α:Type) (k:RT α),Fn64_0 f64_0 α k=pa64_0.unc fun ds=>fnM Pg E64_0 sh64 cm64_0 rs64 k ds:=fm64_0g f94_0
theorem is64:FnIs Pg 64 nt64 tr64 tl64 cm64_0.erase rs64:=⟨Tryz.f64,Tryz.func64,rfl,by kernel_rfl,by kernel_rfl,by kernel_rfl⟩
theorem io64_0:InstOk Pg 64 nt64 ⟨pa64_0,Fn64_0 f64_0⟩:=inst_ok eo64_0 followsTry is64 ⟨⟨sh64,cm64_0,by kernel_rfl,gm64_0,fm64_0⟩⟩
abbrev nt138:Nat:=54
def sh138:SG:=[(21,iT),(27,iT),(50,iS 3)]
def r138_2:LA:=[oO 4 (.alloc [(.d (.v (.complex Go.FloatKind.f64 0 0))),(cI 0)]),mK 5 0]
def r138_4:LA:=[oM 13 0,oM 14 1,bT 15 .add 13 14,oO 16 (.call 139 [(.tmp 15),(kI 2)]),oM 6 16]
def r138_6:LA:=[oM 17 6,oO 18 (.call 156 [.tmp 17]),oO 7 (.alloc [(cI 0),(cI 0)]),sD 2 7 18]
def r138_8:LA:=[fA 20 0 7,lD 21 20,oO 22 (.call 117 [(.tmp 21),(kI 64)]),oM 19 22,oO 23 (.extract 0 (.tmp 19)),oO 24 (.extract 1 (.tmp 19)),oM 8 23,oM 9 24]
def r138_10:LA:=[fA 26 1 7,lD 27 26,oO 28 (.call 117 [(.tmp 27),(kI 64)]),oM 25 28,oO 29 (.extract 0 (.tmp 25)),oO 30 (.extract 1 (.tmp 25)),oM 10 29,oM 11 30]
def r138_12:LA:=[oM 31 8,oM 32 10,oO 33 (.build [(cI 0),(cI 0)] [(0,1,(.tmp 31)),(1,1,(.tmp 32))]),oM 34 1,oM 35 6,bT 36 .sub 34 35,oO 37 (.bin .mul 3 (kI 11) (.tmp 36)),oO 38 (.call 118 [(.tmp 37),(kI 7)]),oO 39 (.bin .add 3 (kI 2) (.tmp 38)),oO 40 (.build (zI 3) [(0,2,(.tmp 33)),(2,1,(.tmp 39))]),oO 12 (.alloc (zI 3)),sD 3 12 40]
def r138_15:LA:=[oM 41 0,oM 42 1,bT 43 .eql 41 42,oM 44 43,oG 45 (.mv (.tmp 0)) 44 true,oG 46 (.bin .rem 3 (.tmp 45) (kI 1048576)) 44 true,oG 47 (.bin .eql 3 (.tmp 46) (kI 0)) 44 true,oO 48 (.pick (.tmp 44) (.tmp 47) (.const (.bool false)))]
def r138_17:LA:=[fA 49 2 12,oD (.store 1 (.tmp 49) (kI 0))]
def r138_19:LA:=[lA 50 3 12,oO 51 (.call 157 [.tmp 50]),oO 52 (.extract 0 (.tmp 51)),oO 53 (.extract 1 (.tmp 51)),sD 2 4 52,oM 5 53]
def tr138:TG:=[tT 0 [0,1,4],tT 1 [0,1,4,6],tT 2 [0,1,4,6,7],tT 3 [0,1,4,6,7,8],tT 4 [0,1,4,6,8,10],tT 5 [0,1,4,12],tT 6 [4,12,48],tT 7 [4,12],tT 8 [4,5]]
def tl138:TG:=[]
def rs138:List AResV:=[.cell 4 true 2,.tmp 5]
def p138_0_0:PT St:=pS [sI 0,sI 1,sP 4,sP 12] [eBox 4 [(cD (dX .f64)),xI],eBox 12 (xs 3)]
def u138_0_0 {β:Type}(g:St->β):Int->Int->Nat->Nat->I4 β:=p138_0_0.unc g
def p138_0_1:PT St:=pS [sP 4,sP 12] [eBox 4 [(cD (dX .f64)),xI],eBox 12 (xs 3)]
def u138_0_1 {β:Type}(g:St->β):Nat->Nat->I4 β:=p138_0_1.unc g
def p138_0_2:PT St:=pS [sP 4,sP 12,sl 48 (aV false [(cD dB)])] [eBox 4 [(cD (dX .f64)),xI],eBox 12 (xs 3)]
def u138_0_2 {β:Type}(g:St->β):Bool->Nat->Nat->I4 β:=p138_0_2.unc g
def pr138_0_0:PT (List RV):=pRs [pR true [rD (dX .f64),rD (dI .i64)],wI]
def ur138_0_0 {β:Type}(g:List RV->β):Nat->Nat->Int->Int->β:=pr138_0_0.unc g
def E138_0g (a:Tf139_0)(b:Tf156_0)(c:Tf117_0)(d:Tf118_0)(e:Tf157_0):EnvK:=EnvK.of [⟨139,nt139,[⟨pa139_0,Fn139_0 a⟩]⟩,⟨156,nt156,[⟨pa156_0,Fn156_0 b⟩]⟩,⟨117,nt117,[⟨pa117_0,Fn117_0 c⟩]⟩,⟨118,nt118,[⟨pa118_0,Fn118_0 d⟩]⟩,⟨157,nt157,[⟨pa157_0,Fn157_0 e⟩]⟩] noSeq
def E138_0:EnvK:=E138_0g f139_0 f156_0 f117_0 f118_0 f157_0
theorem eo138_0:E138_0.Ok Pg:=EnvK.of_ok noSeq_ok ⟨⟨io139_0,trivial⟩,⟨io156_0,trivial⟩,⟨io117_0,trivial⟩,⟨io118_0,trivial⟩,⟨io157_0,trivial⟩,trivial⟩
def c138_0_13g:MCode:=(.seq (.region r138_15 [] (tO [4,12,48])) (.cond (.tmp 48) (.region r138_17 [] (tO [4,12])) .skip))
def c138_0_13:MCode:=c138_0_13g
theorem g138_0_13:c138_0_13.Good Pg E138_0 sh138:=⟨trivial,trivial,trivial⟩
abbrev TJ138_0_0:Type 1:=(α:Type)->Int->Int->(Op α)->(Bool->Op α)->Op α
def J138_0_0g (α:Type)(a b:Int)(k1:Op α)(k2:Bool->Op α):Op α:=
 cK (a == b)
 (cK ((Int.tmod a 1048576) == 0)
 (k1)
 (k2 ((Int.tmod a 1048576) == 0)))
 (k2 false)
def J138_0_0 (α:Type)(a b:Int)(k1:Op α)(k2:Bool->Op α):Op α:=J138_0_0g α a b k1 k2
def F138_0_0 (v:TJ138_0_0)(α:Type)(K:KT α):Int->Int->Nat->Nat->I4 (Op α):=fun g h a b c d e i=>v α g h (u138_0_1 (K .normal) a b c d e 0) (fun j=>u138_0_2 (K .normal) j a b c d e i)
theorem m138_0_0g (a:Tf139_0)(b:Tf156_0)(c:Tf117_0)(d:Tf118_0)(e:Tf157_0)(α:Type)(K:KT α):F138_0_0 (J138_0_0g ) α K=p138_0_0.unc fun σ=>runM Pg (E138_0g a b c d e) sh138 (c138_0_13g ) K σ:=by kernel_rfl
theorem m138_0_0:∀ (α:Type) (K:KT α),F138_0_0 J138_0_0 α K=p138_0_0.unc fun σ=>runM Pg E138_0 sh138 c138_0_13 K σ:=m138_0_0g f139_0 f156_0 f117_0 f118_0 f157_0
abbrev Tf138_0:Type 1:=(α:Type)->Int->Int->(Nat->Nat->Int->Int->Op α)->Op α
def f138_0g (i:TJ138_0_0)(b:Tf117_0)(j:Tf118_0)(l:Tf139_0)(m:Tf156_0)(c:Tf157_0)(α:Type)(d a:Int)(k1:Nat->Nat->Int->Int->Op α):Op α:=
 l α (w64 (d+a)) 2
 (fun e=>m α e
 (fun o p=>b α o 64
 (fun g D=>b α p 64
 (fun h F=>j α (w64 (11*(w64 (a - e)))) 7
 (fun q=>i α d a
 (c α g h 0
 (fun r s t w=>k1 r s t w))
 (fun G=>c α g h (w64 (2+q))
 (fun z A B C=>k1 z A B C)))))))
def f138_0 (α:Type)(a b:Int)(k1:Nat->Nat->Int->Int->Op α):Op α:=f138_0g J138_0_0 f117_0 f118_0 f139_0 f156_0 f157_0 α a b k1
def pa138_0:PT (List DV):=pA [vI,vI]
def Fn138_0 (v:Tf138_0)(α:Type)(k:RT α):Int->Int->Op α:=fun a b=>v α a b (fun c d e g=>ur138_0_0 k c d e g)
def cm138_0g (a:TJ138_0_0):MCode:=(.seq (.region r138_2 [] (tO [0,1,4])) (.seq (.region r138_4 [] (tO [0,1,4,6])) (.seq (.region r138_6 [] (tO [0,1,4,6,7])) (.seq (.region r138_8 [] (tO [0,1,4,6,7,8])) (.seq (.region r138_10 [] (tO [0,1,4,6,8,10])) (.seq (.region r138_12 [] (tO [0,1,4,12])) (.seq (.mark [⟨p138_0_0,F138_0_0 a⟩] c138_0_13) (.seq (.region r138_19 [] (tO [4,5])) .ret))))))))
def cm138_0:MCode:=cm138_0g J138_0_0
theorem gm138_0:cm138_0.Good Pg E138_0 sh138:=⟨trivial,trivial,trivial,trivial,trivial,trivial,⟨g138_0_13,m138_0_0,trivial⟩,trivial,trivial⟩
theorem fm138_0g (a:Tf139_0)(b:Tf156_0)(c:Tf117_0)(d:Tf118_0)(e:Tf157_0)(g:TJ138_0_0)(α:Type)(k:RT α):Fn138_0 (f138_0g g c d a b e) α k=pa138_0.unc fun ds=>fnM Pg (E138_0g a b c d e) sh138 (cm138_0g g) rs138 k ds:=by kernel_rfl
theorem fm138_0:∀ (α:Type) (k:RT α),Fn138_0 f138_0 α k=pa138_0.unc fun ds=>fnM Pg E138_0 sh138 cm138_0 rs138 k ds:=fm138_0g f139_0 f156_0 f117_0 f118_0 f157_0 J138_0_0
theorem is138:FnIs Pg 138 nt138 tr138 tl138 cm138_0.erase rs138:=⟨Tryz.f138,Tryz.func138,rfl,by kernel_rfl,by kernel_rfl,by kernel_rfl⟩
theorem io138_0:InstOk Pg 138 nt138 ⟨pa138_0,Fn138_0 f138_0⟩:=inst_ok eo138_0 followsTry is138 ⟨⟨sh138,cm138_0,by kernel_rfl,gm138_0,fm138_0⟩⟩
end
end Go.AM.K
