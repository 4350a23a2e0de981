/- Printed by KGen. -/
import Derived.Test.YtehamglokkjipaaGreatQX8a
import Derived.Test.YtehamglokkjipaaGreatQEp
namespace Go.AM.K
open Go.Proofs
set_option maxRecDepth 100000
set_option linter.unusedVariables false
noncomputable section
abbrev nt46:Nat:=11
def sh46:SG:=[(6,[.cpx .f64,.int .i64]),(7,[.cpx .f64,.int .i64])]
def r46_2:LA:=[oO 2 (.box (.tmp 0)),oO 3 (.box (.tmp 1)),oO 4 (.mv (.const (.bool false))),mK 5 0]
def r46_4:LA:=[lA 6 2 2,lA 7 2 3,oO 8 (.call 97 [(.tmp 6),(.tmp 7),(.func 98)]),oO 9 (.extract 0 (.tmp 8)),oO 10 (.extract 1 (.tmp 8)),oM 4 9,oM 5 10]
def tr46:TG:=[tT 0 [2,3],tT 1 [4,5]]
def tl46:TG:=[]
def rs46:List AResV:=[.tmp 4,.tmp 5]
def pr46_0_0:PT (List RV):=pRs [pR false [rD dB],wI]
def ur46_0_0 {β:Type}(g:List RV->β):Bool->Int->β:=pr46_0_0.unc g
def E46_0g (a:Tf97_0):EnvK:=EnvK.of [⟨97,nt97,[⟨pa97_0,Fn97_0 a⟩]⟩] noSeq
def E46_0:EnvK:=E46_0g f97_0
theorem eo46_0:E46_0.Ok Pg:=EnvK.of_ok noSeq_ok ⟨⟨io97_0,trivial⟩,trivial⟩
abbrev Tf46_0:Type 1:=(α:Type)->Nat->Nat->Int->Nat->Nat->Int->(Bool->Int->Op α)->Op α
def f46_0g (a:Tf97_0)(α:Type)(b c:Nat)(d:Int)(e g:Nat)(h:Int)(k1:Bool->Int->Op α):Op α:=
 a α b c d e g h
 (fun i j=>k1 i j)
def f46_0 (α:Type)(a b:Nat)(c:Int)(d e:Nat)(g:Int)(k1:Bool->Int->Op α):Op α:=f46_0g f97_0 α a b c d e g k1
def pa46_0:PT (List DV):=pA [pV true [(dX .f64),(dI .i64)],pV true [(dX .f64),(dI .i64)]]
def Fn46_0 (v:Tf46_0)(α:Type)(k:RT α):Nat->Nat->Int->Nat->Nat->Int->Op α:=fun a b c d e g=>v α a b c d e g (fun h i=>ur46_0_0 k h i)
def cm46_0g:MCode:=(.seq (.region r46_2 [] (tO [2,3])) (.seq (.region r46_4 [] (tO [4,5])) .ret))
def cm46_0:MCode:=cm46_0g
theorem gm46_0:cm46_0.Good Pg E46_0 sh46:=⟨trivial,trivial,trivial⟩
theorem fm46_0g (a:Tf97_0)(α:Type)(k:RT α):Fn46_0 (f46_0g a) α k=pa46_0.unc fun ds=>fnM Pg (E46_0g a) sh46 (cm46_0g ) rs46 k ds:=by kernel_rfl
theorem fm46_0:∀ (α:Type) (k:RT α),Fn46_0 f46_0 α k=pa46_0.unc fun ds=>fnM Pg E46_0 sh46 cm46_0 rs46 k ds:=fm46_0g f97_0
theorem is46:FnIs Pg 46 nt46 tr46 tl46 cm46_0.erase rs46:=⟨Tryz.f46,Tryz.func46,rfl,by kernel_rfl,by kernel_rfl,by kernel_rfl⟩
theorem io46_0:InstOk Pg 46 nt46 ⟨pa46_0,Fn46_0 f46_0⟩:=inst_ok eo46_0 followsTry is46 ⟨⟨sh46,cm46_0,by kernel_rfl,gm46_0,fm46_0⟩⟩
abbrev nt144:Nat:=31
def sh144:SG:=[(9,[.cpx .f64,.int .i64]),(19,iS 3),(27,iS 3)]
def r144_2:LA:=[oO 2 (.box (.tmp 0)),oO 4 (.alloc [(.d (.v (.complex Go.FloatKind.f64 0 0))),(cI 0)]),mK 5 0]
def r144_4:LA:=[lA 9 2 2,oO 10 (.call 94 [.tmp 9]),oM 8 10,oO 11 (.extract 0 (.tmp 8)),oO 12 (.extract 1 (.tmp 8)),oO 6 (.alloc (zI 3)),sD 3 6 11,oM 7 12]
def r144_7:LA:=[oM 13 7,oO 14 (.bin .neq 26 (.tmp 13) (kI 0))]
def r144_10:LA:=[oO 15 (.build [(.d (.v (.complex Go.FloatKind.f64 0 0))),(cI 0)] []),oM 16 7,sD 2 4 15,oM 5 16]
def r144_13:LA:=[oM 18 1,lA 19 3 6,oO 20 (.calld (.tmp 18) [(.tmp 19)]),oM 17 20,oO 21 (.extract 0 (.tmp 17)),oO 22 (.extract 1 (.tmp 17)),sD 3 6 21,oM 7 22]
def r144_15:LA:=[oM 23 7,oO 24 (.bin .neq 26 (.tmp 23) (kI 0))]
def r144_18:LA:=[oO 25 (.build [(.d (.v (.complex Go.FloatKind.f64 0 0))),(cI 0)] []),oM 26 7,sD 2 4 25,oM 5 26]
def r144_20:LA:=[lA 27 3 6,oO 28 (.call 157 [.tmp 27]),oO 29 (.extract 0 (.tmp 28)),oO 30 (.extract 1 (.tmp 28)),sD 2 4 29,oM 5 30]
def tr144:TG:=[tT 0 [1,2,4],tT 1 [1,4,6,7],tT 2 [1,4,6,7,14],tT 3 [4,5],tT 4 [4,6,7],tT 5 [4,6,7,24],tT 6 [4,5],tT 7 [4,5]]
def tl144:TG:=[]
def rs144:List AResV:=[.cell 4 true 2,.tmp 5]
def pr144_0_0:PT (List RV):=pRs [pR true [rD (dX .f64),rD (dI .i64)],wI]
def ur144_0_0 {β:Type}(g:List RV->β):Nat->Nat->Int->Int->β:=pr144_0_0.unc g
def E144_0g (a:Tf94_0)(b:Tf145_0)(c:Tf157_0):EnvK:=EnvK.of [⟨94,nt94,[⟨pa94_0,Fn94_0 a⟩]⟩,⟨145,nt145,[⟨pa145_0,Fn145_0 b⟩]⟩,⟨157,nt157,[⟨pa157_0,Fn157_0 c⟩]⟩] noSeq
def E144_0:EnvK:=E144_0g f94_0 f145_0 f157_0
theorem eo144_0:E144_0.Ok Pg:=EnvK.of_ok noSeq_ok ⟨⟨io94_0,trivial⟩,⟨io145_0,trivial⟩,⟨io157_0,trivial⟩,trivial⟩
abbrev Tf144_0:Type 1:=(α:Type)->Nat->Nat->Int->Int->Int->Int->(Nat->Nat->Int->Int->Op α)->Op α
def f144_0g (c:Tf145_0)(d:Tf157_0)(e:Tf94_0)(α:Type)(g h:Nat)(a i j l:Int)(k1:Nat->Nat->Int->Int->Op α):Op α:=
 e α g h a
 (fun m o b=>cK (b != 0)
 (k1 0 0 0 b)
 (c α m o a i j l
 (fun p q r=>d α p q r
 (fun s t w z=>k1 s t w z))))
def f144_0 (α:Type)(a b:Nat)(c d e g:Int)(k1:Nat->Nat->Int->Int->Op α):Op α:=f144_0g f145_0 f157_0 f94_0 α a b c d e g k1
def pa144_0:PT (List DV):=pA [pV true [(dX .f64),(dI .i64)],pV false [(dFn 145 [(dP [(dFn 154 [])] 0),(dP [(dI .i64),(dI .i64),(dI .i64)] 0)])]]
def Fn144_0 (v:Tf144_0)(α:Type)(k:RT α):Nat->Nat->I4 (Op α):=fun a b c d e g=>v α a b c d e g (fun h i j l=>ur144_0_0 k h i j l)
def cm144_0g:MCode:=(.seq (.region r144_2 [] (tO [1,2,4])) (.seq (.region r144_4 [] (tO [1,4,6,7])) (.seq (.seq (.region r144_7 [] (tO [1,4,6,7,14])) (.cond (.tmp 14) (.seq (.region r144_10 [] (tO [4,5])) .ret) .skip)) (.seq (.seq (.region r144_13 [] (tO [4,6,7])) (.seq (.region r144_15 [] (tO [4,6,7,24])) (.cond (.tmp 24) (.seq (.region r144_18 [] (tO [4,5])) .ret) .skip))) (.seq (.region r144_20 [] (tO [4,5])) .ret)))))
def cm144_0:MCode:=cm144_0g
theorem gm144_0:cm144_0.Good Pg E144_0 sh144:=⟨trivial,trivial,⟨trivial,⟨trivial,trivial⟩,trivial⟩,⟨trivial,trivial,⟨trivial,trivial⟩,trivial⟩,trivial,trivial⟩
theorem fm144_0g (a:Tf94_0)(b:Tf145_0)(c:Tf157_0)(α:Type)(k:RT α):Fn144_0 (f144_0g b c a) α k=pa144_0.unc fun ds=>fnM Pg (E144_0g a b c) sh144 (cm144_0g ) rs144 k ds:=by kernel_rfl
theorem fm144_0:∀ (α:Type) (k:RT α),Fn144_0 f144_0 α k=pa144_0.unc fun ds=>fnM Pg E144_0 sh144 cm144_0 rs144 k ds:=fm144_0g f94_0 f145_0 f157_0
theorem is144:FnIs Pg 144 nt144 tr144 tl144 cm144_0.erase rs144:=⟨Tryz.f144,Tryz.func144,rfl,by kernel_rfl,by kernel_rfl,by kernel_rfl⟩
theorem io144_0:InstOk Pg 144 nt144 ⟨pa144_0,Fn144_0 f144_0⟩:=inst_ok eo144_0 followsTry is144 ⟨⟨sh144,cm144_0,by kernel_rfl,gm144_0,fm144_0⟩⟩
def pr144_1_0:PT (List RV):=pRs [pR true [rD (dX .f64),rD (dI .i64)],wI]
def ur144_1_0 {β:Type}(g:List RV->β):Nat->Nat->Int->Int->β:=pr144_1_0.unc g
def E144_1g (a:Tf94_0)(b:Tf145_1)(c:Tf157_0):EnvK:=EnvK.of [⟨94,nt94,[⟨pa94_0,Fn94_0 a⟩]⟩,⟨145,nt145,[⟨pa145_1,Fn145_1 b⟩]⟩,⟨157,nt157,[⟨pa157_0,Fn157_0 c⟩]⟩] noSeq
def E144_1:EnvK:=E144_1g f94_0 f145_1 f157_0
theorem eo144_1:E144_1.Ok Pg:=EnvK.of_ok noSeq_ok ⟨⟨io94_0,trivial⟩,⟨io145_1,trivial⟩,⟨io157_0,trivial⟩,trivial⟩
abbrev Tf144_1:Type 1:=(α:Type)->Nat->Nat->Int->Int->Int->Int->(Nat->Nat->Int->Int->Op α)->Op α
def f144_1g (c:Tf145_1)(d:Tf157_0)(e:Tf94_0)(α:Type)(g h:Nat)(a i j l:Int)(k1:Nat->Nat->Int->Int->Op α):Op α:=
 e α g h a
 (fun m o b=>cK (b != 0)
 (k1 0 0 0 b)
 (c α m o a i j l
 (fun p q r=>d α p q r
 (fun s t w z=>k1 s t w z))))
def f144_1 (α:Type)(a b:Nat)(c d e g:Int)(k1:Nat->Nat->Int->Int->Op α):Op α:=f144_1g f145_1 f157_0 f94_0 α a b c d e g k1
def pa144_1:PT (List DV):=pA [pV true [(dX .f64),(dI .i64)],pV false [(dFn 145 [(dP [(dFn 115 [])] 0),(dP [(dI .i64),(dI .i64),(dI .i64)] 0)])]]
def Fn144_1 (v:Tf144_1)(α:Type)(k:RT α):Nat->Nat->I4 (Op α):=fun a b c d e g=>v α a b c d e g (fun h i j l=>ur144_1_0 k h i j l)
def cm144_1g:MCode:=(.seq (.region r144_2 [] (tO [1,2,4])) (.seq (.region r144_4 [] (tO [1,4,6,7])) (.seq (.seq (.region r144_7 [] (tO [1,4,6,7,14])) (.cond (.tmp 14) (.seq (.region r144_10 [] (tO [4,5])) .ret) .skip)) (.seq (.seq (.region r144_13 [] (tO [4,6,7])) (.seq (.region r144_15 [] (tO [4,6,7,24])) (.cond (.tmp 24) (.seq (.region r144_18 [] (tO [4,5])) .ret) .skip))) (.seq (.region r144_20 [] (tO [4,5])) .ret)))))
def cm144_1:MCode:=cm144_1g
theorem gm144_1:cm144_1.Good Pg E144_1 sh144:=⟨trivial,trivial,⟨trivial,⟨trivial,trivial⟩,trivial⟩,⟨trivial,trivial,⟨trivial,trivial⟩,trivial⟩,trivial,trivial⟩
theorem fm144_1g (a:Tf94_0)(b:Tf145_1)(c:Tf157_0)(α:Type)(k:RT α):Fn144_1 (f144_1g b c a) α k=pa144_1.unc fun ds=>fnM Pg (E144_1g a b c) sh144 (cm144_1g ) rs144 k ds:=by kernel_rfl
theorem fm144_1:∀ (α:Type) (k:RT α),Fn144_1 f144_1 α k=pa144_1.unc fun ds=>fnM Pg E144_1 sh144 cm144_1 rs144 k ds:=fm144_1g f94_0 f145_1 f157_0
theorem io144_1:InstOk Pg 144 nt144 ⟨pa144_1,Fn144_1 f144_1⟩:=inst_ok eo144_1 followsTry is144 ⟨⟨sh144,cm144_1,by kernel_rfl,gm144_1,fm144_1⟩⟩
def pr144_2_0:PT (List RV):=pRs [pR true [rD (dX .f64),rD (dI .i64)],wI]
def ur144_2_0 {β:Type}(g:List RV->β):Nat->Nat->Int->Int->β:=pr144_2_0.unc g
def E144_2g (a:Tf94_0)(b:Tf145_2)(c:Tf157_0):EnvK:=EnvK.of [⟨94,nt94,[⟨pa94_0,Fn94_0 a⟩]⟩,⟨145,nt145,[⟨pa145_2,Fn145_2 b⟩]⟩,⟨157,nt157,[⟨pa157_0,Fn157_0 c⟩]⟩] noSeq
def E144_2:EnvK:=E144_2g f94_0 f145_2 f157_0
theorem eo144_2:E144_2.Ok Pg:=EnvK.of_ok noSeq_ok ⟨⟨io94_0,trivial⟩,⟨io145_2,trivial⟩,⟨io157_0,trivial⟩,trivial⟩
abbrev Tf144_2:Type 1:=(α:Type)->Nat->Nat->Int->Int->Int->Int->(Nat->Nat->Int->Int->Op α)->Op α
def f144_2g (c:Tf145_2)(d:Tf157_0)(e:Tf94_0)(α:Type)(g h:Nat)(a i j l:Int)(k1:Nat->Nat->Int->Int->Op α):Op α:=
 e α g h a
 (fun m o b=>cK (b != 0)
 (k1 0 0 0 b)
 (c α m o a i j l
 (fun p q r=>d α p q r
 (fun s t w z=>k1 s t w z))))
def f144_2 (α:Type)(a b:Nat)(c d e g:Int)(k1:Nat->Nat->Int->Int->Op α):Op α:=f144_2g f145_2 f157_0 f94_0 α a b c d e g k1
def pa144_2:PT (List DV):=pA [pV true [(dX .f64),(dI .i64)],pV false [(dFn 145 [(dP [(dFn 122 [])] 0),(dP [(dI .i64),(dI .i64),(dI .i64)] 0)])]]
def Fn144_2 (v:Tf144_2)(α:Type)(k:RT α):Nat->Nat->I4 (Op α):=fun a b c d e g=>v α a b c d e g (fun h i j l=>ur144_2_0 k h i j l)
def cm144_2g:MCode:=(.seq (.region r144_2 [] (tO [1,2,4])) (.seq (.region r144_4 [] (tO [1,4,6,7])) (.seq (.seq (.region r144_7 [] (tO [1,4,6,7,14])) (.cond (.tmp 14) (.seq (.region r144_10 [] (tO [4,5])) .ret) .skip)) (.seq (.seq (.region r144_13 [] (tO [4,6,7])) (.seq (.region r144_15 [] (tO [4,6,7,24])) (.cond (.tmp 24) (.seq (.region r144_18 [] (tO [4,5])) .ret) .skip))) (.seq (.region r144_20 [] (tO [4,5])) .ret)))))
def cm144_2:MCode:=cm144_2g
theorem gm144_2:cm144_2.Good Pg E144_2 sh144:=⟨trivial,trivial,⟨trivial,⟨trivial,trivial⟩,trivial⟩,⟨trivial,trivial,⟨trivial,trivial⟩,trivial⟩,trivial,trivial⟩
theorem fm144_2g (a:Tf94_0)(b:Tf145_2)(c:Tf157_0)(α:Type)(k:RT α):Fn144_2 (f144_2g b c a) α k=pa144_2.unc fun ds=>fnM Pg (E144_2g a b c) sh144 (cm144_2g ) rs144 k ds:=by kernel_rfl
theorem fm144_2:∀ (α:Type) (k:RT α),Fn144_2 f144_2 α k=pa144_2.unc fun ds=>fnM Pg E144_2 sh144 cm144_2 rs144 k ds:=fm144_2g f94_0 f145_2 f157_0
theorem io144_2:InstOk Pg 144 nt144 ⟨pa144_2,Fn144_2 f144_2⟩:=inst_ok eo144_2 followsTry is144 ⟨⟨sh144,cm144_2,by kernel_rfl,gm144_2,fm144_2⟩⟩
abbrev nt85:Nat:=11
def sh85:SG:=[(6,[.cpx .f64,.int .i64])]
def r85_2:LA:=[oO 1 (.box (.tmp 0)),oO 2 (.mv (.const (.bool false)))]
def r85_4:LA:=[lA 6 2 1,oO 7 (.call 44 [(.tmp 6),(.const (.complex Go.FloatKind.f64 0 0))]),oM 5 7,oO 8 (.extract 0 (.tmp 5)),oO 9 (.extract 1 (.tmp 5)),oM 3 8,oM 4 9]
def r85_6:LA:=[oM 10 3,oM 2 10]
def tr85:TG:=[tT 0 [1],tT 1 [3],tT 2 [2]]
def tl85:TG:=[]
def rs85:List AResV:=[.tmp 2]
def pr85_0_0:PT (List RV):=pRs [pR false [rD dB]]
def ur85_0_0 {β:Type}(g:List RV->β):Bool->β:=pr85_0_0.unc g
def E85_0g (a:Tf44_0):EnvK:=EnvK.of [⟨44,nt44,[⟨pa44_0,Fn44_0 a⟩]⟩] noSeq
def E85_0:EnvK:=E85_0g f44_0
theorem eo85_0:E85_0.Ok Pg:=EnvK.of_ok noSeq_ok ⟨⟨io44_0,trivial⟩,trivial⟩
abbrev Tf85_0:Type 1:=(α:Type)->Nat->Nat->Int->(Bool->Op α)->Op α
def f85_0g (a:Tf44_0)(α:Type)(b c:Nat)(d:Int)(k1:Bool->Op α):Op α:=
 a α b c d 0 0
 (fun e g=>k1 e)
def f85_0 (α:Type)(a b:Nat)(c:Int)(k1:Bool->Op α):Op α:=f85_0g f44_0 α a b c k1
def pa85_0:PT (List DV):=pA [pV true [(dX .f64),(dI .i64)]]
def Fn85_0 (v:Tf85_0)(α:Type)(k:RT α):Nat->Nat->Int->Op α:=fun a b c=>v α a b c (fun d=>ur85_0_0 k d)
def cm85_0g:MCode:=(.seq (.region r85_2 [] (tO [1])) (.seq (.region r85_4 [] (tO [3])) (.seq (.region r85_6 [] (tO [2])) .ret)))
def cm85_0:MCode:=cm85_0g
theorem gm85_0:cm85_0.Good Pg E85_0 sh85:=⟨trivial,trivial,trivial,trivial⟩
theorem fm85_0g (a:Tf44_0)(α:Type)(k:RT α):Fn85_0 (f85_0g a) α k=pa85_0.unc fun ds=>fnM Pg (E85_0g a) sh85 (cm85_0g ) rs85 k ds:=by kernel_rfl
theorem fm85_0:∀ (α:Type) (k:RT α),Fn85_0 f85_0 α k=pa85_0.unc fun ds=>fnM Pg E85_0 sh85 cm85_0 rs85 k ds:=fm85_0g f44_0
theorem is85:FnIs Pg 85 nt85 tr85 tl85 cm85_0.erase rs85:=⟨Tryz.f85,Tryz.func85,rfl,by kernel_rfl,by kernel_rfl,by kernel_rfl⟩
theorem io85_0:InstOk Pg 85 nt85 ⟨pa85_0,Fn85_0 f85_0⟩:=inst_ok eo85_0 followsTry is85 ⟨⟨sh85,cm85_0,by kernel_rfl,gm85_0,fm85_0⟩⟩
abbrev nt105:Nat:=26
def sh105:SG:=[]
def r105_2:LA:=[oO 4 (.alloc [(.d (.v (.complex Go.FloatKind.f64 0 0))),(cI 0)]),mK 5 0]
def r105_5:LA:=[oM 6 0,oO 7 (.call 137 [(.tmp 6),(kI 1000000000)]),oO 8 (.pure (oB (.unOp .not 4 (.tmp 7)) 4)),oM 9 8,oG 10 (.mv (.tmp 1)) 9 false,oG 11 (.call 127 [(.tmp 10),(kI 1),(kI 1000000000)]) 9 false,oG 12 (.pure (oB (.unOp .not 4 (.tmp 11)) 4)) 9 false,oO 13 (.pick (.tmp 9) (.const (.bool true)) (.tmp 12))]
def r105_8:LA:=[oO 14 (.build [(.d (.v (.complex Go.FloatKind.f64 0 0))),(cI 0)] []),sD 2 4 14,mK 5 2]
def r105_10:LA:=[oM 15 0,bK 16 .mul 15 4194304,oM 17 1,oO 18 (.call 139 [(.tmp 16),(.tmp 17)]),oM 19 0,bK 20 .mul 19 4194304,oM 21 1,oO 22 (.call 118 [(.tmp 20),(.tmp 21)]),oO 23 (.call 138 [(.tmp 18),(.tmp 22)]),oO 24 (.extract 0 (.tmp 23)),oO 25 (.extract 1 (.tmp 23)),sD 2 4 24,oM 5 25]
def tr105:TG:=[tT 0 [0,1,4],tT 1 [0,1,4,13],tT 2 [4,5],tT 3 [4,5]]
def tl105:TG:=[]
def rs105:List AResV:=[.cell 4 true 2,.tmp 5]
def pr105_0_0:PT (List RV):=pRs [pR true [rD (dX .f64),rD (dI .i64)],wI]
def ur105_0_0 {β:Type}(g:List RV->β):Nat->Nat->Int->Int->β:=pr105_0_0.unc g
def E105_0g (a:Tf137_0)(b:Tf127_0)(c:Tf139_0)(d:Tf118_0)(e:Tf138_0):EnvK:=EnvK.of [⟨137,nt137,[⟨pa137_0,Fn137_0 a⟩]⟩,⟨127,nt127,[⟨pa127_0,Fn127_0 b⟩]⟩,⟨139,nt139,[⟨pa139_0,Fn139_0 c⟩]⟩,⟨118,nt118,[⟨pa118_0,Fn118_0 d⟩]⟩,⟨138,nt138,[⟨pa138_0,Fn138_0 e⟩]⟩] noSeq
def E105_0:EnvK:=E105_0g f137_0 f127_0 f139_0 f118_0 f138_0
theorem eo105_0:E105_0.Ok Pg:=EnvK.of_ok noSeq_ok ⟨⟨io137_0,trivial⟩,⟨io127_0,trivial⟩,⟨io139_0,trivial⟩,⟨io118_0,trivial⟩,⟨io138_0,trivial⟩,trivial⟩
abbrev Tf105_0:Type 1:=(α:Type)->Int->Int->(Nat->Nat->Int->Int->Op α)->Op α
def f105_0g (c:Tf118_0)(d:Tf127_0)(e:Tf137_0)(g:Tf138_0)(h:Tf139_0)(α:Type)(a b:Int)(k1:Nat->Nat->Int->Int->Op α):Op α:=
 e α a 1000000000
 (fun i=>cK (!i)
 (k1 0 0 0 2)
 (d α b 1 1000000000
 (fun j=>cK (!j)
 (k1 0 0 0 2)
 (h α (w64 (a*4194304)) b
 (fun l=>c α (w64 (a*4194304)) b
 (fun m=>g α l m
 (fun o p q r=>k1 o p q r)))))))
def f105_0 (α:Type)(a b:Int)(k1:Nat->Nat->Int->Int->Op α):Op α:=f105_0g f118_0 f127_0 f137_0 f138_0 f139_0 α a b k1
def pa105_0:PT (List DV):=pA [vI,vI]
def Fn105_0 (v:Tf105_0)(α:Type)(k:RT α):Int->Int->Op α:=fun a b=>v α a b (fun c d e g=>ur105_0_0 k c d e g)
def cm105_0g:MCode:=(.seq (.region r105_2 [] (tO [0,1,4])) (.seq (.seq (.region r105_5 [] (tO [0,1,4,13])) (.cond (.tmp 13) (.seq (.region r105_8 [] (tO [4,5])) .ret) .skip)) (.seq (.region r105_10 [] (tO [4,5])) .ret)))
def cm105_0:MCode:=cm105_0g
theorem gm105_0:cm105_0.Good Pg E105_0 sh105:=⟨trivial,⟨trivial,⟨trivial,trivial⟩,trivial⟩,trivial,trivial⟩
theorem fm105_0g (a:Tf137_0)(b:Tf127_0)(c:Tf139_0)(d:Tf118_0)(e:Tf138_0)(α:Type)(k:RT α):Fn105_0 (f105_0g d b a e c) α k=pa105_0.unc fun ds=>fnM Pg (E105_0g a b c d e) sh105 (cm105_0g ) rs105 k ds:=by kernel_rfl
theorem fm105_0:∀ (α:Type) (k:RT α),Fn105_0 f105_0 α k=pa105_0.unc fun ds=>fnM Pg E105_0 sh105 cm105_0 rs105 k ds:=fm105_0g f137_0 f127_0 f139_0 f118_0 f138_0
theorem is105:FnIs Pg 105 nt105 tr105 tl105 cm105_0.erase rs105:=⟨Tryz.f105,Tryz.func105,rfl,by kernel_rfl,by kernel_rfl,by kernel_rfl⟩
theorem io105_0:InstOk Pg 105 nt105 ⟨pa105_0,Fn105_0 f105_0⟩:=inst_ok eo105_0 followsTry is105 ⟨⟨sh105,cm105_0,by kernel_rfl,gm105_0,fm105_0⟩⟩
abbrev nt114:Nat:=24
def sh114:SG:=[(11,[.cpx .f64,.int .i64]),(19,[.cpx .f64,.int .i64])]
def r114_2:LA:=[oO 3 (.box (.tmp 0)),oO 4 (.box (.tmp 1)),oO 5 (.box (.tmp 2)),oO 6 (.alloc [(.d (.v (.complex Go.FloatKind.f64 0 0))),(cI 0)]),mK 7 0]
def r114_4:LA:=[lA 11 2 3,oO 12 (.call 94 [.tmp 11]),oM 10 12,oO 13 (.extract 0 (.tmp 10)),oO 14 (.extract 1 (.tmp 10)),oO 8 (.alloc (zI 3)),sD 3 8 13,oM 9 14]
def r114_7:LA:=[oM 15 9,oO 16 (.bin .neq 26 (.tmp 15) (kI 0))]
def r114_10:LA:=[oO 17 (.build [(.d (.v (.complex Go.FloatKind.f64 0 0))),(cI 0)] []),oM 18 9,sD 2 6 17,oM 7 18]
def r114_12:LA:=[lA 19 2 4,oO 20 (.mkfn 145 [(.tmp 5),(.tmp 8)]),oO 21 (.call 144 [(.tmp 19),(.tmp 20)]),oO 22 (.extract 0 (.tmp 21)),oO 23 (.extract 1 (.tmp 21)),sD 2 6 22,oM 7 23]
def tr114:TG:=[tT 0 [3,4,5,6],tT 1 [4,5,6,8,9],tT 2 [4,5,6,8,9,16],tT 3 [6,7],tT 4 [6,7]]
def tl114:TG:=[]
def rs114:List AResV:=[.cell 6 true 2,.tmp 7]
def pr114_0_0:PT (List RV):=pRs [pR true [rD (dX .f64),rD (dI .i64)],wI]
def ur114_0_0 {β:Type}(g:List RV->β):Nat->Nat->Int->Int->β:=pr114_0_0.unc g
def E114_0g (a:Tf94_0)(b:Tf144_0):EnvK:=EnvK.of [⟨94,nt94,[⟨pa94_0,Fn94_0 a⟩]⟩,⟨144,nt144,[⟨pa144_0,Fn144_0 b⟩]⟩] noSeq
def E114_0:EnvK:=E114_0g f94_0 f144_0
theorem eo114_0:E114_0.Ok Pg:=EnvK.of_ok noSeq_ok ⟨⟨io94_0,trivial⟩,⟨io144_0,trivial⟩,trivial⟩
abbrev Tf114_0:Type 1:=(α:Type)->Nat->Nat->Int->Nat->Nat->Int->(Nat->Nat->Int->Int->Op α)->Op α
def f114_0g (c:Tf144_0)(d:Tf94_0)(α:Type)(e g:Nat)(a:Int)(h i:Nat)(j:Int)(k1:Nat->Nat->Int->Int->Op α):Op α:=
 d α e g a
 (fun l m b=>cK (b != 0)
 (k1 0 0 0 b)
 (c α h i j l m a
 (fun o p q r=>k1 o p q r)))
def f114_0 (α:Type)(a b:Nat)(c:Int)(d e:Nat)(g:Int)(k1:Nat->Nat->Int->Int->Op α):Op α:=f114_0g f144_0 f94_0 α a b c d e g k1
def pa114_0:PT (List DV):=pA [pV true [(dX .f64),(dI .i64)],pV true [(dX .f64),(dI .i64)],pV false [(dFn 154 [])]]
def Fn114_0 (v:Tf114_0)(α:Type)(k:RT α):Nat->Nat->Int->Nat->Nat->Int->Op α:=fun a b c d e g=>v α a b c d e g (fun h i j l=>ur114_0_0 k h i j l)
def cm114_0g:MCode:=(.seq (.region r114_2 [] (tO [3,4,5,6])) (.seq (.region r114_4 [] (tO [4,5,6,8,9])) (.seq (.seq (.region r114_7 [] (tO [4,5,6,8,9,16])) (.cond (.tmp 16) (.seq (.region r114_10 [] (tO [6,7])) .ret) .skip)) (.seq (.region r114_12 [] (tO [6,7])) .ret))))
def cm114_0:MCode:=cm114_0g
theorem gm114_0:cm114_0.Good Pg E114_0 sh114:=⟨trivial,trivial,⟨trivial,⟨trivial,trivial⟩,trivial⟩,trivial,trivial⟩
theorem fm114_0g (a:Tf94_0)(b:Tf144_0)(α:Type)(k:RT α):Fn114_0 (f114_0g b a) α k=pa114_0.unc fun ds=>fnM Pg (E114_0g a b) sh114 (cm114_0g ) rs114 k ds:=by kernel_rfl
theorem fm114_0:∀ (α:Type) (k:RT α),Fn114_0 f114_0 α k=pa114_0.unc fun ds=>fnM Pg E114_0 sh114 cm114_0 rs114 k ds:=fm114_0g f94_0 f144_0
theorem is114:FnIs Pg 114 nt114 tr114 tl114 cm114_0.erase rs114:=⟨Tryz.f114,Tryz.func114,rfl,by kernel_rfl,by kernel_rfl,by kernel_rfl⟩
theorem io114_0:InstOk Pg 114 nt114 ⟨pa114_0,Fn114_0 f114_0⟩:=inst_ok eo114_0 followsTry is114 ⟨⟨sh114,cm114_0,by kernel_rfl,gm114_0,fm114_0⟩⟩
def pr114_1_0:PT (List RV):=pRs [pR true [rD (dX .f64),rD (dI .i64)],wI]
def ur114_1_0 {β:Type}(g:List RV->β):Nat->Nat->Int->Int->β:=pr114_1_0.unc g
def E114_1g (a:Tf94_0)(b:Tf144_1):EnvK:=EnvK.of [⟨94,nt94,[⟨pa94_0,Fn94_0 a⟩]⟩,⟨144,nt144,[⟨pa144_1,Fn144_1 b⟩]⟩] noSeq
def E114_1:EnvK:=E114_1g f94_0 f144_1
theorem eo114_1:E114_1.Ok Pg:=EnvK.of_ok noSeq_ok ⟨⟨io94_0,trivial⟩,⟨io144_1,trivial⟩,trivial⟩
abbrev Tf114_1:Type 1:=(α:Type)->Nat->Nat->Int->Nat->Nat->Int->(Nat->Nat->Int->Int->Op α)->Op α
def f114_1g (c:Tf144_1)(d:Tf94_0)(α:Type)(e g:Nat)(a:Int)(h i:Nat)(j:Int)(k1:Nat->Nat->Int->Int->Op α):Op α:=
 d α e g a
 (fun l m b=>cK (b != 0)
 (k1 0 0 0 b)
 (c α h i j l m a
 (fun o p q r=>k1 o p q r)))
def f114_1 (α:Type)(a b:Nat)(c:Int)(d e:Nat)(g:Int)(k1:Nat->Nat->Int->Int->Op α):Op α:=f114_1g f144_1 f94_0 α a b c d e g k1
def pa114_1:PT (List DV):=pA [pV true [(dX .f64),(dI .i64)],pV true [(dX .f64),(dI .i64)],pV false [(dFn 115 [])]]
def Fn114_1 (v:Tf114_1)(α:Type)(k:RT α):Nat->Nat->Int->Nat->Nat->Int->Op α:=fun a b c d e g=>v α a b c d e g (fun h i j l=>ur114_1_0 k h i j l)
def cm114_1g:MCode:=(.seq (.region r114_2 [] (tO [3,4,5,6])) (.seq (.region r114_4 [] (tO [4,5,6,8,9])) (.seq (.seq (.region r114_7 [] (tO [4,5,6,8,9,16])) (.cond (.tmp 16) (.seq (.region r114_10 [] (tO [6,7])) .ret) .skip)) (.seq (.region r114_12 [] (tO [6,7])) .ret))))
def cm114_1:MCode:=cm114_1g
theorem gm114_1:cm114_1.Good Pg E114_1 sh114:=⟨trivial,trivial,⟨trivial,⟨trivial,trivial⟩,trivial⟩,trivial,trivial⟩
theorem fm114_1g (a:Tf94_0)(b:Tf144_1)(α:Type)(k:RT α):Fn114_1 (f114_1g b a) α k=pa114_1.unc fun ds=>fnM Pg (E114_1g a b) sh114 (cm114_1g ) rs114 k ds:=by kernel_rfl
theorem fm114_1:∀ (α:Type) (k:RT α),Fn114_1 f114_1 α k=pa114_1.unc fun ds=>fnM Pg E114_1 sh114 cm114_1 rs114 k ds:=fm114_1g f94_0 f144_1
theorem io114_1:InstOk Pg 114 nt114 ⟨pa114_1,Fn114_1 f114_1⟩:=inst_ok eo114_1 followsTry is114 ⟨⟨sh114,cm114_1,by kernel_rfl,gm114_1,fm114_1⟩⟩
def pr114_2_0:PT (List RV):=pRs [pR true [rD (dX .f64),rD (dI .i64)],wI]
def ur114_2_0 {β:Type}(g:List RV->β):Nat->Nat->Int->Int->β:=pr114_2_0.unc g
def E114_2g (a:Tf94_0)(b:Tf144_2):EnvK:=EnvK.of [⟨94,nt94,[⟨pa94_0,Fn94_0 a⟩]⟩,⟨144,nt144,[⟨pa144_2,Fn144_2 b⟩]⟩] noSeq
def E114_2:EnvK:=E114_2g f94_0 f144_2
theorem eo114_2:E114_2.Ok Pg:=EnvK.of_ok noSeq_ok ⟨⟨io94_0,trivial⟩,⟨io144_2,trivial⟩,trivial⟩
abbrev Tf114_2:Type 1:=(α:Type)->Nat->Nat->Int->Nat->Nat->Int->(Nat->Nat->Int->Int->Op α)->Op α
def f114_2g (c:Tf144_2)(d:Tf94_0)(α:Type)(e g:Nat)(a:Int)(h i:Nat)(j:Int)(k1:Nat->Nat->Int->Int->Op α):Op α:=
 d α e g a
 (fun l m b=>cK (b != 0)
 (k1 0 0 0 b)
 (c α h i j l m a
 (fun o p q r=>k1 o p q r)))
def f114_2 (α:Type)(a b:Nat)(c:Int)(d e:Nat)(g:Int)(k1:Nat->Nat->Int->Int->Op α):Op α:=f114_2g f144_2 f94_0 α a b c d e g k1
def pa114_2:PT (List DV):=pA [pV true [(dX .f64),(dI .i64)],pV true [(dX .f64),(dI .i64)],pV false [(dFn 122 [])]]
def Fn114_2 (v:Tf114_2)(α:Type)(k:RT α):Nat->Nat->Int->Nat->Nat->Int->Op α:=fun a b c d e g=>v α a b c d e g (fun h i j l=>ur114_2_0 k h i j l)
def cm114_2g:MCode:=(.seq (.region r114_2 [] (tO [3,4,5,6])) (.seq (.region r114_4 [] (tO [4,5,6,8,9])) (.seq (.seq (.region r114_7 [] (tO [4,5,6,8,9,16])) (.cond (.tmp 16) (.seq (.region r114_10 [] (tO [6,7])) .ret) .skip)) (.seq (.region r114_12 [] (tO [6,7])) .ret))))
def cm114_2:MCode:=cm114_2g
theorem gm114_2:cm114_2.Good Pg E114_2 sh114:=⟨trivial,trivial,⟨trivial,⟨trivial,trivial⟩,trivial⟩,trivial,trivial⟩
theorem fm114_2g (a:Tf94_0)(b:Tf144_2)(α:Type)(k:RT α):Fn114_2 (f114_2g b a) α k=pa114_2.unc fun ds=>fnM Pg (E114_2g a b) sh114 (cm114_2g ) rs114 k ds:=by kernel_rfl
theorem fm114_2:∀ (α:Type) (k:RT α),Fn114_2 f114_2 α k=pa114_2.unc fun ds=>fnM Pg E114_2 sh114 cm114_2 rs114 k ds:=fm114_2g f94_0 f144_2
theorem io114_2:InstOk Pg 114 nt114 ⟨pa114_2,Fn114_2 f114_2⟩:=inst_ok eo114_2 followsTry is114 ⟨⟨sh114,cm114_2,by kernel_rfl,gm114_2,fm114_2⟩⟩
abbrev nt82:Nat:=11
def sh82:SG:=[(6,[.cpx .f64,.int .i64]),(7,[.cpx .f64,.int .i64])]
def r82_2:LA:=[oO 2 (.box (.tmp 0)),oO 3 (.box (.tmp 1)),oO 4 (.alloc [(.d (.v (.complex Go.FloatKind.f64 0 0))),(cI 0)]),mK 5 0]
def r82_4:LA:=[lA 6 2 2,lA 7 2 3,oO 8 (.call 114 [(.tmp 6),(.tmp 7),(.func 115)]),oO 9 (.extract 0 (.tmp 8)),oO 10 (.extract 1 (.tmp 8)),sD 2 4 9,oM 5 10]
def tr82:TG:=[tT 0 [2,3,4],tT 1 [4,5]]
def tl82:TG:=[]
def rs82:List AResV:=[.cell 4 true 2,.tmp 5]
def pr82_0_0:PT (List RV):=pRs [pR true [rD (dX .f64),rD (dI .i64)],wI]
def ur82_0_0 {β:Type}(g:List RV->β):Nat->Nat->Int->Int->β:=pr82_0_0.unc g
def E82_0g (a:Tf114_1):EnvK:=EnvK.of [⟨114,nt114,[⟨pa114_1,Fn114_1 a⟩]⟩] noSeq
def E82_0:EnvK:=E82_0g f114_1
theorem eo82_0:E82_0.Ok Pg:=EnvK.of_ok noSeq_ok ⟨⟨io114_1,trivial⟩,trivial⟩
abbrev Tf82_0:Type 1:=(α:Type)->Nat->Nat->Int->Nat->Nat->Int->(Nat->Nat->Int->Int->Op α)->Op α
def f82_0g (a:Tf114_1)(α:Type)(b c:Nat)(d:Int)(e g:Nat)(h:Int)(k1:Nat->Nat->Int->Int->Op α):Op α:=
 a α b c d e g h
 (fun i j l m=>k1 i j l m)
def f82_0 (α:Type)(a b:Nat)(c:Int)(d e:Nat)(g:Int)(k1:Nat->Nat->Int->Int->Op α):Op α:=f82_0g f114_1 α a b c d e g k1
def pa82_0:PT (List DV):=pA [pV true [(dX .f64),(dI .i64)],pV true [(dX .f64),(dI .i64)]]
def Fn82_0 (v:Tf82_0)(α:Type)(k:RT α):Nat->Nat->Int->Nat->Nat->Int->Op α:=fun a b c d e g=>v α a b c d e g (fun h i j l=>ur82_0_0 k h i j l)
def cm82_0g:MCode:=(.seq (.region r82_2 [] (tO [2,3,4])) (.seq (.region r82_4 [] (tO [4,5])) .ret))
def cm82_0:MCode:=cm82_0g
theorem gm82_0:cm82_0.Good Pg E82_0 sh82:=⟨trivial,trivial,trivial⟩
theorem fm82_0g (a:Tf114_1)(α:Type)(k:RT α):Fn82_0 (f82_0g a) α k=pa82_0.unc fun ds=>fnM Pg (E82_0g a) sh82 (cm82_0g ) rs82 k ds:=by kernel_rfl
theorem fm82_0:∀ (α:Type) (k:RT α),Fn82_0 f82_0 α k=pa82_0.unc fun ds=>fnM Pg E82_0 sh82 cm82_0 rs82 k ds:=fm82_0g f114_1
theorem is82:FnIs Pg 82 nt82 tr82 tl82 cm82_0.erase rs82:=⟨Tryz.f82,Tryz.func82,rfl,by kernel_rfl,by kernel_rfl,by kernel_rfl⟩
theorem io82_0:InstOk Pg 82 nt82 ⟨pa82_0,Fn82_0 f82_0⟩:=inst_ok eo82_0 followsTry is82 ⟨⟨sh82,cm82_0,by kernel_rfl,gm82_0,fm82_0⟩⟩
abbrev nt136:Nat:=11
def sh136:SG:=[(6,[.cpx .f64,.int .i64]),(7,[.cpx .f64,.int .i64])]
def r136_2:LA:=[oO 2 (.box (.tmp 0)),oO 3 (.box (.tmp 1)),oO 4 (.alloc [(.d (.v (.complex Go.FloatKind.f64 0 0))),(cI 0)]),mK 5 0]
def r136_4:LA:=[lA 6 2 2,lA 7 2 3,oO 8 (.call 114 [(.tmp 6),(.tmp 7),(.func 154)]),oO 9 (.extract 0 (.tmp 8)),oO 10 (.extract 1 (.tmp 8)),sD 2 4 9,oM 5 10]
def tr136:TG:=[tT 0 [2,3,4],tT 1 [4,5]]
def tl136:TG:=[]
def rs136:List AResV:=[.cell 4 true 2,.tmp 5]
def pr136_0_0:PT (List RV):=pRs [pR true [rD (dX .f64),rD (dI .i64)],wI]
def ur136_0_0 {β:Type}(g:List RV->β):Nat->Nat->Int->Int->β:=pr136_0_0.unc g
def E136_0g (a:Tf114_0):EnvK:=EnvK.of [⟨114,nt114,[⟨pa114_0,Fn114_0 a⟩]⟩] noSeq
def E136_0:EnvK:=E136_0g f114_0
theorem eo136_0:E136_0.Ok Pg:=EnvK.of_ok noSeq_ok ⟨⟨io114_0,trivial⟩,trivial⟩
abbrev Tf136_0:Type 1:=(α:Type)->Nat->Nat->Int->Nat->Nat->Int->(Nat->Nat->Int->Int->Op α)->Op α
def f136_0g (a:Tf114_0)(α:Type)(b c:Nat)(d:Int)(e g:Nat)(h:Int)(k1:Nat->Nat->Int->Int->Op α):Op α:=
 a α b c d e g h
 (fun i j l m=>k1 i j l m)
def f136_0 (α:Type)(a b:Nat)(c:Int)(d e:Nat)(g:Int)(k1:Nat->Nat->Int->Int->Op α):Op α:=f136_0g f114_0 α a b c d e g k1
def pa136_0:PT (List DV):=pA [pV true [(dX .f64),(dI .i64)],pV true [(dX .f64),(dI .i64)]]
def Fn136_0 (v:Tf136_0)(α:Type)(k:RT α):Nat->Nat->Int->Nat->Nat->Int->Op α:=fun a b c d e g=>v α a b c d e g (fun h i j l=>ur136_0_0 k h i j l)
def cm136_0g:MCode:=(.seq (.region r136_2 [] (tO [2,3,4])) (.seq (.region r136_4 [] (tO [4,5])) .ret))
def cm136_0:MCode:=cm136_0g
theorem gm136_0:cm136_0.Good Pg E136_0 sh136:=⟨trivial,trivial,trivial⟩
theorem fm136_0g (a:Tf114_0)(α:Type)(k:RT α):Fn136_0 (f136_0g a) α k=pa136_0.unc fun ds=>fnM Pg (E136_0g a) sh136 (cm136_0g ) rs136 k ds:=by kernel_rfl
theorem fm136_0:∀ (α:Type) (k:RT α),Fn136_0 f136_0 α k=pa136_0.unc fun ds=>fnM Pg E136_0 sh136 cm136_0 rs136 k ds:=fm136_0g f114_0
theorem is136:FnIs Pg 136 nt136 tr136 tl136 cm136_0.erase rs136:=⟨Tryz.f136,Tryz.func136,rfl,by kernel_rfl,by kernel_rfl,by kernel_rfl⟩
theorem io136_0:InstOk Pg 136 nt136 ⟨pa136_0,Fn136_0 f136_0⟩:=inst_ok eo136_0 followsTry is136 ⟨⟨sh136,cm136_0,by kernel_rfl,gm136_0,fm136_0⟩⟩
abbrev nt55:Nat:=14
def sh55:SG:=[(13,[.cpx .f64,.int .i64])]
def r55_2:LA:=[oO 4 (.alloc [(.d (.v (.complex Go.FloatKind.f64 0 0))),(cI 0)])]
def r55_4:LA:=[oM 8 0,oM 9 1,oO 10 (.call 105 [(.tmp 8),(.tmp 9)]),oM 7 10,oO 11 (.extract 0 (.tmp 7)),oO 12 (.extract 1 (.tmp 7)),oO 5 (.alloc [(.d (.v (.complex Go.FloatKind.f64 0 0))),(cI 0)]),sD 2 5 11,oM 6 12]
def r55_6:LA:=[lA 13 2 5,sD 2 4 13]
def tr55:TG:=[tT 0 [0,1,4],tT 1 [4,5],tT 2 [4]]
def tl55:TG:=[]
def rs55:List AResV:=[.cell 4 true 2]
def pr55_0_0:PT (List RV):=pRs [pR true [rD (dX .f64),rD (dI .i64)]]
def ur55_0_0 {β:Type}(g:List RV->β):Nat->Nat->Int->β:=pr55_0_0.unc g
def E55_0g (a:Tf105_0):EnvK:=EnvK.of [⟨105,nt105,[⟨pa105_0,Fn105_0 a⟩]⟩] noSeq
def E55_0:EnvK:=E55_0g f105_0
theorem eo55_0:E55_0.Ok Pg:=EnvK.of_ok noSeq_ok ⟨⟨io105_0,trivial⟩,trivial⟩
abbrev Tf55_0:Type 1:=(α:Type)->Int->Int->(Nat->Nat->Int->Op α)->Op α
def f55_0g (a:Tf105_0)(α:Type)(b c:Int)(k1:Nat->Nat->Int->Op α):Op α:=
 a α b c
 (fun d e g h=>k1 d e g)
def f55_0 (α:Type)(a b:Int)(k1:Nat->Nat->Int->Op α):Op α:=f55_0g f105_0 α a b k1
def pa55_0:PT (List DV):=pA [vI,vI]
def Fn55_0 (v:Tf55_0)(α:Type)(k:RT α):Int->Int->Op α:=fun a b=>v α a b (fun c d e=>ur55_0_0 k c d e)
def cm55_0g:MCode:=(.seq (.region r55_2 [] (tO [0,1,4])) (.seq (.region r55_4 [] (tO [4,5])) (.seq (.region r55_6 [] (tO [4])) .ret)))
def cm55_0:MCode:=cm55_0g
theorem gm55_0:cm55_0.Good Pg E55_0 sh55:=⟨trivial,trivial,trivial,trivial⟩
theorem fm55_0g (a:Tf105_0)(α:Type)(k:RT α):Fn55_0 (f55_0g a) α k=pa55_0.unc fun ds=>fnM Pg (E55_0g a) sh55 (cm55_0g ) rs55 k ds:=by kernel_rfl
theorem fm55_0:∀ (α:Type) (k:RT α),Fn55_0 f55_0 α k=pa55_0.unc fun ds=>fnM Pg E55_0 sh55 cm55_0 rs55 k ds:=fm55_0g f105_0
theorem is55:FnIs Pg 55 nt55 tr55 tl55 cm55_0.erase rs55:=⟨Tryz.f55,Tryz.func55,rfl,by kernel_rfl,by kernel_rfl,by kernel_rfl⟩
theorem io55_0:InstOk Pg 55 nt55 ⟨pa55_0,Fn55_0 f55_0⟩:=inst_ok eo55_0 followsTry is55 ⟨⟨sh55,cm55_0,by kernel_rfl,gm55_0,fm55_0⟩⟩
abbrev nt87:Nat:=20
def sh87:SG:=[(11,iT),(13,[.sl]),(15,[.cpx .f64,.int .i64]),(16,[.cpx .f64,.int .i64])]
def r87_2:LA:=[oO 6 (.alloc [(.d (.v (.complex Go.FloatKind.f64 0 0))),(cI 0)]),mK 7 0]
def r87_4:LA:=[oM 8 0,oM 9 1,bT 10 .mul 8 9,lD 11 2,oO 12 (.call 55 [(.tmp 10),(.tmp 11)]),lD 13 3,oM 14 1,oO 15 (.iaddr 2 none (.tmp 13) (.tmp 14)),lA 16 2 15,oO 17 (.call 82 [(.tmp 12),(.tmp 16)]),oO 18 (.extract 0 (.tmp 17)),oO 19 (.extract 1 (.tmp 17)),sD 2 6 18,oM 7 19]
def tr87:TG:=[tT 0 [0,1,2,3,6],tT 1 [6,7]]
def tl87:TG:=[]
def rs87:List AResV:=[.cell 6 true 2,.tmp 7]
def pr87_0_0:PT (List RV):=pRs [pR true [rD (dX .f64),rD (dI .i64)],wI]
def ur87_0_0 {β:Type}(g:List RV->β):Nat->Nat->Int->Int->β:=pr87_0_0.unc g
def E87_0g (a:Tf55_0)(b:Tf82_0):EnvK:=EnvK.of [⟨55,nt55,[⟨pa55_0,Fn55_0 a⟩]⟩,⟨82,nt82,[⟨pa82_0,Fn82_0 b⟩]⟩] noSeq
def E87_0:EnvK:=E87_0g f55_0 f82_0
theorem eo87_0:E87_0.Ok Pg:=EnvK.of_ok noSeq_ok ⟨⟨io55_0,trivial⟩,⟨io82_0,trivial⟩,trivial⟩
abbrev Tf87_0:Type 1:=(α:Type)->Int->Int->Int->Rows->(Nat->Nat->Int->Int->Op α)->Op α
def f87_0g (b:Tf55_0)(c:Tf82_0)(α:Type)(d a e:Int)(g:Rows)(k1:Nat->Nat->Int->Int->Op α):Op α:=
 b α (w64 (d*a)) e
 (fun h i j=>rowK g a [.cpx .f64,.int .i64]
 (fun l m o=>c α h i j l m o
 (fun p q r s=>k1 p q r s)))
def f87_0 (α:Type)(a b c:Int)(d:Rows)(k1:Nat->Nat->Int->Int->Op α):Op α:=f87_0g f55_0 f82_0 α a b c d k1
def pa87_0:PT (List DV):=pA [vI,vI,pV false [(dP [(dI .i64)] 0)],pV false [(dP [dL] 0)]]
def Fn87_0 (v:Tf87_0)(α:Type)(k:RT α):Int->Int->Int->Rows->Op α:=fun a b c d=>v α a b c d (fun e g h i=>ur87_0_0 k e g h i)
def cm87_0g:MCode:=(.seq (.region r87_2 [] (tO [0,1,2,3,6])) (.seq (.region r87_4 [(4,5),(4,7),(4,8)] (tO [6,7])) .ret))
def cm87_0:MCode:=cm87_0g
theorem gm87_0:cm87_0.Good Pg E87_0 sh87:=⟨trivial,trivial,trivial⟩
theorem fm87_0g (a:Tf55_0)(b:Tf82_0)(α:Type)(k:RT α):Fn87_0 (f87_0g a b) α k=pa87_0.unc fun ds=>fnM Pg (E87_0g a b) sh87 (cm87_0g ) rs87 k ds:=by kernel_rfl
theorem fm87_0:∀ (α:Type) (k:RT α),Fn87_0 f87_0 α k=pa87_0.unc fun ds=>fnM Pg E87_0 sh87 cm87_0 rs87 k ds:=fm87_0g f55_0 f82_0
theorem is87:FnIs Pg 87 nt87 tr87 tl87 cm87_0.erase rs87:=⟨Tryz.f87,Tryz.func87,rfl,by kernel_rfl,by kernel_rfl,by kernel_rfl⟩
theorem io87_0:InstOk Pg 87 nt87 ⟨pa87_0,Fn87_0 f87_0⟩:=inst_ok eo87_0 followsTry is87 ⟨⟨sh87,cm87_0,by kernel_rfl,gm87_0,fm87_0⟩⟩
abbrev nt86:Nat:=11
def sh86:SG:=[(6,[.cpx .f64,.int .i64]),(7,[.cpx .f64,.int .i64])]
def r86_2:LA:=[oO 2 (.box (.tmp 0)),oO 3 (.box (.tmp 1)),oO 4 (.alloc [(.d (.v (.complex Go.FloatKind.f64 0 0))),(cI 0)]),mK 5 0]
def r86_4:LA:=[lA 6 2 2,lA 7 2 3,oO 8 (.call 114 [(.tmp 6),(.tmp 7),(.func 122)]),oO 9 (.extract 0 (.tmp 8)),oO 10 (.extract 1 (.tmp 8)),sD 2 4 9,oM 5 10]
def tr86:TG:=[tT 0 [2,3,4],tT 1 [4,5]]
def tl86:TG:=[]
def rs86:List AResV:=[.cell 4 true 2,.tmp 5]
def pr86_0_0:PT (List RV):=pRs [pR true [rD (dX .f64),rD (dI .i64)],wI]
def ur86_0_0 {β:Type}(g:List RV->β):Nat->Nat->Int->Int->β:=pr86_0_0.unc g
def E86_0g (a:Tf114_2):EnvK:=EnvK.of [⟨114,nt114,[⟨pa114_2,Fn114_2 a⟩]⟩] noSeq
def E86_0:EnvK:=E86_0g f114_2
theorem eo86_0:E86_0.Ok Pg:=EnvK.of_ok noSeq_ok ⟨⟨io114_2,trivial⟩,trivial⟩
abbrev Tf86_0:Type 1:=(α:Type)->Nat->Nat->Int->Nat->Nat->Int->(Nat->Nat->Int->Int->Op α)->Op α
def f86_0g (a:Tf114_2)(α:Type)(b c:Nat)(d:Int)(e g:Nat)(h:Int)(k1:Nat->Nat->Int->Int->Op α):Op α:=
 a α b c d e g h
 (fun i j l m=>k1 i j l m)
def f86_0 (α:Type)(a b:Nat)(c:Int)(d e:Nat)(g:Int)(k1:Nat->Nat->Int->Int->Op α):Op α:=f86_0g f114_2 α a b c d e g k1
def pa86_0:PT (List DV):=pA [pV true [(dX .f64),(dI .i64)],pV true [(dX .f64),(dI .i64)]]
def Fn86_0 (v:Tf86_0)(α:Type)(k:RT α):Nat->Nat->Int->Nat->Nat->Int->Op α:=fun a b c d e g=>v α a b c d e g (fun h i j l=>ur86_0_0 k h i j l)
def cm86_0g:MCode:=(.seq (.region r86_2 [] (tO [2,3,4])) (.seq (.region r86_4 [] (tO [4,5])) .ret))
def cm86_0:MCode:=cm86_0g
theorem gm86_0:cm86_0.Good Pg E86_0 sh86:=⟨trivial,trivial,trivial⟩
theorem fm86_0g (a:Tf114_2)(α:Type)(k:RT α):Fn86_0 (f86_0g a) α k=pa86_0.unc fun ds=>fnM Pg (E86_0g a) sh86 (cm86_0g ) rs86 k ds:=by kernel_rfl
theorem fm86_0:∀ (α:Type) (k:RT α),Fn86_0 f86_0 α k=pa86_0.unc fun ds=>fnM Pg E86_0 sh86 cm86_0 rs86 k ds:=fm86_0g f114_2
theorem is86:FnIs Pg 86 nt86 tr86 tl86 cm86_0.erase rs86:=⟨Tryz.f86,Tryz.func86,rfl,by kernel_rfl,by kernel_rfl,by kernel_rfl⟩
theorem io86_0:InstOk Pg 86 nt86 ⟨pa86_0,Fn86_0 f86_0⟩:=inst_ok eo86_0 followsTry is86 ⟨⟨sh86,cm86_0,by kernel_rfl,gm86_0,fm86_0⟩⟩
abbrev nt81:Nat:=21
def sh81:SG:=[(8,[.sl]),(10,[.cpx .f64,.int .i64]),(11,[.cpx .f64,.int .i64]),(16,iT)]
def r81_2:LA:=[oO 6 (.alloc [(.d (.v (.complex Go.FloatKind.f64 0 0))),(cI 0)]),mK 7 0]
def r81_4:LA:=[lD 8 2,oM 9 1,oO 10 (.iaddr 2 none (.tmp 8) (.tmp 9)),lA 11 2 10,oM 12 1,oO 13 (.pure (oB (.unOp .neg 3 (.tmp 12)) 3)),oM 14 0,bT 15 .mul 13 14,lD 16 3,oO 17 (.call 55 [(.tmp 15),(.tmp 16)]),oO 18 (.call 82 [(.tmp 11),(.tmp 17)]),oO 19 (.extract 0 (.tmp 18)),oO 20 (.extract 1 (.tmp 18)),sD 2 6 19,oM 7 20]
def tr81:TG:=[tT 0 [0,1,2,3,6],tT 1 [6,7]]
def tl81:TG:=[]
def rs81:List AResV:=[.cell 6 true 2,.tmp 7]
def pr81_0_0:PT (List RV):=pRs [pR true [rD (dX .f64),rD (dI .i64)],wI]
def ur81_0_0 {β:Type}(g:List RV->β):Nat->Nat->Int->Int->β:=pr81_0_0.unc g
def E81_0g (a:Tf55_0)(b:Tf82_0):EnvK:=EnvK.of [⟨55,nt55,[⟨pa55_0,Fn55_0 a⟩]⟩,⟨82,nt82,[⟨pa82_0,Fn82_0 b⟩]⟩] noSeq
def E81_0:EnvK:=E81_0g f55_0 f82_0
theorem eo81_0:E81_0.Ok Pg:=EnvK.of_ok noSeq_ok ⟨⟨io55_0,trivial⟩,⟨io82_0,trivial⟩,trivial⟩
abbrev Tf81_0:Type 1:=(α:Type)->Int->Int->Rows->Int->(Nat->Nat->Int->Int->Op α)->Op α
def f81_0g (b:Tf55_0)(c:Tf82_0)(α:Type)(d a:Int)(e:Rows)(g:Int)(k1:Nat->Nat->Int->Int->Op α):Op α:=
 rowK e a [.cpx .f64,.int .i64]
 (fun h i j=>b α (w64 ((w64 (0 - a))*d)) g
 (fun l m o=>c α h i j l m o
 (fun p q r s=>k1 p q r s)))
def f81_0 (α:Type)(a b:Int)(c:Rows)(d:Int)(k1:Nat->Nat->Int->Int->Op α):Op α:=f81_0g f55_0 f82_0 α a b c d k1
def pa81_0:PT (List DV):=pA [vI,vI,pV false [(dP [dL] 0)],pV false [(dP [(dI .i64)] 0)]]
def Fn81_0 (v:Tf81_0)(α:Type)(k:RT α):Int->Int->Rows->Int->Op α:=fun a b c d=>v α a b c d (fun e g h i=>ur81_0_0 k e g h i)
def cm81_0g:MCode:=(.seq (.region r81_2 [] (tO [0,1,2,3,6])) (.seq (.region r81_4 [(0,9),(2,9),(3,9)] (tO [6,7])) .ret))
def cm81_0:MCode:=cm81_0g
theorem gm81_0:cm81_0.Good Pg E81_0 sh81:=⟨trivial,trivial,trivial⟩
theorem fm81_0g (a:Tf55_0)(b:Tf82_0)(α:Type)(k:RT α):Fn81_0 (f81_0g a b) α k=pa81_0.unc fun ds=>fnM Pg (E81_0g a b) sh81 (cm81_0g ) rs81 k ds:=by kernel_rfl
theorem fm81_0:∀ (α:Type) (k:RT α),Fn81_0 f81_0 α k=pa81_0.unc fun ds=>fnM Pg E81_0 sh81 cm81_0 rs81 k ds:=fm81_0g f55_0 f82_0
theorem is81:FnIs Pg 81 nt81 tr81 tl81 cm81_0.erase rs81:=⟨Tryz.f81,Tryz.func81,rfl,by kernel_rfl,by kernel_rfl,by kernel_rfl⟩
theorem io81_0:InstOk Pg 81 nt81 ⟨pa81_0,Fn81_0 f81_0⟩:=inst_ok eo81_0 followsTry is81 ⟨⟨sh81,cm81_0,by kernel_rfl,gm81_0,fm81_0⟩⟩
abbrev nt104:Nat:=34
def sh104:SG:=[(15,[.bool]),(20,[.cpx .f64,.int .i64]),(21,[.cpx .f64,.int .i64]),(27,[.cpx .f64,.int .i64])]
def r104_2:LA:=[oO 4 (.box (.tmp 1))]
def r104_5:LA:=[oM 7 2,oO 8 (.bin .neq 26 (.tmp 7) (kI 0))]
def r104_7:LA:=[oM 9 0,oO 10 (.nilchk (.tmp 9)),fA 11 2 10,oD (.store 1 (.tmp 11) (.const (.bool true)))]
def r104_10:LA:=[oM 12 0,oO 13 (.nilchk (.tmp 12)),fA 14 2 13,lD 15 14]
def r104_13:LA:=[oM 17 0,oO 18 (.nilchk (.tmp 17)),fA 19 0 18,lA 20 2 19,lA 21 2 4,oO 22 (.call 136 [(.tmp 20),(.tmp 21)]),oM 16 22,oO 23 (.extract 0 (.tmp 16)),oO 24 (.extract 1 (.tmp 16)),oO 6 (.alloc [(.d (.v (.complex Go.FloatKind.f64 0 0))),(cI 0)]),sD 2 6 23,oM 2 24]
def r104_14:LA:=[oM 25 0,oM 26 0,lA 27 2 6,oM 28 2,oO 29 (.bin .neq 26 (.tmp 28) (kI 0)),oO 30 (.nilchk (.tmp 25)),fA 31 0 30,sD 2 31 27,oO 32 (.nilchk (.tmp 26)),fA 33 2 32,sD 1 33 29]
def tr104:TG:=[tT 0 [0,2,4],tT 1 [0,4,8],tT 2 [0,4],tT 3 [0,4,15],tT 4 [0,2,6],tT 5 [0]]
def tl104:TG:=[]
def rs104:List AResV:=[]
def p104_0_0:PT St:=pSv [(0,500000000,0)] [sl 0 (aV false [(cPtr 500000000 0)]),sI 2,sP 4] [eBox 500000000 [(cD (dX .f64)),xI,(cD dB)],eBox 4 [(cD (dX .f64)),xI]]
def u104_0_0 {β:Type}(g:St->β):Int->Nat->Nat->Int->Bool->Nat->Nat->Int->β:=p104_0_0.unc g
def p104_0_1:PT St:=pSv [(0,500000000,0)] [sl 0 (aV false [(cPtr 500000000 0)]),sP 4] [eBox 500000000 [(cD (dX .f64)),xI,(cD dB)],eBox 4 [(cD (dX .f64)),xI]]
def u104_0_1 {β:Type}(g:St->β):Nat->Nat->Int->Bool->Nat->Nat->Int->β:=p104_0_1.unc g
def p104_0_2:PT St:=pSv [(0,500000000,0)] [sl 0 (aV false [(cPtr 500000000 0)]),sP 4,sl 8 (aV false [(cD dB)])] [eBox 500000000 [(cD (dX .f64)),xI,(cD dB)],eBox 4 [(cD (dX .f64)),xI]]
def u104_0_2 {β:Type}(g:St->β):Bool->Nat->Nat->Int->Bool->Nat->Nat->Int->β:=p104_0_2.unc g
def pr104_0_0:PT (List RV):=pRs [pR true [rD (dX .f64),rD (dI .i64),rD dB]]
def ur104_0_0 {β:Type}(g:List RV->β):Nat->Nat->Int->Bool->β:=pr104_0_0.unc g
def E104_0g (a:Tf136_0):EnvK:=EnvK.of [⟨136,nt136,[⟨pa136_0,Fn136_0 a⟩]⟩] noSeq
def E104_0:EnvK:=E104_0g f136_0
theorem eo104_0:E104_0.Ok Pg:=EnvK.of_ok noSeq_ok ⟨⟨io136_0,trivial⟩,trivial⟩
def c104_0_3g:MCode:=(.seq (.region r104_5 [] (tO [0,4,8])) (.cond (.tmp 8) (.region r104_7 [] (tO [0,4])) .skip))
def c104_0_3:MCode:=c104_0_3g
theorem g104_0_3:c104_0_3.Good Pg E104_0 sh104:=⟨trivial,trivial,trivial⟩
abbrev TJ104_0_0:Type 1:=(α:Type)->Int->(Op α)->(Bool->Op α)->Op α
def J104_0_0g (α:Type)(a:Int)(k1:Op α)(k2:Bool->Op α):Op α:=
 cK (a != 0)
 (k1)
 (k2 (a != 0))
def J104_0_0 (α:Type)(a:Int)(k1:Op α)(k2:Bool->Op α):Op α:=J104_0_0g α a k1 k2
def F104_0_0 (v:TJ104_0_0)(α:Type)(K:KT α):Int->Nat->Nat->Int->Bool->Nat->Nat->Int->Op α:=fun h a b c i d e g=>v α h (u104_0_1 (K .normal) a b c true d e g) (fun j=>u104_0_2 (K .normal) j a b c i d e g)
theorem m104_0_0g (a:Tf136_0)(α:Type)(K:KT α):F104_0_0 (J104_0_0g ) α K=p104_0_0.unc fun σ=>runM Pg (E104_0g a) sh104 (c104_0_3g ) K σ:=by kernel_rfl
theorem m104_0_0:∀ (α:Type) (K:KT α),F104_0_0 J104_0_0 α K=p104_0_0.unc fun σ=>runM Pg E104_0 sh104 c104_0_3 K σ:=m104_0_0g f136_0
abbrev Tf104_0:Type 1:=(α:Type)->Nat->Nat->Int->Bool->Nat->Nat->Int->Int->(Nat->Nat->Int->Bool->Op α)->Op α
def f104_0g (e:TJ104_0_0)(g:Tf136_0)(α:Type)(a b:Nat)(c:Int)(d:Bool)(h i:Nat)(j l:Int)(k1:Nat->Nat->Int->Bool->Op α):Op α:=
 e α l
 (k1 a b c true)
 (fun r=>cK d
 (k1 a b c d)
 (g α a b c h i j
 (fun m o p q=>k1 m o p (q != 0))))
def f104_0 (α:Type)(a b:Nat)(c:Int)(d:Bool)(e g:Nat)(h i:Int)(k1:Nat->Nat->Int->Bool->Op α):Op α:=f104_0g J104_0_0 f136_0 α a b c d e g h i k1
def pa104_0:PT (List DV):=pA [pV false [(dMr [(dX .f64),(dI .i64),dB] 0)],pV true [(dX .f64),(dI .i64)],vI]
def Fn104_0 (v:Tf104_0)(α:Type)(k:RT α):Nat->Nat->Int->Bool->Nat->Nat->Int->Int->Op α:=fun a b c d e g h i=>v α a b c d e g h i (fun j l m o=>ur104_0_0 k j l m o)
def cm104_0g (a:TJ104_0_0):MCode:=(.seq (.region r104_2 [] (tO [0,2,4])) (.seq (.mark [⟨p104_0_0,F104_0_0 a⟩] c104_0_3) (.seq (.seq (.region r104_10 [] (tO [0,4,15])) (.cond (.tmp 15) .ret .skip)) (.seq (.region r104_13 [(3,9),(4,9),(5,9)] (tO [0,2,6])) (.region r104_14 [] (tO [0]))))))
def cm104_0:MCode:=cm104_0g J104_0_0
theorem gm104_0:cm104_0.Good Pg E104_0 sh104:=⟨trivial,⟨g104_0_3,m104_0_0,trivial⟩,⟨trivial,trivial,trivial⟩,trivial,trivial⟩
theorem fm104_0g (a:Tf136_0)(b:TJ104_0_0)(α:Type)(k:RT α):Fn104_0 (f104_0g b a) α k=pa104_0.unc fun ds=>fnM Pg (E104_0g a) sh104 (cm104_0g b) rs104 k ds:=by kernel_rfl
theorem fm104_0:∀ (α:Type) (k:RT α),Fn104_0 f104_0 α k=pa104_0.unc fun ds=>fnM Pg E104_0 sh104 cm104_0 rs104 k ds:=fm104_0g f136_0 J104_0_0
theorem is104:FnIs Pg 104 nt104 tr104 tl104 cm104_0.erase rs104:=⟨Tryz.f104,Tryz.func104,rfl,by kernel_rfl,by kernel_rfl,by kernel_rfl⟩
theorem io104_0:InstOk Pg 104 nt104 ⟨pa104_0,Fn104_0 f104_0⟩:=inst_ok eo104_0 followsTry is104 ⟨⟨sh104,cm104_0,by kernel_rfl,gm104_0,fm104_0⟩⟩
abbrev nt53:Nat:=18
def sh53:SG:=[(10,[.sl]),(13,[.sl]),(15,iT),(16,iT)]
def r53_2:LA:=[oO 5 (.alloc [(.d (.v (.complex Go.FloatKind.f64 0 0))),(cI 0)]),mK 6 0]
def r53_4:LA:=[oM 7 0,oM 8 1,bT 9 .mul 7 8,lD 10 2,oO 11 (.len (.tmp 10)),oO 12 (.call 55 [(.tmp 9),(.tmp 11)]),lD 13 2,oM 14 1,oO 15 (.iaddr 1 none (.tmp 13) (.tmp 14)),lD 16 15,oO 17 (.call 54 [(.tmp 12),(.tmp 16)]),sD 2 5 17,mK 6 0]
def tr53:TG:=[tT 0 [0,1,2,5],tT 1 [5,6]]
def tl53:TG:=[]
def rs53:List AResV:=[.cell 5 true 2,.tmp 6]
def pr53_0_0:PT (List RV):=pRs [pR true [rD (dX .f64),rD (dI .i64)],wI]
def ur53_0_0 {β:Type}(g:List RV->β):Nat->Nat->Int->Int->β:=pr53_0_0.unc g
def E53_0g (a:Tf55_0)(b:Tf54_0):EnvK:=EnvK.of [⟨55,nt55,[⟨pa55_0,Fn55_0 a⟩]⟩,⟨54,nt54,[⟨pa54_0,Fn54_0 b⟩]⟩] noSeq
def E53_0:EnvK:=E53_0g f55_0 f54_0
theorem eo53_0:E53_0.Ok Pg:=EnvK.of_ok noSeq_ok ⟨⟨io55_0,trivial⟩,⟨io54_0,trivial⟩,trivial⟩
abbrev Tf53_0:Type 1:=(α:Type)->Int->Int->Rows->(Nat->Nat->Int->Op α)->Op α
def f53_0g (c:Tf54_0)(d:Tf55_0)(α:Type)(e a:Int)(b:Rows)(k1:Nat->Nat->Int->Op α):Op α:=
 d α (w64 (e*a)) ((List.length b:Nat):Int)
 (fun g h i=>rowK b a [.int .i64]
 (fun j=>c α g h i j
 (fun l m o=>k1 l m o)))
def f53_0 (α:Type)(a b:Int)(c:Rows)(k1:Nat->Nat->Int->Op α):Op α:=f53_0g f54_0 f55_0 α a b c k1
def pa53_0:PT (List DV):=pA [vI,vI,pV false [(dP [dL] 0)]]
def Fn53_0 (v:Tf53_0)(α:Type)(k:RT α):Int->Int->Rows->Op α:=fun a b c=>v α a b c (fun d e g=>ur53_0_0 k d e g 0)
def cm53_0g:MCode:=(.seq (.region r53_2 [] (tO [0,1,2,5])) (.seq (.region r53_4 [(5,6),(5,8),(5,9)] (tO [5,6])) .ret))
def cm53_0:MCode:=cm53_0g
theorem gm53_0:cm53_0.Good Pg E53_0 sh53:=⟨trivial,trivial,trivial⟩
theorem fm53_0g (a:Tf55_0)(b:Tf54_0)(α:Type)(k:RT α):Fn53_0 (f53_0g b a) α k=pa53_0.unc fun ds=>fnM Pg (E53_0g a b) sh53 (cm53_0g ) rs53 k ds:=by kernel_rfl
theorem fm53_0:∀ (α:Type) (k:RT α),Fn53_0 f53_0 α k=pa53_0.unc fun ds=>fnM Pg E53_0 sh53 cm53_0 rs53 k ds:=fm53_0g f55_0 f54_0
theorem is53:FnIs Pg 53 nt53 tr53 tl53 cm53_0.erase rs53:=⟨Tryz.f53,Tryz.func53,rfl,by kernel_rfl,by kernel_rfl,by kernel_rfl⟩
theorem io53_0:InstOk Pg 53 nt53 ⟨pa53_0,Fn53_0 f53_0⟩:=inst_ok eo53_0 followsTry is53 ⟨⟨sh53,cm53_0,by kernel_rfl,gm53_0,fm53_0⟩⟩
abbrev nt52:Nat:=35
def sh52:SG:=[(27,[.bool]),(30,[.cpx .f64,.int .i64])]
def r52_2:LA:=[oO 4 (.mv (.const (.slice none 0 0))),oO 5 (.mv (.const (.bool false)))]
def r52_4:LA:=[oO 6 (.mv (.const (.slice none 0 0)))]
def r52_7:LA:=[oM 10 0,mK 11 0]
def td52_9:OT:=(some ⟨[0,1,6,10,11],true,[⟨false,6,0,20006,2⟩],[]⟩)
def r52_11:LA:=[bT 12 .lss 11 10]
def r52_17:LA:=[oM 13 11,oM 7 13]
def r52_19:LA:=[oO 8 (.alloc [(.d (.v (.complex Go.FloatKind.f64 0 0))),(cI 0),(.d (.v (.bool false)))])]
def r52_22:LA:=[oM 14 0,mK 15 0]
def td52_24:OT:=(some ⟨[0,1,6,7,8,10,11,14,15],true,[⟨false,6,0,20006,2⟩],[]⟩)
def r52_26:LA:=[bT 16 .lss 15 14]
def r52_32:LA:=[oM 17 15,oM 9 17]
def r52_33:LA:=[oM 18 1,oM 19 7,oM 20 9,oO 21 (.calld (.tmp 18) [(.tmp 19),(.tmp 20)]),oO 22 (.extract 0 (.tmp 21)),oO 23 (.extract 1 (.tmp 21)),oO 24 (.call 104 [(.tmp 8),(.tmp 22),(.tmp 23)])]
def r52_34:LA:=[bK 25 .add 15 1,oM 15 25]
def r52_37:LA:=[fA 26 2 8,lD 27 26]
def r52_40:LA:=[oO 4 (.mv (.const (.slice none 0 0))),oO 5 (.mv (.const (.bool false)))]
def r52_41:LA:=[oM 28 6,fA 29 0 8,lA 30 2 29,oO 31 (.bslice 2 1 [(.v (.complex Go.FloatKind.f64 0 0)),(.v (.int .i64 0))] [(0,(.tmp 30))]),oO 32 (.append 2 24 (.tmp 28) (.tmp 31)),oM 6 32]
def r52_42:LA:=[bK 33 .add 11 1,oM 11 33]
def r52_44:LA:=[oM 34 6,oM 4 34,oO 5 (.mv (.const (.bool true)))]
def tr52:TG:=[tT 0 [0,1],tT 1 [0,1,6],tT 2 [0,1,6,10,11],tT 3 [0,1,6,10,11,12],tT 4 [0,1,6,7,10,11],tT 5 [0,1,6,7,8,10,11],tT 6 [0,1,6,7,8,10,11,14,15],tT 7 [0,1,6,7,8,10,11,14,15,16],tT 8 [0,1,6,7,8,9,10,11,14,15],tT 9 [0,1,6,7,8,10,11,14,15],tT 10 [0,1,6,7,8,10,11,14,15],tT 11 [0,1,6,8,10,11,27],(12,⟨[4,5],true,[⟨false,4,0,20004,2⟩],[]⟩),tT 13 [0,1,6,10,11],tT 14 [0,1,6,10,11],(15,⟨[4,5],true,[⟨false,4,0,20004,2⟩],[]⟩)]
def tl52:TG:=[(3,⟨[0,1,6,10,11],true,[⟨false,6,0,20006,2⟩],[]⟩),(7,⟨[0,1,6,7,8,10,11,14,15],true,[⟨false,6,0,20006,2⟩],[]⟩)]
def rs52:List AResV:=[.tmp 4,.tmp 5]
def p52_0_0:PT St:=pS [sI 0,sl 1 (aV false [(cD (dFn 53 [(dP [dL] 0)]))]),sl 6 (aV false [(cRef 20006)]),sI 7,sP 8,sI 10,sI 11,sI 14,sI 15] [eOwn 20006 2,eBox 8 [(cD (dX .f64)),xI,(cD dB)]]
def u52_0_0 {β:Type}(g:St->β):Int->Rows->Int->Int->Int->Int->Int->Rows->Nat->Nat->Int->Bool->β:=p52_0_0.unc g
def p52_0_1:PT St:=pS [sI 0,sl 1 (aV false [(cD (dFn 53 [(dP [dL] 0)]))]),sl 6 (aV false [(cRef 20006)]),sI 7,sP 8,sI 10,sI 11,sI 14,sI 15,sl 16 (aV false [(cD dB)])] [eOwn 20006 2,eBox 8 [(cD (dX .f64)),xI,(cD dB)]]
def u52_0_1 {β:Type}(g:St->β):Int->Rows->Int->Int->Int->Int->Int->Bool->Rows->Nat->Nat->Int->Bool->β:=p52_0_1.unc g
def p52_0_2:PT St:=pS [sI 0,sl 1 (aV false [(cD (dFn 53 [(dP [dL] 0)]))]),sl 6 (aV false [(cRef 20006)]),sI 10,sI 11] [eOwn 20006 2]
def u52_0_2 {β:Type}(g:St->β):Int->Rows->Int->Int->Rows->β:=p52_0_2.unc g
def p52_0_3:PT St:=pS [sl 4 (aV false [(cRef 20004)]),sl 5 (aV false [(cD dB)])] [eOwn 20004 2]
def u52_0_3 {β:Type}(g:St->β):Bool->Rows->β:=p52_0_3.unc g
def p52_0_4:PT St:=pS [sI 0,sl 1 (aV false [(cD (dFn 53 [(dP [dL] 0)]))]),sl 6 (aV false [(cRef 20006)]),sI 10,sI 11,sl 12 (aV false [(cD dB)])] [eOwn 20006 2]
def u52_0_4 {β:Type}(g:St->β):Int->Rows->Int->Int->Bool->Rows->β:=p52_0_4.unc g
def pr52_0_0:PT (List RV):=pRs [pR false [rO 2],pR false [rD dB]]
def ur52_0_0 {β:Type}(g:List RV->β):Rows->Bool->β:=pr52_0_0.unc g
def E52_0g (a:Tf53_0)(b:Tf104_0):EnvK:=EnvK.ofIO [⟨53,nt53,[⟨pa53_0,Fn53_0 a⟩]⟩,⟨104,nt104,[⟨pa104_0,Fn104_0 b⟩]⟩] noSeq [(104,[0])]
def E52_0:EnvK:=E52_0g f53_0 f104_0
theorem eo52_0:E52_0.Ok Pg:=EnvK.ofIO_ok noSeq_ok ⟨⟨io53_0,trivial⟩,⟨io104_0,trivial⟩,trivial⟩
def c52_0_24g:MCode:=(.seq (.region r52_26 [] (tO [0,1,6,7,8,10,11,14,15,16])) (.seq (.cond (.tmp 16) .skip (.exit 2)) (.seq (.block 3 (.seq (.region r52_32 [] (tO [0,1,6,7,8,9,10,11,14,15])) (.region r52_33 [] (tO [0,1,6,7,8,10,11,14,15])))) (.region r52_34 [] (tO [0,1,6,7,8,10,11,14,15])))))
def c52_0_24:MCode:=c52_0_24g
theorem g52_0_24:c52_0_24.Good Pg E52_0 sh52:=⟨trivial,⟨trivial,trivial⟩,⟨trivial,trivial⟩,trivial⟩
def S52_0_0g (h:Tf104_0)(i:Tf53_0)(α:Type)(j:Rows)(l b a:Int)(c d:Nat)(e:Int)(g:Bool)(kn:Int->Nat->Nat->Int->Bool->Op α)(k1:Int->Bool->Nat->Nat->Int->Bool->Op α):Op α:=
 cK (decide (a < b))
 (i α l a j
 (fun m o p=>h α c d e g m o p 0
 (fun q r s t=>kn (w64 (a+1)) q r s t)))
 (k1 a (decide (a < b)) c d e g)
def S52_0_0 (α:Type)(a:Rows)(b c d:Int)(e g:Nat)(h:Int)(i:Bool)(kn:Int->Nat->Nat->Int->Bool->Op α)(k1:Int->Bool->Nat->Nat->Int->Bool->Op α):Op α:=S52_0_0g f104_0 f53_0 α a b c d e g h i kn k1
def R52_0_0 (α:Type)(a:Rows)(b c:Int)(k1:Int->Bool->Nat->Nat->Int->Bool->Op α):Nat->Int->Nat->Nat->Int->Bool->Op α
 | 0,_,_,_,_,_=>none
 | n+1,d,e,g,h,i=>S52_0_0 α a b c d e g h i (R52_0_0 α a b c k1 n) k1
def L52_0_0 (α:Type)(a:Rows)(b c:Int)(k1:Int->Bool->Nat->Nat->Int->Bool->Op α)(d:Int)(e g:Nat)(h:Int)(i:Bool):Op α:=R52_0_0 α a b c k1 fuel d e g h i
abbrev TL52_0_0:Type 1:=(α:Type)->Rows->Int->Int->(Int->Bool->Nat->Nat->Int->Bool->Op α)->Int->Nat->Nat->Int->Bool->Op α
def F52_0_0 (v:TL52_0_0)(α:Type)(K:KT α):Int->Rows->Int->Int->Int->Int->Int->Rows->Nat->Nat->Int->Bool->Op α:=fun d a b e g c h i j l m o=>v α a b c (fun p q r s t w=>u52_0_1 (K (.exit 2)) d a b e g c p q i r s t w) h j l m o
theorem r52_0_0g (p:Tf53_0)(q:Tf104_0)(α:Type)(K:KT α)(Kn:SK α)(j:Int)(a:Rows)(b l m c d:Int)(o:Rows)(e g:Nat)(h:Int)(i:Bool):u52_0_0 (fun σ=>runM Pg (E52_0g p q) sh52 (c52_0_24g ) (thenK (fun σ=>tidyK td52_24 σ Kn) K) σ) j a b l m c d o e g h i=S52_0_0g q p α a b c d e g h i (fun d e g h i=>u52_0_0 Kn j a b l m c d o e g h i) (fun r s t w z A=>u52_0_1 (K (.exit 2)) j a b l m c r s o t w z A):=by kernel_rfl
theorem r52_0_0 (α:Type)(K:KT α)(Kn:SK α)(j:Int)(a:Rows)(b l m c d:Int)(o:Rows)(e g:Nat)(h:Int)(i:Bool):u52_0_0 (fun σ=>runM Pg E52_0 sh52 c52_0_24 (thenK (fun σ=>tidyK td52_24 σ Kn) K) σ) j a b l m c d o e g h i=S52_0_0 α a b c d e g h i (fun d e g h i=>u52_0_0 Kn j a b l m c d o e g h i) (fun p q r s t w=>u52_0_1 (K (.exit 2)) j a b l m c p q o r s t w):=r52_0_0g f53_0 f104_0 α K Kn j a b l m c d o e g h i
theorem t52_0_0 (α:Type)(K:KT α):∀ (n:Nat) (j:Int) (a:Rows) (b l m c d:Int) (o:Rows) (e g:Nat) (h:Int) (i:Bool),R52_0_0 α a b c (fun p q r s t w=>u52_0_1 (K (.exit 2)) j a b l m c p q o r s t w) n d e g h i=u52_0_0 (loopT (runM Pg E52_0 sh52 c52_0_24) td52_24 K n) j a b l m c d o e g h i:=by
 intro n
 induction n with
 | zero=>intros;rfl
 | succ n ih=>intro j a b l m c d o e g h i;exact (congrArg (fun kn=>S52_0_0 α a b c d e g h i kn (fun p q r s t w=>u52_0_1 (K (.exit 2)) j a b l m c p q o r s t w)) (funext fun d=>funext fun e=>funext fun g=>funext fun h=>funext fun i=>ih j a b l m c d o e g h i)).trans (r52_0_0 α K (loopT (runM Pg E52_0 sh52 c52_0_24) td52_24 K n) j a b l m c d o e g h i).symm
theorem m52_0_0:∀ (α:Type) (K:KT α),F52_0_0 L52_0_0 α K=p52_0_0.unc fun σ=>loopT (runM Pg E52_0 sh52 c52_0_24) td52_24 K fuel σ:=fun α K=>by funext a b c d e g h i j l m o;exact t52_0_0 α K fuel a b c d e g h i j l m o
def c52_0_9g (a:TL52_0_0):MCode:=(.seq (.region r52_11 [] (tO [0,1,6,10,11,12])) (.seq (.cond (.tmp 12) .skip (.exit 0)) (.seq (.block 1 (.seq (.region r52_17 [] (tO [0,1,6,7,10,11])) (.seq (.region r52_19 [] (tO [0,1,6,7,8,10,11])) (.seq (.seq (.region r52_22 [] (tO [0,1,6,7,8,10,11,14,15])) (.block 2 (.loop td52_24 [⟨p52_0_0,F52_0_0 a⟩] c52_0_24))) (.seq (.seq (.region r52_37 [] (tO [0,1,6,8,10,11,27])) (.cond (.tmp 27) (.seq (.region r52_40 [] (some ⟨[4,5],true,[⟨false,4,0,20004,2⟩],[]⟩)) .ret) .skip)) (.region r52_41 [] (tO [0,1,6,10,11]))))))) (.region r52_42 [] (tO [0,1,6,10,11])))))
def c52_0_9:MCode:=c52_0_9g L52_0_0
theorem g52_0_9:c52_0_9.Good Pg E52_0 sh52:=⟨trivial,⟨trivial,trivial⟩,⟨trivial,trivial,⟨trivial,g52_0_24,m52_0_0,trivial⟩,⟨trivial,⟨trivial,trivial⟩,trivial⟩,trivial⟩,trivial⟩
def S52_0_1g (h:TL52_0_0)(α:Type)(i:Int)(j:Rows)(c a:Int)(b:Rows)(kn:Int->Rows->Op α)(k1:Op α)(k2:Int->Bool->Rows->Op α):Op α:=
 cK (decide (a < c))
 (h α j a i
 (fun m o d e g l=>cK l
 (k1)
 (gK (apOk 2 24 b [[DC.v (.complex .f64 d e),DC.v (.int .i64 g)]]) (kn (w64 (a+1)) (b++[[DC.v (.complex .f64 d e),DC.v (.int .i64 g)]])))) 0 0 0 0 false)
 (k2 a (decide (a < c)) b)
def S52_0_1 (α:Type)(a:Int)(b:Rows)(c d:Int)(e:Rows)(kn:Int->Rows->Op α)(k1:Op α)(k2:Int->Bool->Rows->Op α):Op α:=S52_0_1g L52_0_0 α a b c d e kn k1 k2
def R52_0_1 (α:Type)(a:Int)(b:Rows)(c:Int)(k1:Op α)(k2:Int->Bool->Rows->Op α):Nat->Int->Rows->Op α
 | 0,_,_=>none
 | n+1,d,e=>S52_0_1 α a b c d e (R52_0_1 α a b c k1 k2 n) k1 k2
def L52_0_1 (α:Type)(a:Int)(b:Rows)(c:Int)(k1:Op α)(k2:Int->Bool->Rows->Op α)(d:Int)(e:Rows):Op α:=R52_0_1 α a b c k1 k2 fuel d e
abbrev TL52_0_1:Type 1:=(α:Type)->Int->Rows->Int->(Op α)->(Int->Bool->Rows->Op α)->Int->Rows->Op α
def F52_0_1 (v:TL52_0_1)(α:Type)(K:KT α):Int->Rows->Int->Int->Rows->Op α:=fun a b c d e=>v α a b c (u52_0_3 (K .ret) false ([]:Rows)) (fun g h i=>u52_0_4 (K (.exit 0)) a b c g h i) d e
theorem r52_0_1g (h:Tf53_0)(i:Tf104_0)(g:TL52_0_0)(α:Type)(K:KT α)(Kn:SK α)(a:Int)(b:Rows)(c d:Int)(e:Rows):u52_0_2 (fun σ=>runM Pg (E52_0g h i) sh52 (c52_0_9g g) (thenK (fun σ=>tidyK td52_9 σ Kn) K) σ) a b c d e=S52_0_1g g α a b c d e (fun d e=>u52_0_2 Kn a b c d e) (u52_0_3 (K .ret) false ([]:Rows)) (fun j l m=>u52_0_4 (K (.exit 0)) a b c j l m):=by kernel_rfl
theorem r52_0_1 (α:Type)(K:KT α)(Kn:SK α)(a:Int)(b:Rows)(c d:Int)(e:Rows):u52_0_2 (fun σ=>runM Pg E52_0 sh52 c52_0_9 (thenK (fun σ=>tidyK td52_9 σ Kn) K) σ) a b c d e=S52_0_1 α a b c d e (fun d e=>u52_0_2 Kn a b c d e) (u52_0_3 (K .ret) false ([]:Rows)) (fun g h i=>u52_0_4 (K (.exit 0)) a b c g h i):=r52_0_1g f53_0 f104_0 L52_0_0 α K Kn a b c d e
theorem t52_0_1 (α:Type)(K:KT α):∀ (n:Nat) (a:Int) (b:Rows) (c d:Int) (e:Rows),R52_0_1 α a b c (u52_0_3 (K .ret) false ([]:Rows)) (fun g h i=>u52_0_4 (K (.exit 0)) a b c g h i) n d e=u52_0_2 (loopT (runM Pg E52_0 sh52 c52_0_9) td52_9 K n) a b c d e:=by
 intro n
 induction n with
 | zero=>intros;rfl
 | succ n ih=>intro a b c d e;exact (congrArg (fun kn=>S52_0_1 α a b c d e kn (u52_0_3 (K .ret) false ([]:Rows)) (fun g h i=>u52_0_4 (K (.exit 0)) a b c g h i)) (funext fun d=>funext fun e=>ih a b c d e)).trans (r52_0_1 α K (loopT (runM Pg E52_0 sh52 c52_0_9) td52_9 K n) a b c d e).symm
theorem m52_0_1:∀ (α:Type) (K:KT α),F52_0_1 L52_0_1 α K=p52_0_2.unc fun σ=>loopT (runM Pg E52_0 sh52 c52_0_9) td52_9 K fuel σ:=fun α K=>by funext a b c d e;exact t52_0_1 α K fuel a b c d e
abbrev Tf52_0:Type 1:=(α:Type)->Int->Rows->(Rows->Bool->Op α)->Op α
def f52_0g (b:TL52_0_1)(α:Type)(a:Int)(c:Rows)(k1:Rows->Bool->Op α):Op α:=
 b α a c a
 (k1 ([]:Rows) false)
 (fun e g d=>k1 d true) 0 ([]:Rows)
def f52_0 (α:Type)(a:Int)(b:Rows)(k1:Rows->Bool->Op α):Op α:=f52_0g L52_0_1 α a b k1
def pa52_0:PT (List DV):=pA [vI,pV false [(dFn 53 [(dP [dL] 0)])]]
def Fn52_0 (v:Tf52_0)(α:Type)(k:RT α):Int->Rows->Op α:=fun a b=>v α a b (fun c d=>ur52_0_0 k c d)
def cm52_0g (a:TL52_0_1):MCode:=(.seq (.region r52_2 [] (tO [0,1])) (.seq (.region r52_4 [] (tO [0,1,6])) (.seq (.seq (.region r52_7 [] (tO [0,1,6,10,11])) (.block 0 (.loop td52_9 [⟨p52_0_2,F52_0_1 a⟩] c52_0_9))) (.seq (.region r52_44 [] (some ⟨[4,5],true,[⟨false,4,0,20004,2⟩],[]⟩)) .ret))))
def cm52_0:MCode:=cm52_0g L52_0_1
theorem gm52_0:cm52_0.Good Pg E52_0 sh52:=⟨trivial,trivial,⟨trivial,g52_0_9,m52_0_1,trivial⟩,trivial,trivial⟩
theorem fm52_0g (b:Tf53_0)(c:Tf104_0)(a:TL52_0_1)(α:Type)(k:RT α):Fn52_0 (f52_0g a) α k=pa52_0.unc fun ds=>fnM Pg (E52_0g b c) sh52 (cm52_0g a) rs52 k ds:=by kernel_rfl
theorem fm52_0:∀ (α:Type) (k:RT α),Fn52_0 f52_0 α k=pa52_0.unc fun ds=>fnM Pg E52_0 sh52 cm52_0 rs52 k ds:=fm52_0g f53_0 f104_0 L52_0_1
theorem is52:FnIs Pg 52 nt52 tr52 tl52 cm52_0.erase rs52:=⟨Tryz.f52,Tryz.func52,rfl,by kernel_rfl,by kernel_rfl,by kernel_rfl⟩
theorem io52_0:InstOk Pg 52 nt52 ⟨pa52_0,Fn52_0 f52_0⟩:=inst_ok eo52_0 followsTry is52 ⟨⟨sh52,cm52_0,by kernel_rfl,gm52_0,fm52_0⟩⟩
def p52_1_0:PT St:=pS [sI 0,sl 1 (aV false [(cD (dFn 81 [(dP [dL] 0),(dP [(dI .i64)] 0)]))]),sl 6 (aV false [(cRef 20006)]),sI 7,sP 8,sI 10,sI 11,sI 14,sI 15] [eOwn 20006 2,eBox 8 [(cD (dX .f64)),xI,(cD dB)]]
def u52_1_0 {β:Type}(g:St->β):Int->Rows->Int->Int->Int->Int->Int->Int->Rows->Nat->Nat->Int->Bool->β:=p52_1_0.unc g
def p52_1_1:PT St:=pS [sI 0,sl 1 (aV false [(cD (dFn 81 [(dP [dL] 0),(dP [(dI .i64)] 0)]))]),sl 6 (aV false [(cRef 20006)]),sI 7,sP 8,sI 10,sI 11,sI 14,sI 15,sl 16 (aV false [(cD dB)])] [eOwn 20006 2,eBox 8 [(cD (dX .f64)),xI,(cD dB)]]
def u52_1_1 {β:Type}(g:St->β):Int->Rows->Int->Int->Int->Int->Int->Int->Bool->Rows->Nat->Nat->Int->Bool->β:=p52_1_1.unc g
def p52_1_2:PT St:=pS [sI 0,sl 1 (aV false [(cD (dFn 81 [(dP [dL] 0),(dP [(dI .i64)] 0)]))]),sl 6 (aV false [(cRef 20006)]),sI 10,sI 11] [eOwn 20006 2]
def u52_1_2 {β:Type}(g:St->β):Int->Rows->Int->Int->Int->Rows->β:=p52_1_2.unc g
def p52_1_3:PT St:=pS [sl 4 (aV false [(cRef 20004)]),sl 5 (aV false [(cD dB)])] [eOwn 20004 2]
def u52_1_3 {β:Type}(g:St->β):Bool->Rows->β:=p52_1_3.unc g
def p52_1_4:PT St:=pS [sI 0,sl 1 (aV false [(cD (dFn 81 [(dP [dL] 0),(dP [(dI .i64)] 0)]))]),sl 6 (aV false [(cRef 20006)]),sI 10,sI 11,sl 12 (aV false [(cD dB)])] [eOwn 20006 2]
def u52_1_4 {β:Type}(g:St->β):Int->Rows->Int->Int->Int->Bool->Rows->β:=p52_1_4.unc g
def pr52_1_0:PT (List RV):=pRs [pR false [rO 2],pR false [rD dB]]
def ur52_1_0 {β:Type}(g:List RV->β):Rows->Bool->β:=pr52_1_0.unc g
def E52_1g (a:Tf81_0)(b:Tf104_0):EnvK:=EnvK.ofIO [⟨81,nt81,[⟨pa81_0,Fn81_0 a⟩]⟩,⟨104,nt104,[⟨pa104_0,Fn104_0 b⟩]⟩] noSeq [(104,[0])]
def E52_1:EnvK:=E52_1g f81_0 f104_0
theorem eo52_1:E52_1.Ok Pg:=EnvK.ofIO_ok noSeq_ok ⟨⟨io81_0,trivial⟩,⟨io104_0,trivial⟩,trivial⟩
def c52_1_24g:MCode:=(.seq (.region r52_26 [] (tO [0,1,6,7,8,10,11,14,15,16])) (.seq (.cond (.tmp 16) .skip (.exit 2)) (.seq (.block 3 (.seq (.region r52_32 [] (tO [0,1,6,7,8,9,10,11,14,15])) (.region r52_33 [] (tO [0,1,6,7,8,10,11,14,15])))) (.region r52_34 [] (tO [0,1,6,7,8,10,11,14,15])))))
def c52_1_24:MCode:=c52_1_24g
theorem g52_1_24:c52_1_24.Good Pg E52_1 sh52:=⟨trivial,⟨trivial,trivial⟩,⟨trivial,trivial⟩,trivial⟩
def S52_1_0g (h:Tf104_0)(i:Tf81_0)(α:Type)(j:Rows)(l m b a:Int)(c d:Nat)(e:Int)(g:Bool)(kn:Int->Nat->Nat->Int->Bool->Op α)(k1:Int->Bool->Nat->Nat->Int->Bool->Op α):Op α:=
 cK (decide (a < b))
 (i α m a j l
 (fun o p q r=>h α c d e g o p q r
 (fun s t w z=>kn (w64 (a+1)) s t w z)))
 (k1 a (decide (a < b)) c d e g)
def S52_1_0 (α:Type)(a:Rows)(b c d e:Int)(g h:Nat)(i:Int)(j:Bool)(kn:Int->Nat->Nat->Int->Bool->Op α)(k1:Int->Bool->Nat->Nat->Int->Bool->Op α):Op α:=S52_1_0g f104_0 f81_0 α a b c d e g h i j kn k1
def R52_1_0 (α:Type)(a:Rows)(b c d:Int)(k1:Int->Bool->Nat->Nat->Int->Bool->Op α):Nat->Int->Nat->Nat->Int->Bool->Op α
 | 0,_,_,_,_,_=>none
 | n+1,e,g,h,i,j=>S52_1_0 α a b c d e g h i j (R52_1_0 α a b c d k1 n) k1
def L52_1_0 (α:Type)(a:Rows)(b c d:Int)(k1:Int->Bool->Nat->Nat->Int->Bool->Op α)(e:Int)(g h:Nat)(i:Int)(j:Bool):Op α:=R52_1_0 α a b c d k1 fuel e g h i j
abbrev TL52_1_0:Type 1:=(α:Type)->Rows->Int->Int->Int->(Int->Bool->Nat->Nat->Int->Bool->Op α)->Int->Nat->Nat->Int->Bool->Op α
def F52_1_0 (v:TL52_1_0)(α:Type)(K:KT α):Int->Rows->Int->Int->Int->Int->Int->Int->Rows->Nat->Nat->Int->Bool->Op α:=fun e a b c g h d i j l m o p=>v α a b c d (fun q r s t w z=>u52_1_1 (K (.exit 2)) e a b c g h d q r j s t w z) i l m o p
theorem r52_1_0g (q:Tf81_0)(r:Tf104_0)(α:Type)(K:KT α)(Kn:SK α)(l:Int)(a:Rows)(b c m o d e:Int)(p:Rows)(g h:Nat)(i:Int)(j:Bool):u52_1_0 (fun σ=>runM Pg (E52_1g q r) sh52 (c52_1_24g ) (thenK (fun σ=>tidyK td52_24 σ Kn) K) σ) l a b c m o d e p g h i j=S52_1_0g r q α a b c d e g h i j (fun e g h i j=>u52_1_0 Kn l a b c m o d e p g h i j) (fun s t w z A B=>u52_1_1 (K (.exit 2)) l a b c m o d s t p w z A B):=by kernel_rfl
theorem r52_1_0 (α:Type)(K:KT α)(Kn:SK α)(l:Int)(a:Rows)(b c m o d e:Int)(p:Rows)(g h:Nat)(i:Int)(j:Bool):u52_1_0 (fun σ=>runM Pg E52_1 sh52 c52_1_24 (thenK (fun σ=>tidyK td52_24 σ Kn) K) σ) l a b c m o d e p g h i j=S52_1_0 α a b c d e g h i j (fun e g h i j=>u52_1_0 Kn l a b c m o d e p g h i j) (fun q r s t w z=>u52_1_1 (K (.exit 2)) l a b c m o d q r p s t w z):=r52_1_0g f81_0 f104_0 α K Kn l a b c m o d e p g h i j
theorem t52_1_0 (α:Type)(K:KT α):∀ (n:Nat) (l:Int) (a:Rows) (b c m o d e:Int) (p:Rows) (g h:Nat) (i:Int) (j:Bool),R52_1_0 α a b c d (fun q r s t w z=>u52_1_1 (K (.exit 2)) l a b c m o d q r p s t w z) n e g h i j=u52_1_0 (loopT (runM Pg E52_1 sh52 c52_1_24) td52_24 K n) l a b c m o d e p g h i j:=by
 intro n
 induction n with
 | zero=>intros;rfl
 | succ n ih=>intro l a b c m o d e p g h i j;exact (congrArg (fun kn=>S52_1_0 α a b c d e g h i j kn (fun q r s t w z=>u52_1_1 (K (.exit 2)) l a b c m o d q r p s t w z)) (funext fun e=>funext fun g=>funext fun h=>funext fun i=>funext fun j=>ih l a b c m o d e p g h i j)).trans (r52_1_0 α K (loopT (runM Pg E52_1 sh52 c52_1_24) td52_24 K n) l a b c m o d e p g h i j).symm
theorem m52_1_0:∀ (α:Type) (K:KT α),F52_1_0 L52_1_0 α K=p52_1_0.unc fun σ=>loopT (runM Pg E52_1 sh52 c52_1_24) td52_24 K fuel σ:=fun α K=>by funext a b c d e g h i j l m o p;exact t52_1_0 α K fuel a b c d e g h i j l m o p
def c52_1_9g (a:TL52_1_0):MCode:=(.seq (.region r52_11 [] (tO [0,1,6,10,11,12])) (.seq (.cond (.tmp 12) .skip (.exit 0)) (.seq (.block 1 (.seq (.region r52_17 [] (tO [0,1,6,7,10,11])) (.seq (.region r52_19 [] (tO [0,1,6,7,8,10,11])) (.seq (.seq (.region r52_22 [] (tO [0,1,6,7,8,10,11,14,15])) (.block 2 (.loop td52_24 [⟨p52_1_0,F52_1_0 a⟩] c52_1_24))) (.seq (.seq (.region r52_37 [] (tO [0,1,6,8,10,11,27])) (.cond (.tmp 27) (.seq (.region r52_40 [] (some ⟨[4,5],true,[⟨false,4,0,20004,2⟩],[]⟩)) .ret) .skip)) (.region r52_41 [] (tO [0,1,6,10,11]))))))) (.region r52_42 [] (tO [0,1,6,10,11])))))
def c52_1_9:MCode:=c52_1_9g L52_1_0
theorem g52_1_9:c52_1_9.Good Pg E52_1 sh52:=⟨trivial,⟨trivial,trivial⟩,⟨trivial,trivial,⟨trivial,g52_1_24,m52_1_0,trivial⟩,⟨trivial,⟨trivial,trivial⟩,trivial⟩,trivial⟩,trivial⟩
def S52_1_1g (h:TL52_1_0)(α:Type)(i:Int)(j:Rows)(l c a:Int)(b:Rows)(kn:Int->Rows->Op α)(k1:Op α)(k2:Int->Bool->Rows->Op α):Op α:=
 cK (decide (a < c))
 (h α j l a i
 (fun o p d e g m=>cK m
 (k1)
 (gK (apOk 2 24 b [[DC.v (.complex .f64 d e),DC.v (.int .i64 g)]]) (kn (w64 (a+1)) (b++[[DC.v (.complex .f64 d e),DC.v (.int .i64 g)]])))) 0 0 0 0 false)
 (k2 a (decide (a < c)) b)
def S52_1_1 (α:Type)(a:Int)(b:Rows)(c d e:Int)(g:Rows)(kn:Int->Rows->Op α)(k1:Op α)(k2:Int->Bool->Rows->Op α):Op α:=S52_1_1g L52_1_0 α a b c d e g kn k1 k2
def R52_1_1 (α:Type)(a:Int)(b:Rows)(c d:Int)(k1:Op α)(k2:Int->Bool->Rows->Op α):Nat->Int->Rows->Op α
 | 0,_,_=>none
 | n+1,e,g=>S52_1_1 α a b c d e g (R52_1_1 α a b c d k1 k2 n) k1 k2
def L52_1_1 (α:Type)(a:Int)(b:Rows)(c d:Int)(k1:Op α)(k2:Int->Bool->Rows->Op α)(e:Int)(g:Rows):Op α:=R52_1_1 α a b c d k1 k2 fuel e g
abbrev TL52_1_1:Type 1:=(α:Type)->Int->Rows->Int->Int->(Op α)->(Int->Bool->Rows->Op α)->Int->Rows->Op α
def F52_1_1 (v:TL52_1_1)(α:Type)(K:KT α):Int->Rows->Int->Int->Int->Rows->Op α:=fun a b c d e g=>v α a b c d (u52_1_3 (K .ret) false ([]:Rows)) (fun h i j=>u52_1_4 (K (.exit 0)) a b c d h i j) e g
theorem r52_1_1g (i:Tf81_0)(j:Tf104_0)(h:TL52_1_0)(α:Type)(K:KT α)(Kn:SK α)(a:Int)(b:Rows)(c d e:Int)(g:Rows):u52_1_2 (fun σ=>runM Pg (E52_1g i j) sh52 (c52_1_9g h) (thenK (fun σ=>tidyK td52_9 σ Kn) K) σ) a b c d e g=S52_1_1g h α a b c d e g (fun e g=>u52_1_2 Kn a b c d e g) (u52_1_3 (K .ret) false ([]:Rows)) (fun l m o=>u52_1_4 (K (.exit 0)) a b c d l m o):=by kernel_rfl
theorem r52_1_1 (α:Type)(K:KT α)(Kn:SK α)(a:Int)(b:Rows)(c d e:Int)(g:Rows):u52_1_2 (fun σ=>runM Pg E52_1 sh52 c52_1_9 (thenK (fun σ=>tidyK td52_9 σ Kn) K) σ) a b c d e g=S52_1_1 α a b c d e g (fun e g=>u52_1_2 Kn a b c d e g) (u52_1_3 (K .ret) false ([]:Rows)) (fun h i j=>u52_1_4 (K (.exit 0)) a b c d h i j):=r52_1_1g f81_0 f104_0 L52_1_0 α K Kn a b c d e g
theorem t52_1_1 (α:Type)(K:KT α):∀ (n:Nat) (a:Int) (b:Rows) (c d e:Int) (g:Rows),R52_1_1 α a b c d (u52_1_3 (K .ret) false ([]:Rows)) (fun h i j=>u52_1_4 (K (.exit 0)) a b c d h i j) n e g=u52_1_2 (loopT (runM Pg E52_1 sh52 c52_1_9) td52_9 K n) a b c d e g:=by
 intro n
 induction n with
 | zero=>intros;rfl
 | succ n ih=>intro a b c d e g;exact (congrArg (fun kn=>S52_1_1 α a b c d e g kn (u52_1_3 (K .ret) false ([]:Rows)) (fun h i j=>u52_1_4 (K (.exit 0)) a b c d h i j)) (funext fun e=>funext fun g=>ih a b c d e g)).trans (r52_1_1 α K (loopT (runM Pg E52_1 sh52 c52_1_9) td52_9 K n) a b c d e g).symm
theorem m52_1_1:∀ (α:Type) (K:KT α),F52_1_1 L52_1_1 α K=p52_1_2.unc fun σ=>loopT (runM Pg E52_1 sh52 c52_1_9) td52_9 K fuel σ:=fun α K=>by funext a b c d e g;exact t52_1_1 α K fuel a b c d e g
abbrev Tf52_1:Type 1:=(α:Type)->Int->Rows->Int->(Rows->Bool->Op α)->Op α
def f52_1g (b:TL52_1_1)(α:Type)(a:Int)(c:Rows)(d:Int)(k1:Rows->Bool->Op α):Op α:=
 b α a c d a
 (k1 ([]:Rows) false)
 (fun g h e=>k1 e true) 0 ([]:Rows)
def f52_1 (α:Type)(a:Int)(b:Rows)(c:Int)(k1:Rows->Bool->Op α):Op α:=f52_1g L52_1_1 α a b c k1
def pa52_1:PT (List DV):=pA [vI,pV false [(dFn 81 [(dP [dL] 0),(dP [(dI .i64)] 0)])]]
def Fn52_1 (v:Tf52_1)(α:Type)(k:RT α):Int->Rows->Int->Op α:=fun a b c=>v α a b c (fun d e=>ur52_1_0 k d e)
def cm52_1g (a:TL52_1_1):MCode:=(.seq (.region r52_2 [] (tO [0,1])) (.seq (.region r52_4 [] (tO [0,1,6])) (.seq (.seq (.region r52_7 [] (tO [0,1,6,10,11])) (.block 0 (.loop td52_9 [⟨p52_1_2,F52_1_1 a⟩] c52_1_9))) (.seq (.region r52_44 [] (some ⟨[4,5],true,[⟨false,4,0,20004,2⟩],[]⟩)) .ret))))
def cm52_1:MCode:=cm52_1g L52_1_1
theorem gm52_1:cm52_1.Good Pg E52_1 sh52:=⟨trivial,trivial,⟨trivial,g52_1_9,m52_1_1,trivial⟩,trivial,trivial⟩
theorem fm52_1g (b:Tf81_0)(c:Tf104_0)(a:TL52_1_1)(α:Type)(k:RT α):Fn52_1 (f52_1g a) α k=pa52_1.unc fun ds=>fnM Pg (E52_1g b c) sh52 (cm52_1g a) rs52 k ds:=by kernel_rfl
theorem fm52_1:∀ (α:Type) (k:RT α),Fn52_1 f52_1 α k=pa52_1.unc fun ds=>fnM Pg E52_1 sh52 cm52_1 rs52 k ds:=fm52_1g f81_0 f104_0 L52_1_1
theorem io52_1:InstOk Pg 52 nt52 ⟨pa52_1,Fn52_1 f52_1⟩:=inst_ok eo52_1 followsTry is52 ⟨⟨sh52,cm52_1,by kernel_rfl,gm52_1,fm52_1⟩⟩
def p52_2_0:PT St:=pS [sI 0,sl 1 (aV false [(cD (dFn 87 [(dP [(dI .i64)] 0),(dP [dL] 0)]))]),sl 6 (aV false [(cRef 20006)]),sI 7,sP 8,sI 10,sI 11,sI 14,sI 15] [eOwn 20006 2,eBox 8 [(cD (dX .f64)),xI,(cD dB)]]
def u52_2_0 {β:Type}(g:St->β):Int->Int->Rows->Int->Int->Int->Int->Int->Rows->Nat->Nat->Int->Bool->β:=p52_2_0.unc g
def p52_2_1:PT St:=pS [sI 0,sl 1 (aV false [(cD (dFn 87 [(dP [(dI .i64)] 0),(dP [dL] 0)]))]),sl 6 (aV false [(cRef 20006)]),sI 7,sP 8,sI 10,sI 11,sI 14,sI 15,sl 16 (aV false [(cD dB)])] [eOwn 20006 2,eBox 8 [(cD (dX .f64)),xI,(cD dB)]]
def u52_2_1 {β:Type}(g:St->β):Int->Int->Rows->Int->Int->Int->Int->Int->Bool->Rows->Nat->Nat->Int->Bool->β:=p52_2_1.unc g
def p52_2_2:PT St:=pS [sI 0,sl 1 (aV false [(cD (dFn 87 [(dP [(dI .i64)] 0),(dP [dL] 0)]))]),sl 6 (aV false [(cRef 20006)]),sI 10,sI 11] [eOwn 20006 2]
def u52_2_2 {β:Type}(g:St->β):Int->Int->Rows->Int->Int->Rows->β:=p52_2_2.unc g
def p52_2_3:PT St:=pS [sl 4 (aV false [(cRef 20004)]),sl 5 (aV false [(cD dB)])] [eOwn 20004 2]
def u52_2_3 {β:Type}(g:St->β):Bool->Rows->β:=p52_2_3.unc g
def p52_2_4:PT St:=pS [sI 0,sl 1 (aV false [(cD (dFn 87 [(dP [(dI .i64)] 0),(dP [dL] 0)]))]),sl 6 (aV false [(cRef 20006)]),sI 10,sI 11,sl 12 (aV false [(cD dB)])] [eOwn 20006 2]
def u52_2_4 {β:Type}(g:St->β):Int->Int->Rows->Int->Int->Bool->Rows->β:=p52_2_4.unc g
def pr52_2_0:PT (List RV):=pRs [pR false [rO 2],pR false [rD dB]]
def ur52_2_0 {β:Type}(g:List RV->β):Rows->Bool->β:=pr52_2_0.unc g
def E52_2g (a:Tf87_0)(b:Tf104_0):EnvK:=EnvK.ofIO [⟨87,nt87,[⟨pa87_0,Fn87_0 a⟩]⟩,⟨104,nt104,[⟨pa104_0,Fn104_0 b⟩]⟩] noSeq [(104,[0])]
def E52_2:EnvK:=E52_2g f87_0 f104_0
theorem eo52_2:E52_2.Ok Pg:=EnvK.ofIO_ok noSeq_ok ⟨⟨io87_0,trivial⟩,⟨io104_0,trivial⟩,trivial⟩
def c52_2_24g:MCode:=(.seq (.region r52_26 [] (tO [0,1,6,7,8,10,11,14,15,16])) (.seq (.cond (.tmp 16) .skip (.exit 2)) (.seq (.block 3 (.seq (.region r52_32 [] (tO [0,1,6,7,8,9,10,11,14,15])) (.region r52_33 [] (tO [0,1,6,7,8,10,11,14,15])))) (.region r52_34 [] (tO [0,1,6,7,8,10,11,14,15])))))
def c52_2_24:MCode:=c52_2_24g
theorem g52_2_24:c52_2_24.Good Pg E52_2 sh52:=⟨trivial,⟨trivial,trivial⟩,⟨trivial,trivial⟩,trivial⟩
def S52_2_0g (h:Tf104_0)(i:Tf87_0)(α:Type)(j:Int)(l:Rows)(m b a:Int)(c d:Nat)(e:Int)(g:Bool)(kn:Int->Nat->Nat->Int->Bool->Op α)(k1:Int->Bool->Nat->Nat->Int->Bool->Op α):Op α:=
 cK (decide (a < b))
 (i α m a j l
 (fun o p q r=>h α c d e g o p q r
 (fun s t w z=>kn (w64 (a+1)) s t w z)))
 (k1 a (decide (a < b)) c d e g)
def S52_2_0 (α:Type)(a:Int)(b:Rows)(c d e:Int)(g h:Nat)(i:Int)(j:Bool)(kn:Int->Nat->Nat->Int->Bool->Op α)(k1:Int->Bool->Nat->Nat->Int->Bool->Op α):Op α:=S52_2_0g f104_0 f87_0 α a b c d e g h i j kn k1
def R52_2_0 (α:Type)(a:Int)(b:Rows)(c d:Int)(k1:Int->Bool->Nat->Nat->Int->Bool->Op α):Nat->Int->Nat->Nat->Int->Bool->Op α
 | 0,_,_,_,_,_=>none
 | n+1,e,g,h,i,j=>S52_2_0 α a b c d e g h i j (R52_2_0 α a b c d k1 n) k1
def L52_2_0 (α:Type)(a:Int)(b:Rows)(c d:Int)(k1:Int->Bool->Nat->Nat->Int->Bool->Op α)(e:Int)(g h:Nat)(i:Int)(j:Bool):Op α:=R52_2_0 α a b c d k1 fuel e g h i j
abbrev TL52_2_0:Type 1:=(α:Type)->Int->Rows->Int->Int->(Int->Bool->Nat->Nat->Int->Bool->Op α)->Int->Nat->Nat->Int->Bool->Op α
def F52_2_0 (v:TL52_2_0)(α:Type)(K:KT α):Int->Int->Rows->Int->Int->Int->Int->Int->Rows->Nat->Nat->Int->Bool->Op α:=fun e a b c g h d i j l m o p=>v α a b c d (fun q r s t w z=>u52_2_1 (K (.exit 2)) e a b c g h d q r j s t w z) i l m o p
theorem r52_2_0g (q:Tf87_0)(r:Tf104_0)(α:Type)(K:KT α)(Kn:SK α)(l a:Int)(b:Rows)(c m o d e:Int)(p:Rows)(g h:Nat)(i:Int)(j:Bool):u52_2_0 (fun σ=>runM Pg (E52_2g q r) sh52 (c52_2_24g ) (thenK (fun σ=>tidyK td52_24 σ Kn) K) σ) l a b c m o d e p g h i j=S52_2_0g r q α a b c d e g h i j (fun e g h i j=>u52_2_0 Kn l a b c m o d e p g h i j) (fun s t w z A B=>u52_2_1 (K (.exit 2)) l a b c m o d s t p w z A B):=by kernel_rfl
theorem r52_2_0 (α:Type)(K:KT α)(Kn:SK α)(l a:Int)(b:Rows)(c m o d e:Int)(p:Rows)(g h:Nat)(i:Int)(j:Bool):u52_2_0 (fun σ=>runM Pg E52_2 sh52 c52_2_24 (thenK (fun σ=>tidyK td52_24 σ Kn) K) σ) l a b c m o d e p g h i j=S52_2_0 α a b c d e g h i j (fun e g h i j=>u52_2_0 Kn l a b c m o d e p g h i j) (fun q r s t w z=>u52_2_1 (K (.exit 2)) l a b c m o d q r p s t w z):=r52_2_0g f87_0 f104_0 α K Kn l a b c m o d e p g h i j
theorem t52_2_0 (α:Type)(K:KT α):∀ (n:Nat) (l a:Int) (b:Rows) (c m o d e:Int) (p:Rows) (g h:Nat) (i:Int) (j:Bool),R52_2_0 α a b c d (fun q r s t w z=>u52_2_1 (K (.exit 2)) l a b c m o d q r p s t w z) n e g h i j=u52_2_0 (loopT (runM Pg E52_2 sh52 c52_2_24) td52_24 K n) l a b c m o d e p g h i j:=by
 intro n
 induction n with
 | zero=>intros;rfl
 | succ n ih=>intro l a b c m o d e p g h i j;exact (congrArg (fun kn=>S52_2_0 α a b c d e g h i j kn (fun q r s t w z=>u52_2_1 (K (.exit 2)) l a b c m o d q r p s t w z)) (funext fun e=>funext fun g=>funext fun h=>funext fun i=>funext fun j=>ih l a b c m o d e p g h i j)).trans (r52_2_0 α K (loopT (runM Pg E52_2 sh52 c52_2_24) td52_24 K n) l a b c m o d e p g h i j).symm
theorem m52_2_0:∀ (α:Type) (K:KT α),F52_2_0 L52_2_0 α K=p52_2_0.unc fun σ=>loopT (runM Pg E52_2 sh52 c52_2_24) td52_24 K fuel σ:=fun α K=>by funext a b c d e g h i j l m o p;exact t52_2_0 α K fuel a b c d e g h i j l m o p
def c52_2_9g (a:TL52_2_0):MCode:=(.seq (.region r52_11 [] (tO [0,1,6,10,11,12])) (.seq (.cond (.tmp 12) .skip (.exit 0)) (.seq (.block 1 (.seq (.region r52_17 [] (tO [0,1,6,7,10,11])) (.seq (.region r52_19 [] (tO [0,1,6,7,8,10,11])) (.seq (.seq (.region r52_22 [] (tO [0,1,6,7,8,10,11,14,15])) (.block 2 (.loop td52_24 [⟨p52_2_0,F52_2_0 a⟩] c52_2_24))) (.seq (.seq (.region r52_37 [] (tO [0,1,6,8,10,11,27])) (.cond (.tmp 27) (.seq (.region r52_40 [] (some ⟨[4,5],true,[⟨false,4,0,20004,2⟩],[]⟩)) .ret) .skip)) (.region r52_41 [] (tO [0,1,6,10,11]))))))) (.region r52_42 [] (tO [0,1,6,10,11])))))
def c52_2_9:MCode:=c52_2_9g L52_2_0
theorem g52_2_9:c52_2_9.Good Pg E52_2 sh52:=⟨trivial,⟨trivial,trivial⟩,⟨trivial,trivial,⟨trivial,g52_2_24,m52_2_0,trivial⟩,⟨trivial,⟨trivial,trivial⟩,trivial⟩,trivial⟩,trivial⟩
def S52_2_1g (h:TL52_2_0)(α:Type)(i j:Int)(l:Rows)(c a:Int)(b:Rows)(kn:Int->Rows->Op α)(k1:Op α)(k2:Int->Bool->Rows->Op α):Op α:=
 cK (decide (a < c))
 (h α j l a i
 (fun o p d e g m=>cK m
 (k1)
 (gK (apOk 2 24 b [[DC.v (.complex .f64 d e),DC.v (.int .i64 g)]]) (kn (w64 (a+1)) (b++[[DC.v (.complex .f64 d e),DC.v (.int .i64 g)]])))) 0 0 0 0 false)
 (k2 a (decide (a < c)) b)
def S52_2_1 (α:Type)(a b:Int)(c:Rows)(d e:Int)(g:Rows)(kn:Int->Rows->Op α)(k1:Op α)(k2:Int->Bool->Rows->Op α):Op α:=S52_2_1g L52_2_0 α a b c d e g kn k1 k2
def R52_2_1 (α:Type)(a b:Int)(c:Rows)(d:Int)(k1:Op α)(k2:Int->Bool->Rows->Op α):Nat->Int->Rows->Op α
 | 0,_,_=>none
 | n+1,e,g=>S52_2_1 α a b c d e g (R52_2_1 α a b c d k1 k2 n) k1 k2
def L52_2_1 (α:Type)(a b:Int)(c:Rows)(d:Int)(k1:Op α)(k2:Int->Bool->Rows->Op α)(e:Int)(g:Rows):Op α:=R52_2_1 α a b c d k1 k2 fuel e g
abbrev TL52_2_1:Type 1:=(α:Type)->Int->Int->Rows->Int->(Op α)->(Int->Bool->Rows->Op α)->Int->Rows->Op α
def F52_2_1 (v:TL52_2_1)(α:Type)(K:KT α):Int->Int->Rows->Int->Int->Rows->Op α:=fun a b c d e g=>v α a b c d (u52_2_3 (K .ret) false ([]:Rows)) (fun h i j=>u52_2_4 (K (.exit 0)) a b c d h i j) e g
theorem r52_2_1g (i:Tf87_0)(j:Tf104_0)(h:TL52_2_0)(α:Type)(K:KT α)(Kn:SK α)(a b:Int)(c:Rows)(d e:Int)(g:Rows):u52_2_2 (fun σ=>runM Pg (E52_2g i j) sh52 (c52_2_9g h) (thenK (fun σ=>tidyK td52_9 σ Kn) K) σ) a b c d e g=S52_2_1g h α a b c d e g (fun e g=>u52_2_2 Kn a b c d e g) (u52_2_3 (K .ret) false ([]:Rows)) (fun l m o=>u52_2_4 (K (.exit 0)) a b c d l m o):=by kernel_rfl
theorem r52_2_1 (α:Type)(K:KT α)(Kn:SK α)(a b:Int)(c:Rows)(d e:Int)(g:Rows):u52_2_2 (fun σ=>runM Pg E52_2 sh52 c52_2_9 (thenK (fun σ=>tidyK td52_9 σ Kn) K) σ) a b c d e g=S52_2_1 α a b c d e g (fun e g=>u52_2_2 Kn a b c d e g) (u52_2_3 (K .ret) false ([]:Rows)) (fun h i j=>u52_2_4 (K (.exit 0)) a b c d h i j):=r52_2_1g f87_0 f104_0 L52_2_0 α K Kn a b c d e g
theorem t52_2_1 (α:Type)(K:KT α):∀ (n:Nat) (a b:Int) (c:Rows) (d e:Int) (g:Rows),R52_2_1 α a b c d (u52_2_3 (K .ret) false ([]:Rows)) (fun h i j=>u52_2_4 (K (.exit 0)) a b c d h i j) n e g=u52_2_2 (loopT (runM Pg E52_2 sh52 c52_2_9) td52_9 K n) a b c d e g:=by
 intro n
 induction n with
 | zero=>intros;rfl
 | succ n ih=>intro a b c d e g;exact (congrArg (fun kn=>S52_2_1 α a b c d e g kn (u52_2_3 (K .ret) false ([]:Rows)) (fun h i j=>u52_2_4 (K (.exit 0)) a b c d h i j)) (funext fun e=>funext fun g=>ih a b c d e g)).trans (r52_2_1 α K (loopT (runM Pg E52_2 sh52 c52_2_9) td52_9 K n) a b c d e g).symm
theorem m52_2_1:∀ (α:Type) (K:KT α),F52_2_1 L52_2_1 α K=p52_2_2.unc fun σ=>loopT (runM Pg E52_2 sh52 c52_2_9) td52_9 K fuel σ:=fun α K=>by funext a b c d e g;exact t52_2_1 α K fuel a b c d e g
abbrev Tf52_2:Type 1:=(α:Type)->Int->Int->Rows->(Rows->Bool->Op α)->Op α
def f52_2g (b:TL52_2_1)(α:Type)(a c:Int)(d:Rows)(k1:Rows->Bool->Op α):Op α:=
 b α a c d a
 (k1 ([]:Rows) false)
 (fun g h e=>k1 e true) 0 ([]:Rows)
def f52_2 (α:Type)(a b:Int)(c:Rows)(k1:Rows->Bool->Op α):Op α:=f52_2g L52_2_1 α a b c k1
def pa52_2:PT (List DV):=pA [vI,pV false [(dFn 87 [(dP [(dI .i64)] 0),(dP [dL] 0)])]]
def Fn52_2 (v:Tf52_2)(α:Type)(k:RT α):Int->Int->Rows->Op α:=fun a b c=>v α a b c (fun d e=>ur52_2_0 k d e)
def cm52_2g (a:TL52_2_1):MCode:=(.seq (.region r52_2 [] (tO [0,1])) (.seq (.region r52_4 [] (tO [0,1,6])) (.seq (.seq (.region r52_7 [] (tO [0,1,6,10,11])) (.block 0 (.loop td52_9 [⟨p52_2_2,F52_2_1 a⟩] c52_2_9))) (.seq (.region r52_44 [] (some ⟨[4,5],true,[⟨false,4,0,20004,2⟩],[]⟩)) .ret))))
def cm52_2:MCode:=cm52_2g L52_2_1
theorem gm52_2:cm52_2.Good Pg E52_2 sh52:=⟨trivial,trivial,⟨trivial,g52_2_9,m52_2_1,trivial⟩,trivial,trivial⟩
theorem fm52_2g (b:Tf87_0)(c:Tf104_0)(a:TL52_2_1)(α:Type)(k:RT α):Fn52_2 (f52_2g a) α k=pa52_2.unc fun ds=>fnM Pg (E52_2g b c) sh52 (cm52_2g a) rs52 k ds:=by kernel_rfl
theorem fm52_2:∀ (α:Type) (k:RT α),Fn52_2 f52_2 α k=pa52_2.unc fun ds=>fnM Pg E52_2 sh52 cm52_2 rs52 k ds:=fm52_2g f87_0 f104_0 L52_2_1
theorem io52_2:InstOk Pg 52 nt52 ⟨pa52_2,Fn52_2 f52_2⟩:=inst_ok eo52_2 followsTry is52 ⟨⟨sh52,cm52_2,by kernel_rfl,gm52_2,fm52_2⟩⟩
abbrev nt32:Nat:=61
def sh32:SG:=[(12,[.sl]),(14,iT),(19,[.sl]),(23,[.cpx .f64,.int .i64]),(24,[.cpx .f64,.int .i64]),(25,[.cpx .f64,.int .i64]),(32,iT),(48,[.cpx .f64,.int .i64]),(49,[.cpx .f64,.int .i64]),(50,iT),(52,[.cpx .f64,.int .i64]),(55,[.cpx .f64,.int .i64]),(56,[.cpx .f64,.int .i64])]
def r32_2:LA:=[oO 1 (.box (.tmp 0)),oO 2 (.mv (.const (.slice none 0 0))),mK 3 0]
def r32_4:LA:=[lD 12 1,oO 13 (.len (.tmp 12)),oO 4 (.alloc [(cI 0)]),sD 1 4 13]
def r32_7:LA:=[lD 14 4,oO 15 (.call 50 [.tmp 14]),oM 5 15]
def r32_9:LA:=[oM 16 5,oO 17 (.bin .neq 26 (.tmp 16) (kI 0))]
def r32_12:LA:=[oM 18 5,oO 2 (.mv (.const (.slice none 0 0))),oM 3 18]
def r32_15:LA:=[lD 19 1,oO 20 (.len (.tmp 19)),mK 21 0]
def td32_17:OT:=(some ⟨[1,4,19,20,21],true,[⟨false,19,0,20019,2⟩,⟨true,1,0,30100,2⟩],[]⟩)
def r32_19:LA:=[bT 22 .lss 21 20]
def r32_25:LA:=[oO 23 (.iaddr 2 none (.tmp 19) (.tmp 21)),lA 24 2 23,oO 7 (.alloc [(.d (.v (.complex Go.FloatKind.f64 0 0))),(cI 0)]),sD 2 7 24]
def r32_27:LA:=[lA 25 2 7,oO 26 (.call 64 [.tmp 25]),oM 8 26]
def r32_29:LA:=[oM 27 8,oO 28 (.bin .neq 26 (.tmp 27) (kI 0))]
def r32_32:LA:=[oM 29 8,oO 2 (.mv (.const (.slice none 0 0))),oM 3 29]
def r32_33:LA:=[bK 30 .add 21 1,oM 21 30]
def r32_35:LA:=[lD 32 4,oO 33 (.mkfn 81 [(.tmp 1),(.tmp 4)]),oO 34 (.call 52 [(.tmp 32),(.tmp 33)]),oM 31 34,oO 35 (.extract 0 (.tmp 31)),oO 36 (.extract 1 (.tmp 31)),oM 9 35,oM 10 36]
def r32_38:LA:=[oM 37 10,oO 38 (.pure (oB (.unOp .not 4 (.tmp 37)) 4))]
def r32_41:LA:=[oO 2 (.mv (.const (.slice none 0 0))),mK 3 8]
def r32_44:LA:=[oM 39 9,oO 40 (.len (.tmp 39)),mK 41 0]
def td32_46:OT:=(some ⟨[4,9,40,41],true,[⟨false,9,0,20009,2⟩,⟨true,1,0,30100,2⟩],[]⟩)
def r32_48:LA:=[bT 42 .lss 41 40]
def r32_54:LA:=[oM 43 41,oM 11 43]
def r32_56:LA:=[oM 44 9,oM 45 11,oM 46 9,oM 47 11,oO 48 (.iaddr 2 none (.tmp 46) (.tmp 47)),lA 49 2 48,lD 50 4,oO 51 (.call 83 [(.tmp 49),(.tmp 50)]),oO 52 (.iaddr 2 none (.tmp 44) (.tmp 45)),sD 2 52 51]
def r32_58:LA:=[oM 53 9,oM 54 11,oO 55 (.iaddr 2 none (.tmp 53) (.tmp 54)),lA 56 2 55,oO 57 (.call 64 [.tmp 56]),oO 58 (.bin .neq 26 (.tmp 57) (kI 0))]
def r32_61:LA:=[oO 2 (.mv (.const (.slice none 0 0))),mK 3 8]
def r32_62:LA:=[bK 59 .add 41 1,oM 41 59]
def r32_64:LA:=[oM 60 9,oM 2 60,mK 3 0]
def tr32:TG:=[tT 0 [1],tT 1 [1,4],tT 2 [1,4,5],tT 3 [1,4,5,17],(4,⟨[2,3],true,[⟨false,2,0,20002,2⟩],[]⟩),tT 5 [1,4,19,20,21],tT 6 [1,4,19,20,21,22],tT 7 [1,4,7,19,20,21],tT 8 [1,4,8,19,20,21],tT 9 [1,4,8,19,20,21,28],(10,⟨[2,3],true,[⟨false,2,0,20002,2⟩],[]⟩),tT 11 [1,4,19,20,21],tT 12 [4,9,10],tT 13 [4,9,38],(14,⟨[2,3],true,[⟨false,2,0,20002,2⟩],[]⟩),tT 15 [4,9,40,41],tT 16 [4,9,40,41,42],tT 17 [4,9,11,40,41],tT 18 [4,9,11,40,41],tT 19 [4,9,40,41,58],(20,⟨[2,3],true,[⟨false,2,0,20002,2⟩],[]⟩),tT 21 [4,9,40,41],(22,⟨[2,3],true,[⟨false,2,0,20002,2⟩],[]⟩)]
def tl32:TG:=[(6,⟨[1,4,19,20,21],true,[⟨false,19,0,20019,2⟩,⟨true,1,0,30100,2⟩],[]⟩),(16,⟨[4,9,40,41],true,[⟨false,9,0,20009,2⟩,⟨true,1,0,30100,2⟩],[]⟩)]
def rs32:List AResV:=[.tmp 2,.tmp 3]
def p32_0_0:PT St:=pS [sP 1,sP 4,sl 19 (aV false [(cD dL)]),sI 20,sI 21] [eBox 1 [(cD dL)],eBox 4 [xI]]
def u32_0_0 {β:Type}(g:St->β):Rows->Int->Int->Rows->Int->β:=p32_0_0.unc g
def p32_0_1:PT St:=pS [sl 2 (aV false [(cRef 20002)]),sI 3] [eOwn 20002 2]
def u32_0_1 {β:Type}(g:St->β):Int->Rows->β:=p32_0_1.unc g
def p32_0_2:PT St:=pS [sP 1,sP 4,sl 19 (aV false [(cD dL)]),sI 20,sI 21,sl 22 (aV false [(cD dB)])] [eBox 1 [(cD dL)],eBox 4 [xI]]
def u32_0_2 {β:Type}(g:St->β):Rows->Int->Int->Bool->Rows->Int->β:=p32_0_2.unc g
def p32_0_3:PT St:=pS [sP 4,sl 9 (aV false [(cRef 20009)]),sI 40,sI 41] [eBox 4 [xI],eOwn 20009 2]
def u32_0_3 {β:Type}(g:St->β):Int->Int->Int->Rows->β:=p32_0_3.unc g
def p32_0_4:PT St:=pS [sP 4,sl 9 (aV false [(cRef 20009)]),sI 40,sI 41,sl 42 (aV false [(cD dB)])] [eBox 4 [xI],eOwn 20009 2]
def u32_0_4 {β:Type}(g:St->β):Int->Int->Bool->Int->Rows->β:=p32_0_4.unc g
def pr32_0_0:PT (List RV):=pRs [pR false [rO 2],wI]
def ur32_0_0 {β:Type}(g:List RV->β):Rows->Int->β:=pr32_0_0.unc g
def E32_0g (a:Tf50_0)(b:Tf64_0)(c:Tf52_1)(d:Tf83_0):EnvK:=EnvK.of [⟨50,nt50,[⟨pa50_0,Fn50_0 a⟩]⟩,⟨64,nt64,[⟨pa64_0,Fn64_0 b⟩]⟩,⟨52,nt52,[⟨pa52_1,Fn52_1 c⟩]⟩,⟨83,nt83,[⟨pa83_0,Fn83_0 d⟩]⟩] noSeq
def E32_0:EnvK:=E32_0g f50_0 f64_0 f52_1 f83_0
theorem eo32_0:E32_0.Ok Pg:=EnvK.of_ok noSeq_ok ⟨⟨io50_0,trivial⟩,⟨io64_0,trivial⟩,⟨io52_1,trivial⟩,⟨io83_0,trivial⟩,trivial⟩
def c32_0_46g:MCode:=(.seq (.region r32_48 [] (tO [4,9,40,41,42])) (.seq (.cond (.tmp 42) .skip (.exit 2)) (.seq (.block 3 (.seq (.region r32_54 [] (tO [4,9,11,40,41])) (.seq (.region r32_56 [] (tO [4,9,11,40,41])) (.seq (.region r32_58 [] (tO [4,9,40,41,58])) (.cond (.tmp 58) (.seq (.region r32_61 [] (some ⟨[2,3],true,[⟨false,2,0,20002,2⟩],[]⟩)) .ret) .skip))))) (.region r32_62 [] (tO [4,9,40,41])))))
def c32_0_46:MCode:=c32_0_46g
theorem g32_0_46:c32_0_46.Good Pg E32_0 sh32:=⟨trivial,⟨trivial,trivial⟩,⟨trivial,trivial,trivial,⟨trivial,trivial⟩,trivial⟩,trivial⟩
def S32_0_1g (h:Tf64_0)(i:Tf83_0)(α:Type)(g j a:Int)(b:Rows)(kn:Int->Rows->Op α)(k1:Op α)(k2:Int->Bool->Rows->Op α):Op α:=
 cK (decide (a < g))
 (ixK b a 2
 (ldK b (Int.toNat a) 0 [.cpx .f64,.int .i64]
 (fun l m o=>i α l m o j
 (fun c d e=>ixK b a 2
 (stK b (Int.toNat a) 0 2
 (ixK (List.set b (Int.toNat a) (splice (rowAt b (Int.toNat a)) 0 [DC.v (.complex .f64 c d),DC.v (.int .i64 e)])) a 2
 (ldK (List.set b (Int.toNat a) (splice (rowAt b (Int.toNat a)) 0 [DC.v (.complex .f64 c d),DC.v (.int .i64 e)])) (Int.toNat a) 0 [.cpx .f64,.int .i64]
 (fun p q r=>h α p q r
 (fun s=>cK (s != 0)
 (k1)
 (kn (w64 (a+1)) (List.set b (Int.toNat a) (splice (rowAt b (Int.toNat a)) 0 [DC.v (.complex .f64 c d),DC.v (.int .i64 e)]))))))))))))
 (k2 a (decide (a < g)) b)
def S32_0_1 (α:Type)(a b c:Int)(d:Rows)(kn:Int->Rows->Op α)(k1:Op α)(k2:Int->Bool->Rows->Op α):Op α:=S32_0_1g f64_0 f83_0 α a b c d kn k1 k2
def R32_0_1 (α:Type)(a b:Int)(k1:Op α)(k2:Int->Bool->Rows->Op α):Nat->Int->Rows->Op α
 | 0,_,_=>none
 | n+1,c,d=>S32_0_1 α a b c d (R32_0_1 α a b k1 k2 n) k1 k2
def L32_0_1 (α:Type)(a b:Int)(k1:Op α)(k2:Int->Bool->Rows->Op α)(c:Int)(d:Rows):Op α:=R32_0_1 α a b k1 k2 fuel c d
abbrev TL32_0_1:Type 1:=(α:Type)->Int->Int->(Op α)->(Int->Bool->Rows->Op α)->Int->Rows->Op α
def F32_0_1 (v:TL32_0_1)(α:Type)(K:KT α):Int->Int->Int->Rows->Op α:=fun a c b d=>v α a b (u32_0_1 (K .ret) 8 ([]:Rows)) (fun e g h=>u32_0_4 (K (.exit 2)) a e g b h) c d
theorem r32_0_1g (h:Tf50_0)(e:Tf64_0)(i:Tf52_1)(g:Tf83_0)(α:Type)(K:KT α)(Kn:SK α)(a b c:Int)(d:Rows):u32_0_3 (fun σ=>runM Pg (E32_0g h e i g) sh32 (c32_0_46g ) (thenK (fun σ=>tidyK td32_46 σ Kn) K) σ) a b c d=S32_0_1g e g α a c b d (fun b d=>u32_0_3 Kn a b c d) (u32_0_1 (K .ret) 8 ([]:Rows)) (fun j l m=>u32_0_4 (K (.exit 2)) a j l c m):=by kernel_rfl
theorem r32_0_1 (α:Type)(K:KT α)(Kn:SK α)(a b c:Int)(d:Rows):u32_0_3 (fun σ=>runM Pg E32_0 sh32 c32_0_46 (thenK (fun σ=>tidyK td32_46 σ Kn) K) σ) a b c d=S32_0_1 α a c b d (fun b d=>u32_0_3 Kn a b c d) (u32_0_1 (K .ret) 8 ([]:Rows)) (fun e g h=>u32_0_4 (K (.exit 2)) a e g c h):=r32_0_1g f50_0 f64_0 f52_1 f83_0 α K Kn a b c d
theorem t32_0_1 (α:Type)(K:KT α):∀ (n:Nat) (a c b:Int) (d:Rows),R32_0_1 α a b (u32_0_1 (K .ret) 8 ([]:Rows)) (fun e g h=>u32_0_4 (K (.exit 2)) a e g b h) n c d=u32_0_3 (loopT (runM Pg E32_0 sh32 c32_0_46) td32_46 K n) a c b d:=by
 intro n
 induction n with
 | zero=>intros;rfl
 | succ n ih=>intro a c b d;exact (congrArg (fun kn=>S32_0_1 α a b c d kn (u32_0_1 (K .ret) 8 ([]:Rows)) (fun e g h=>u32_0_4 (K (.exit 2)) a e g b h)) (funext fun c=>funext fun d=>ih a c b d)).trans (r32_0_1 α K (loopT (runM Pg E32_0 sh32 c32_0_46) td32_46 K n) a c b d).symm
theorem m32_0_1:∀ (α:Type) (K:KT α),F32_0_1 L32_0_1 α K=p32_0_3.unc fun σ=>loopT (runM Pg E32_0 sh32 c32_0_46) td32_46 K fuel σ:=fun α K=>by funext a b c d;exact t32_0_1 α K fuel a b c d
def c32_0_17g:MCode:=(.seq (.region r32_19 [] (tO [1,4,19,20,21,22])) (.seq (.cond (.tmp 22) .skip (.exit 0)) (.seq (.block 1 (.seq (.region r32_25 [] (tO [1,4,7,19,20,21])) (.seq (.region r32_27 [] (tO [1,4,8,19,20,21])) (.seq (.region r32_29 [] (tO [1,4,8,19,20,21,28])) (.cond (.tmp 28) (.seq (.region r32_32 [] (some ⟨[2,3],true,[⟨false,2,0,20002,2⟩],[]⟩)) .ret) .skip))))) (.region r32_33 [] (tO [1,4,19,20,21])))))
def c32_0_17:MCode:=c32_0_17g
theorem g32_0_17:c32_0_17.Good Pg E32_0 sh32:=⟨trivial,⟨trivial,trivial⟩,⟨trivial,trivial,trivial,⟨trivial,trivial⟩,trivial⟩,trivial⟩
def S32_0_0g (d:Tf64_0)(α:Type)(e:Rows)(b a:Int)(kn:Int->Op α)(k1:Int->Op α)(k2:Int->Bool->Op α):Op α:=
 cK (decide (a < b))
 (rowK e a [.cpx .f64,.int .i64]
 (fun g h i=>d α g h i
 (fun c=>cK (c != 0)
 (k1 c)
 (kn (w64 (a+1))))))
 (k2 a (decide (a < b)))
def S32_0_0 (α:Type)(a:Rows)(b c:Int)(kn:Int->Op α)(k1:Int->Op α)(k2:Int->Bool->Op α):Op α:=S32_0_0g f64_0 α a b c kn k1 k2
def R32_0_0 (α:Type)(a:Rows)(b:Int)(k1:Int->Op α)(k2:Int->Bool->Op α):Nat->Int->Op α
 | 0,_=>none
 | n+1,c=>S32_0_0 α a b c (R32_0_0 α a b k1 k2 n) k1 k2
def L32_0_0 (α:Type)(a:Rows)(b:Int)(k1:Int->Op α)(k2:Int->Bool->Op α)(c:Int):Op α:=R32_0_0 α a b k1 k2 fuel c
abbrev TL32_0_0:Type 1:=(α:Type)->Rows->Int->(Int->Op α)->(Int->Bool->Op α)->Int->Op α
def F32_0_0 (v:TL32_0_0)(α:Type)(K:KT α):Rows->Int->Int->Rows->Int->Op α:=fun b c d e g=>v α b c (fun a=>u32_0_1 (K .ret) a ([]:Rows)) (fun a h=>u32_0_2 (K (.exit 0)) b c a h e g) d
theorem r32_0_0g (i:Tf50_0)(h:Tf64_0)(j:Tf52_1)(l:Tf83_0)(α:Type)(K:KT α)(Kn:SK α)(a:Rows)(b c:Int)(d:Rows)(e:Int):u32_0_0 (fun σ=>runM Pg (E32_0g i h j l) sh32 (c32_0_17g ) (thenK (fun σ=>tidyK td32_17 σ Kn) K) σ) a b c d e=S32_0_0g h α a b c (fun c=>u32_0_0 Kn a b c d e) (fun g=>u32_0_1 (K .ret) g ([]:Rows)) (fun g m=>u32_0_2 (K (.exit 0)) a b g m d e):=by kernel_rfl
theorem r32_0_0 (α:Type)(K:KT α)(Kn:SK α)(a:Rows)(b c:Int)(d:Rows)(e:Int):u32_0_0 (fun σ=>runM Pg E32_0 sh32 c32_0_17 (thenK (fun σ=>tidyK td32_17 σ Kn) K) σ) a b c d e=S32_0_0 α a b c (fun c=>u32_0_0 Kn a b c d e) (fun g=>u32_0_1 (K .ret) g ([]:Rows)) (fun g h=>u32_0_2 (K (.exit 0)) a b g h d e):=r32_0_0g f50_0 f64_0 f52_1 f83_0 α K Kn a b c d e
theorem t32_0_0 (α:Type)(K:KT α):∀ (n:Nat) (a:Rows) (b c:Int) (e:Rows) (g:Int),R32_0_0 α a b (fun d=>u32_0_1 (K .ret) d ([]:Rows)) (fun d h=>u32_0_2 (K (.exit 0)) a b d h e g) n c=u32_0_0 (loopT (runM Pg E32_0 sh32 c32_0_17) td32_17 K n) a b c e g:=by
 intro n
 induction n with
 | zero=>intros;rfl
 | succ n ih=>intro a b c e g;exact (congrArg (fun kn=>S32_0_0 α a b c kn (fun d=>u32_0_1 (K .ret) d ([]:Rows)) (fun d h=>u32_0_2 (K (.exit 0)) a b d h e g)) (funext fun c=>ih a b c e g)).trans (r32_0_0 α K (loopT (runM Pg E32_0 sh32 c32_0_17) td32_17 K n) a b c e g).symm
theorem m32_0_0:∀ (α:Type) (K:KT α),F32_0_0 L32_0_0 α K=p32_0_0.unc fun σ=>loopT (runM Pg E32_0 sh32 c32_0_17) td32_17 K fuel σ:=fun α K=>by funext a b c d e;exact t32_0_0 α K fuel a b c d e
abbrev Tf32_0:Type 1:=(α:Type)->Rows->(Rows->Int->Op α)->Op α
def f32_0g (d:TL32_0_0)(e:TL32_0_1)(g:Tf50_0)(h:Tf52_1)(α:Type)(a:Rows)(k1:Rows->Int->Op α):Op α:=
 g α ((List.length a:Nat):Int)
 (fun c=>cK (c != 0)
 (k1 ([]:Rows) c)
 (d α a ((List.length a:Nat):Int)
 (fun i=>k1 ([]:Rows) i)
 (fun m o=>h α ((List.length a:Nat):Int) a ((List.length a:Nat):Int)
 (fun b j=>flatK [b]
 (cK (!j)
 (k1 ([]:Rows) 8)
 (e α ((List.length b:Nat):Int) ((List.length a:Nat):Int)
 (k1 ([]:Rows) 8)
 (fun p q l=>k1 l 0) 0 b)))) 0))
def f32_0 (α:Type)(a:Rows)(k1:Rows->Int->Op α):Op α:=f32_0g L32_0_0 L32_0_1 f50_0 f52_1 α a k1
def pa32_0:PT (List DV):=pA [pV false [dL]]
def Fn32_0 (v:Tf32_0)(α:Type)(k:RT α):Rows->Op α:=fun a=>v α a (fun b c=>ur32_0_0 k b c)
def cm32_0g (a:TL32_0_0)(b:TL32_0_1):MCode:=(.seq (.region r32_2 [] (tO [1])) (.seq (.region r32_4 [] (tO [1,4])) (.seq (.seq (.region r32_7 [] (tO [1,4,5])) (.seq (.region r32_9 [] (tO [1,4,5,17])) (.cond (.tmp 17) (.seq (.region r32_12 [] (some ⟨[2,3],true,[⟨false,2,0,20002,2⟩],[]⟩)) .ret) .skip))) (.seq (.seq (.region r32_15 [] (tO [1,4,19,20,21])) (.block 0 (.loop td32_17 [⟨p32_0_0,F32_0_0 a⟩] c32_0_17))) (.seq (.region r32_35 [] (tO [4,9,10])) (.seq (.seq (.region r32_38 [] (tO [4,9,38])) (.cond (.tmp 38) (.seq (.region r32_41 [] (some ⟨[2,3],true,[⟨false,2,0,20002,2⟩],[]⟩)) .ret) .skip)) (.seq (.seq (.region r32_44 [] (tO [4,9,40,41])) (.block 2 (.loop td32_46 [⟨p32_0_3,F32_0_1 b⟩] c32_0_46))) (.seq (.region r32_64 [] (some ⟨[2,3],true,[⟨false,2,0,20002,2⟩],[]⟩)) .ret))))))))
def cm32_0:MCode:=cm32_0g L32_0_0 L32_0_1
theorem gm32_0:cm32_0.Good Pg E32_0 sh32:=⟨trivial,trivial,⟨trivial,trivial,⟨trivial,trivial⟩,trivial⟩,⟨trivial,g32_0_17,m32_0_0,trivial⟩,trivial,⟨trivial,⟨trivial,trivial⟩,trivial⟩,⟨trivial,g32_0_46,m32_0_1,trivial⟩,trivial,trivial⟩
theorem fm32_0g (a:Tf50_0)(e:Tf64_0)(b:Tf52_1)(g:Tf83_0)(c:TL32_0_0)(d:TL32_0_1)(α:Type)(k:RT α):Fn32_0 (f32_0g c d a b) α k=pa32_0.unc fun ds=>fnM Pg (E32_0g a e b g) sh32 (cm32_0g c d) rs32 k ds:=by kernel_rfl
theorem fm32_0:∀ (α:Type) (k:RT α),Fn32_0 f32_0 α k=pa32_0.unc fun ds=>fnM Pg E32_0 sh32 cm32_0 rs32 k ds:=fm32_0g f50_0 f64_0 f52_1 f83_0 L32_0_0 L32_0_1
theorem is32:FnIs Pg 32 nt32 tr32 tl32 cm32_0.erase rs32:=⟨Tryz.f32,Tryz.func32,rfl,by kernel_rfl,by kernel_rfl,by kernel_rfl⟩
theorem io32_0:InstOk Pg 32 nt32 ⟨pa32_0,Fn32_0 f32_0⟩:=inst_ok eo32_0 followsTry is32 ⟨⟨sh32,cm32_0,by kernel_rfl,gm32_0,fm32_0⟩⟩
abbrev nt11:Nat:=35
def sh11:SG:=[(9,[.sl]),(15,[.sl]),(19,iT),(20,iT),(26,[.sl])]
def r11_2:LA:=[oO 1 (.box (.tmp 0)),oO 2 (.mv (.const (.slice none 0 0))),mK 3 0]
def r11_5:LA:=[lD 9 1,oO 10 (.len (.tmp 9)),oO 11 (.call 50 [.tmp 10]),oM 4 11]
def r11_7:LA:=[oM 12 4,oO 13 (.bin .neq 26 (.tmp 12) (kI 0))]
def r11_10:LA:=[oM 14 4,oO 2 (.mv (.const (.slice none 0 0))),oM 3 14]
def r11_13:LA:=[lD 15 1,oO 16 (.len (.tmp 15)),mK 17 0]
def td11_15:OT:=(some ⟨[1,15,16,17],true,[⟨false,15,0,20015,1⟩,⟨true,1,0,30100,1⟩],[]⟩)
def r11_17:LA:=[bT 18 .lss 17 16]
def r11_23:LA:=[oO 19 (.iaddr 1 none (.tmp 15) (.tmp 17)),lD 20 19,oM 6 20]
def r11_25:LA:=[oM 21 6,oO 22 (.call 51 [(.tmp 21),(kI (-1000)),(kI 1000)]),oO 23 (.pure (oB (.unOp .not 4 (.tmp 22)) 4))]
def r11_28:LA:=[oO 2 (.mv (.const (.slice none 0 0))),mK 3 2]
def r11_29:LA:=[bK 24 .add 17 1,oM 17 24]
def r11_31:LA:=[lD 26 1,oO 27 (.len (.tmp 26)),oO 28 (.mkfn 53 [(.tmp 1)]),oO 29 (.call 52 [(.tmp 27),(.tmp 28)]),oM 25 29,oO 30 (.extract 0 (.tmp 25)),oO 31 (.extract 1 (.tmp 25)),oM 7 30,oM 8 31]
def r11_34:LA:=[oM 32 8,oO 33 (.pure (oB (.unOp .not 4 (.tmp 32)) 4))]
def r11_37:LA:=[oO 2 (.mv (.const (.slice none 0 0))),mK 3 8]
def r11_39:LA:=[oM 34 7,oM 2 34,mK 3 0]
def tr11:TG:=[tT 0 [1],tT 1 [1,4],tT 2 [1,4,13],(3,⟨[2,3],true,[⟨false,2,0,20002,2⟩],[]⟩),tT 4 [1,15,16,17],tT 5 [1,15,16,17,18],tT 6 [1,6,15,16,17],tT 7 [1,15,16,17,23],(8,⟨[2,3],true,[⟨false,2,0,20002,2⟩],[]⟩),tT 9 [1,15,16,17],tT 10 [7,8],tT 11 [7,33],(12,⟨[2,3],true,[⟨false,2,0,20002,2⟩],[]⟩),(13,⟨[2,3],true,[⟨false,2,0,20002,2⟩],[]⟩)]
def tl11:TG:=[(5,⟨[1,15,16,17],true,[⟨false,15,0,20015,1⟩,⟨true,1,0,30100,1⟩],[]⟩)]
def rs11:List AResV:=[.tmp 2,.tmp 3]
def p11_0_0:PT St:=pS [sP 1,sl 15 (aV false [(cD dL)]),sI 16,sI 17] [eBox 1 [(cD dL)]]
def u11_0_0 {β:Type}(g:St->β):Rows->Int->Int->Rows->β:=p11_0_0.unc g
def p11_0_1:PT St:=pS [sl 2 (aV false [(cRef 20002)]),sI 3] [eOwn 20002 2]
def u11_0_1 {β:Type}(g:St->β):Int->Rows->β:=p11_0_1.unc g
def p11_0_2:PT St:=pS [sP 1,sl 15 (aV false [(cD dL)]),sI 16,sI 17,sl 18 (aV false [(cD dB)])] [eBox 1 [(cD dL)]]
def u11_0_2 {β:Type}(g:St->β):Rows->Int->Int->Bool->Rows->β:=p11_0_2.unc g
def pr11_0_0:PT (List RV):=pRs [pR false [rO 2],wI]
def ur11_0_0 {β:Type}(g:List RV->β):Rows->Int->β:=pr11_0_0.unc g
def E11_0g (a:Tf50_0)(b:Tf51_0)(c:Tf52_0):EnvK:=EnvK.of [⟨50,nt50,[⟨pa50_0,Fn50_0 a⟩]⟩,⟨51,nt51,[⟨pa51_0,Fn51_0 b⟩]⟩,⟨52,nt52,[⟨pa52_0,Fn52_0 c⟩]⟩] noSeq
def E11_0:EnvK:=E11_0g f50_0 f51_0 f52_0
theorem eo11_0:E11_0.Ok Pg:=EnvK.of_ok noSeq_ok ⟨⟨io50_0,trivial⟩,⟨io51_0,trivial⟩,⟨io52_0,trivial⟩,trivial⟩
def c11_0_15g:MCode:=(.seq (.region r11_17 [] (tO [1,15,16,17,18])) (.seq (.cond (.tmp 18) .skip (.exit 0)) (.seq (.block 1 (.seq (.region r11_23 [] (tO [1,6,15,16,17])) (.seq (.region r11_25 [] (tO [1,15,16,17,23])) (.cond (.tmp 23) (.seq (.region r11_28 [] (some ⟨[2,3],true,[⟨false,2,0,20002,2⟩],[]⟩)) .ret) .skip)))) (.region r11_29 [] (tO [1,15,16,17])))))
def c11_0_15:MCode:=c11_0_15g
theorem g11_0_15:c11_0_15.Good Pg E11_0 sh11:=⟨trivial,⟨trivial,trivial⟩,⟨trivial,trivial,⟨trivial,trivial⟩,trivial⟩,trivial⟩
def S11_0_0g (c:Tf51_0)(α:Type)(d:Rows)(b a:Int)(kn:Int->Op α)(k1:Op α)(k2:Int->Bool->Op α):Op α:=
 cK (decide (a < b))
 (rowK d a [.int .i64]
 (fun e=>c α e (-1000) 1000
 (fun g=>cK (!g)
 (k1)
 (kn (w64 (a+1))))))
 (k2 a (decide (a < b)))
def S11_0_0 (α:Type)(a:Rows)(b c:Int)(kn:Int->Op α)(k1:Op α)(k2:Int->Bool->Op α):Op α:=S11_0_0g f51_0 α a b c kn k1 k2
def R11_0_0 (α:Type)(a:Rows)(b:Int)(k1:Op α)(k2:Int->Bool->Op α):Nat->Int->Op α
 | 0,_=>none
 | n+1,c=>S11_0_0 α a b c (R11_0_0 α a b k1 k2 n) k1 k2
def L11_0_0 (α:Type)(a:Rows)(b:Int)(k1:Op α)(k2:Int->Bool->Op α)(c:Int):Op α:=R11_0_0 α a b k1 k2 fuel c
abbrev TL11_0_0:Type 1:=(α:Type)->Rows->Int->(Op α)->(Int->Bool->Op α)->Int->Op α
def F11_0_0 (v:TL11_0_0)(α:Type)(K:KT α):Rows->Int->Int->Rows->Op α:=fun a b c d=>v α a b (u11_0_1 (K .ret) 2 ([]:Rows)) (fun e g=>u11_0_2 (K (.exit 0)) a b e g d) c
theorem r11_0_0g (g:Tf50_0)(e:Tf51_0)(h:Tf52_0)(α:Type)(K:KT α)(Kn:SK α)(a:Rows)(b c:Int)(d:Rows):u11_0_0 (fun σ=>runM Pg (E11_0g g e h) sh11 (c11_0_15g ) (thenK (fun σ=>tidyK td11_15 σ Kn) K) σ) a b c d=S11_0_0g e α a b c (fun c=>u11_0_0 Kn a b c d) (u11_0_1 (K .ret) 2 ([]:Rows)) (fun i j=>u11_0_2 (K (.exit 0)) a b i j d):=by kernel_rfl
theorem r11_0_0 (α:Type)(K:KT α)(Kn:SK α)(a:Rows)(b c:Int)(d:Rows):u11_0_0 (fun σ=>runM Pg E11_0 sh11 c11_0_15 (thenK (fun σ=>tidyK td11_15 σ Kn) K) σ) a b c d=S11_0_0 α a b c (fun c=>u11_0_0 Kn a b c d) (u11_0_1 (K .ret) 2 ([]:Rows)) (fun e g=>u11_0_2 (K (.exit 0)) a b e g d):=r11_0_0g f50_0 f51_0 f52_0 α K Kn a b c d
theorem t11_0_0 (α:Type)(K:KT α):∀ (n:Nat) (a:Rows) (b c:Int) (d:Rows),R11_0_0 α a b (u11_0_1 (K .ret) 2 ([]:Rows)) (fun e g=>u11_0_2 (K (.exit 0)) a b e g d) n c=u11_0_0 (loopT (runM Pg E11_0 sh11 c11_0_15) td11_15 K n) a b c d:=by
 intro n
 induction n with
 | zero=>intros;rfl
 | succ n ih=>intro a b c d;exact (congrArg (fun kn=>S11_0_0 α a b c kn (u11_0_1 (K .ret) 2 ([]:Rows)) (fun e g=>u11_0_2 (K (.exit 0)) a b e g d)) (funext fun c=>ih a b c d)).trans (r11_0_0 α K (loopT (runM Pg E11_0 sh11 c11_0_15) td11_15 K n) a b c d).symm
theorem m11_0_0:∀ (α:Type) (K:KT α),F11_0_0 L11_0_0 α K=p11_0_0.unc fun σ=>loopT (runM Pg E11_0 sh11 c11_0_15) td11_15 K fuel σ:=fun α K=>by funext a b c d;exact t11_0_0 α K fuel a b c d
abbrev Tf11_0:Type 1:=(α:Type)->Rows->(Rows->Int->Op α)->Op α
def f11_0g (d:TL11_0_0)(e:Tf50_0)(g:Tf52_0)(α:Type)(a:Rows)(k1:Rows->Int->Op α):Op α:=
 e α ((List.length a:Nat):Int)
 (fun b=>cK (b != 0)
 (k1 ([]:Rows) b)
 (d α a ((List.length a:Nat):Int)
 (k1 ([]:Rows) 2)
 (fun i j=>g α ((List.length a:Nat):Int) a
 (fun c h=>flatK [c]
 (cK (!h)
 (k1 ([]:Rows) 8)
 (k1 c 0)))) 0))
def f11_0 (α:Type)(a:Rows)(k1:Rows->Int->Op α):Op α:=f11_0g L11_0_0 f50_0 f52_0 α a k1
def pa11_0:PT (List DV):=pA [pV false [dL]]
def Fn11_0 (v:Tf11_0)(α:Type)(k:RT α):Rows->Op α:=fun a=>v α a (fun b c=>ur11_0_0 k b c)
def cm11_0g (a:TL11_0_0):MCode:=(.seq (.region r11_2 [] (tO [1])) (.seq (.seq (.region r11_5 [] (tO [1,4])) (.seq (.region r11_7 [] (tO [1,4,13])) (.cond (.tmp 13) (.seq (.region r11_10 [] (some ⟨[2,3],true,[⟨false,2,0,20002,2⟩],[]⟩)) .ret) .skip))) (.seq (.seq (.region r11_13 [] (tO [1,15,16,17])) (.block 0 (.loop td11_15 [⟨p11_0_0,F11_0_0 a⟩] c11_0_15))) (.seq (.region r11_31 [] (tO [7,8])) (.seq (.seq (.region r11_34 [] (tO [7,33])) (.cond (.tmp 33) (.seq (.region r11_37 [] (some ⟨[2,3],true,[⟨false,2,0,20002,2⟩],[]⟩)) .ret) .skip)) (.seq (.region r11_39 [] (some ⟨[2,3],true,[⟨false,2,0,20002,2⟩],[]⟩)) .ret))))))
def cm11_0:MCode:=cm11_0g L11_0_0
theorem gm11_0:cm11_0.Good Pg E11_0 sh11:=⟨trivial,⟨trivial,trivial,⟨trivial,trivial⟩,trivial⟩,⟨trivial,g11_0_15,m11_0_0,trivial⟩,trivial,⟨trivial,⟨trivial,trivial⟩,trivial⟩,trivial,trivial⟩
theorem fm11_0g (a:Tf50_0)(d:Tf51_0)(b:Tf52_0)(c:TL11_0_0)(α:Type)(k:RT α):Fn11_0 (f11_0g c a b) α k=pa11_0.unc fun ds=>fnM Pg (E11_0g a d b) sh11 (cm11_0g c) rs11 k ds:=by kernel_rfl
theorem fm11_0:∀ (α:Type) (k:RT α),Fn11_0 f11_0 α k=pa11_0.unc fun ds=>fnM Pg E11_0 sh11 cm11_0 rs11 k ds:=fm11_0g f50_0 f51_0 f52_0 L11_0_0
theorem is11:FnIs Pg 11 nt11 tr11 tl11 cm11_0.erase rs11:=⟨Tryz.f11,Tryz.func11,rfl,by kernel_rfl,by kernel_rfl,by kernel_rfl⟩
theorem io11_0:InstOk Pg 11 nt11 ⟨pa11_0,Fn11_0 f11_0⟩:=inst_ok eo11_0 followsTry is11 ⟨⟨sh11,cm11_0,by kernel_rfl,gm11_0,fm11_0⟩⟩
abbrev nt36:Nat:=59
def sh36:SG:=[(21,[.sl]),(23,[.sl]),(28,[.sl]),(29,iT),(32,[.cpx .f64,.int .i64]),(33,[.cpx .f64,.int .i64]),(34,[.cpx .f64,.int .i64]),(40,[.sl]),(41,iT),(44,[.sl]),(46,[.cpx .f64,.int .i64]),(48,[.cpx .f64,.int .i64]),(49,[.cpx .f64,.int .i64]),(51,iT),(26,[.cpx .f64,.int .i64])]
def r36_2:LA:=[oO 2 (.alloc [.nils]),oO 3 (.alloc [(cI 0)])]
def r36_4:LA:=[oM 14 0,oO 15 (.call 32 [.tmp 14]),oM 13 15,oO 16 (.extract 0 (.tmp 13)),oO 17 (.extract 1 (.tmp 13)),oO 4 (.alloc [.nils]),sD 1 4 16,oM 5 17]
def r36_7:LA:=[oM 18 5,oO 19 (.bin .neq 26 (.tmp 18) (kI 0))]
def r36_10:LA:=[oM 20 5,oD (.store 1 (.tmp 2) (.const (.slice none 0 0))),sD 1 3 20]
def r36_12:LA:=[lD 21 4,oO 22 (.len (.tmp 21)),oO 6 (.alloc [(cI 0)]),sD 1 6 22]
def r36_15:LA:=[lD 23 4,oO 24 (.call 84 [.tmp 23])]
def td36_17:OT:=(some ⟨[2,3,4,6,23,24],true,[⟨false,23,0,20023,2⟩,⟨true,2,0,30200,2⟩,⟨true,4,0,30400,2⟩],[]⟩)
def r36_19:LA:=[oM 7 25]
def r36_20:LA:=[oO 8 (.alloc [(.d (.v (.complex Go.FloatKind.f64 0 0))),(cI 0)]),sD 2 8 26]
def r36_23:LA:=[lD 28 4,lD 29 6,oM 30 7,bT 31 .sub 29 30,oO 32 (.iaddr 2 none (.tmp 28) (.tmp 31)),lA 33 2 32,lA 34 2 8,oO 35 (.call 86 [(.tmp 33),(.tmp 34)]),oM 27 35,oO 36 (.extract 0 (.tmp 27)),oO 37 (.extract 1 (.tmp 27)),oO 9 (.alloc [(.d (.v (.complex Go.FloatKind.f64 0 0))),(cI 0)]),sD 2 9 36,oM 10 37]
def r36_26:LA:=[oM 38 10,oO 39 (.bin .neq 26 (.tmp 38) (kI 0))]
def r36_29:LA:=[oD (.store 1 (.tmp 2) (.const (.slice none 0 0))),oD (.store 1 (.tmp 3) (kI 8))]
def r36_30:LA:=[lD 40 4,lD 41 6,oM 42 7,bT 43 .sub 41 42,lD 44 4,oM 45 7,lA 46 2 9,oO 47 (.build [(.d (.v (.complex Go.FloatKind.f64 0 0))),(cI 0)] []),oO 48 (.iaddr 2 none (.tmp 40) (.tmp 43)),sD 2 48 46,oO 49 (.iaddr 2 none (.tmp 44) (.tmp 45)),sD 2 49 47]
def r36_32:LA:=[lD 51 6,oO 52 (.mkfn 87 [(.tmp 6),(.tmp 4)]),oO 53 (.call 52 [(.tmp 51),(.tmp 52)]),oM 50 53,oO 54 (.extract 0 (.tmp 50)),oO 55 (.extract 1 (.tmp 50)),oM 11 54,oM 12 55]
def r36_35:LA:=[oM 56 12,oO 57 (.pure (oB (.unOp .not 4 (.tmp 56)) 4))]
def r36_38:LA:=[oD (.store 1 (.tmp 2) (.const (.slice none 0 0))),oD (.store 1 (.tmp 3) (kI 8))]
def r36_40:LA:=[oM 58 11,sD 1 2 58,oD (.store 1 (.tmp 3) (kI 0))]
def tr36:TG:=[(0,⟨[0,2,3],true,[⟨true,2,0,30200,2⟩],[]⟩),(1,⟨[2,3,4,5],true,[⟨true,2,0,30200,2⟩],[]⟩),(2,⟨[2,3,4,5,19],true,[⟨true,2,0,30200,2⟩],[]⟩),(3,⟨[2,3],true,[⟨true,2,0,30200,2⟩],[]⟩),(4,⟨[2,3,4,6],true,[⟨true,2,0,30200,2⟩],[]⟩),(5,⟨[2,3,4,6,23,24],true,[⟨false,23,0,20023,2⟩,⟨true,2,0,30200,2⟩,⟨true,4,0,30400,2⟩],[]⟩),(6,⟨[2,3,4,6,7,26],true,[⟨true,2,0,30200,2⟩],[]⟩),(7,⟨[2,3,4,6,7,8],true,[⟨true,2,0,30200,2⟩],[]⟩),(8,⟨[2,3,4,6,7,9,10],true,[⟨true,2,0,30200,2⟩],[]⟩),(9,⟨[2,3,4,6,7,9,39],true,[⟨true,2,0,30200,2⟩],[]⟩),(10,⟨[2,3],true,[⟨true,2,0,30200,2⟩],[]⟩),(11,⟨[2,3,4,6],true,[⟨true,2,0,30200,2⟩],[]⟩),(12,⟨[2,3,11,12],true,[⟨true,2,0,30200,2⟩],[]⟩),(13,⟨[2,3,11,57],true,[⟨true,2,0,30200,2⟩],[]⟩),(14,⟨[2,3],true,[⟨true,2,0,30200,2⟩],[]⟩),(15,⟨[2,3],true,[⟨true,2,0,30200,2⟩],[]⟩)]
def tl36:TG:=[(8,⟨[2,3,4,6,23,24],true,[⟨false,23,0,20023,2⟩,⟨true,2,0,30200,2⟩,⟨true,4,0,30400,2⟩],[]⟩)]
def rs36:List AResV:=[.cell 2 false 1,.cell 3 false 1]
def p36_0_0:PT St:=pS [sP 2,sP 3,sP 4,sP 6,sl 23 (aV false [(cRef 30400)]),sl 24 (aV false [(cFn 121 [(pCp 24)])])] [eBox 2 [(cRef 30200)],eOwn 30200 2,eBox 3 [xI],eBox 4 [(cRef 30400)],eOwn 30400 2,eBox 6 [xI],eDead 24]
def u36_0_0 {β:Type}(g:St->β):Rows->Int->Rows->Int->β:=p36_0_0.unc g
def pr36_0_0:PT (List RV):=pRs [pR false [rO 2],wI]
def ur36_0_0 {β:Type}(g:List RV->β):Rows->Int->β:=pr36_0_0.unc g
def E36_0g (a:Tf32_0)(b:Tf86_0)(c:Tf52_2):EnvK:=EnvK.ofP (EnvK.of [⟨32,nt32,[⟨pa32_0,Fn32_0 a⟩]⟩,⟨86,nt86,[⟨pa86_0,Fn86_0 b⟩]⟩,⟨52,nt52,[⟨pa52_2,Fn52_2 c⟩]⟩] noSeq) [(84,[1000121,0]),(121,[2000000,2])]
def E36_0:EnvK:=E36_0g f32_0 f86_0 f52_2
theorem eo36_0:E36_0.Ok Pg:=EnvK.ofP_ok (EnvK.of_ok noSeq_ok ⟨⟨io32_0,trivial⟩,⟨io86_0,trivial⟩,⟨io52_2,trivial⟩,trivial⟩) ⟨ptr84,ptr121,trivial⟩
def ca36_0_17:MCode:=(.seq (.region r36_19 [] (some ⟨[2,3,4,6,7,26],true,[⟨true,2,0,30200,2⟩],[]⟩)) (.region r36_20 [] (some ⟨[2,3,4,6,7,8],true,[⟨true,2,0,30200,2⟩],[]⟩)))
theorem ga36_0_17:ca36_0_17.Good Pg E36_0 sh36:=⟨trivial,trivial⟩
def c36_0_17g:MCode:=(.block 1 (.seq (.region r36_23 [(0,11),(1,11),(4,11),(5,11),(6,11),(7,11)] (some ⟨[2,3,4,6,7,9,10],true,[⟨true,2,0,30200,2⟩],[]⟩)) (.seq (.seq (.region r36_26 [] (some ⟨[2,3,4,6,7,9,39],true,[⟨true,2,0,30200,2⟩],[]⟩)) (.cond (.tmp 39) (.seq (.region r36_29 [] (some ⟨[2,3],true,[⟨true,2,0,30200,2⟩],[]⟩)) .ret) .skip)) (.region r36_30 [(4,9)] (some ⟨[2,3,4,6],true,[⟨true,2,0,30200,2⟩],[]⟩)))))
def c36_0_17:MCode:=c36_0_17g
theorem g36_0_17:c36_0_17.Good Pg E36_0 sh36:=⟨trivial,⟨trivial,⟨trivial,trivial⟩,trivial⟩,trivial⟩
def S36_0_0g (h:Tf86_0)(α:Type)(c:Int)(a:Int)(b:Rows)(kn:Rows->Op α)(k1:Rows->Op α)(k2:Rows->Op α):Op α:=
 ldK b (Int.toNat a) 0 [.cpx .f64,.int .i64]
 (fun i j l=>ixK b (w64 (c - a)) 2
 (ldK b (Int.toNat (w64 (c - a))) 0 [.cpx .f64,.int .i64]
 (fun m o p=>h α m o p i j l
 (fun d e g q=>cK (q != 0)
 (k2 b)
 (ixK b (w64 (c - a)) 2
 (stK b (Int.toNat (w64 (c - a))) 0 2
 (ixK (List.set b (Int.toNat (w64 (c - a))) (splice (rowAt b (Int.toNat (w64 (c - a)))) 0 [DC.v (.complex .f64 d e),DC.v (.int .i64 g)])) a 2
 (stK (List.set b (Int.toNat (w64 (c - a))) (splice (rowAt b (Int.toNat (w64 (c - a)))) 0 [DC.v (.complex .f64 d e),DC.v (.int .i64 g)])) (Int.toNat a) 0 2
 (kn (List.set (List.set b (Int.toNat (w64 (c - a))) (splice (rowAt b (Int.toNat (w64 (c - a)))) 0 [DC.v (.complex .f64 d e),DC.v (.int .i64 g)])) (Int.toNat a) (splice (rowAt (List.set b (Int.toNat (w64 (c - a))) (splice (rowAt b (Int.toNat (w64 (c - a)))) 0 [DC.v (.complex .f64 d e),DC.v (.int .i64 g)])) (Int.toNat a)) 0 [DC.v (.complex .f64 0 0),DC.v (.int .i64 0)])))))))))))
def S36_0_0 (α:Type)(a:Int)(b:Int)(c:Rows)(kn:Rows->Op α)(k1:Rows->Op α)(k2:Rows->Op α):Op α:=S36_0_0g f86_0 α a b c kn k1 k2
def V36_0_0 (α:Type)(b:Int)(k1:Rows->Op α)(k2:Rows->Op α):List Int->Rows->Op α
 | [],a=>k1 a
 | c::ys,a=>S36_0_0 α b c a (V36_0_0 α b k1 k2 ys) k1 k2
abbrev TV36_0_0:Type 1:=(α:Type)->Int->(Rows->Op α)->(Rows->Op α)->List Int->Rows->Op α
def F36_0_0 (v:TV36_0_0)(α:Type)(K:KT α)(ys:List Int):Rows->Int->Rows->Int->Op α:=fun c d e a=>v α a (fun b=>u36_0_0 (K .normal) c d b a) (fun b=>u36_0_0 (K .ret) ([]:Rows) 8 b a) ys e
theorem r36_0_0g (h:Tf32_0)(c:Tf86_0)(i:Tf52_2)(α:Type)(K:KT α)(Kn:SK α)(j:Int)(d:Rows)(e:Int)(b:Rows)(a:Int):u36_0_0 (fun σ=>roundT sh36 true (.tmp 24) (runM Pg (E36_0g h c i) sh36 ca36_0_17) (runM Pg (E36_0g h c i) sh36 c36_0_17) [25,26] td36_17 Kn K (xN.ex j) σ) d e b a=S36_0_0g c α a j b (fun b=>u36_0_0 Kn d e b a) (fun g=>u36_0_0 (K .normal) d e g a) (fun g=>u36_0_0 (K .ret) ([]:Rows) 8 g a):=by kernel_rfl
theorem r36_0_0 (α:Type)(K:KT α)(Kn:SK α)(e:Int)(c:Rows)(d:Int)(b:Rows)(a:Int):u36_0_0 (fun σ=>roundT sh36 true (.tmp 24) (runM Pg E36_0 sh36 ca36_0_17) (runM Pg E36_0 sh36 c36_0_17) [25,26] td36_17 Kn K (xN.ex e) σ) c d b a=S36_0_0 α a e b (fun b=>u36_0_0 Kn c d b a) (fun g=>u36_0_0 (K .normal) c d g a) (fun g=>u36_0_0 (K .ret) ([]:Rows) 8 g a):=r36_0_0g f32_0 f86_0 f52_2 α K Kn e c d b a
theorem t36_0_0 (α:Type)(K:KT α):∀ (ys:List Int) (d:Rows) (e:Int) (b:Rows) (a:Int),V36_0_0 α a (fun c=>u36_0_0 (K .normal) d e c a) (fun c=>u36_0_0 (K .ret) ([]:Rows) 8 c a) ys b=u36_0_0 (roundsK sh36 true (.tmp 24) (runM Pg E36_0 sh36 ca36_0_17) (runM Pg E36_0 sh36 c36_0_17) [25,26] td36_17 K (ys.map xN.ex)) d e b a:=by
 intro ys
 induction ys with
 | nil=>intros;rfl
 | cons g ys ih=>intro d e b a;exact (congrArg (fun kn=>S36_0_0 α a g b kn (fun c=>u36_0_0 (K .normal) d e c a) (fun c=>u36_0_0 (K .ret) ([]:Rows) 8 c a)) (funext fun b=>ih d e b a)).trans (r36_0_0 α K (roundsK sh36 true (.tmp 24) (runM Pg E36_0 sh36 ca36_0_17) (runM Pg E36_0 sh36 c36_0_17) [25,26] td36_17 K (ys.map xN.ex)) g d e b a).symm
theorem m36_0_0:∀ (α:Type) (K:KT α) (ys:List Int),F36_0_0 V36_0_0 α K ys=p36_0_0.unc fun σ=>roundsK sh36 true (.tmp 24) (runM Pg E36_0 sh36 ca36_0_17) (runM Pg E36_0 sh36 c36_0_17) [25,26] td36_17 K (ys.map xN.ex) σ:=fun α K ys=>by funext a b c d;exact t36_0_0 α K ys a b c d
abbrev Tf36_0:Type 1:=(α:Type)->Rows->(Rows->Int->Op α)->Op α
def f36_0g (vV36_0_0:TV36_0_0)(d:Tf32_0)(e:Tf52_2)(α:Type)(g:Rows)(k1:Rows->Int->Op α):Op α:=
 d α g
 (fun a b=>cK (b != 0)
 (k1 ([]:Rows) b)
 (qK (some (idxL (List.length a))) xN fun h=>vV36_0_0 α ((List.length a:Nat):Int)
 (fun i=>e α ((List.length a:Nat):Int) ((List.length a:Nat):Int) i
 (fun c j=>flatK [c]
 (cK (!j)
 (k1 ([]:Rows) 8)
 (k1 c 0))))
 (fun l=>k1 ([]:Rows) 8) h a))
def f36_0 (α:Type)(a:Rows)(k1:Rows->Int->Op α):Op α:=f36_0g V36_0_0 f32_0 f52_2 α a k1
def pa36_0:PT (List DV):=pA [pV false [dL]]
def Fn36_0 (v:Tf36_0)(α:Type)(k:RT α):Rows->Op α:=fun a=>v α a (fun b c=>ur36_0_0 k b c)
def cm36_0g (vV36_0_0:TV36_0_0):MCode:=(.seq (.region r36_2 [] (some ⟨[0,2,3],true,[⟨true,2,0,30200,2⟩],[]⟩)) (.seq (.region r36_4 [] (some ⟨[2,3,4,5],true,[⟨true,2,0,30200,2⟩],[]⟩)) (.seq (.seq (.region r36_7 [] (some ⟨[2,3,4,5,19],true,[⟨true,2,0,30200,2⟩],[]⟩)) (.cond (.tmp 19) (.seq (.region r36_10 [] (some ⟨[2,3],true,[⟨true,2,0,30200,2⟩],[]⟩)) .ret) .skip)) (.seq (.region r36_12 [] (some ⟨[2,3,4,6],true,[⟨true,2,0,30200,2⟩],[]⟩)) (.seq (.seq (.region r36_15 [] (some ⟨[2,3,4,6,23,24],true,[⟨false,23,0,20023,2⟩,⟨true,2,0,30200,2⟩,⟨true,4,0,30400,2⟩],[]⟩)) (.block 0 (.rangeF (.tmp 24) [25,26] td36_17 [⟨true,xN,p36_0_0,F36_0_0 vV36_0_0⟩] ca36_0_17 c36_0_17))) (.seq (.region r36_32 [] (some ⟨[2,3,11,12],true,[⟨true,2,0,30200,2⟩],[]⟩)) (.seq (.seq (.region r36_35 [] (some ⟨[2,3,11,57],true,[⟨true,2,0,30200,2⟩],[]⟩)) (.cond (.tmp 57) (.seq (.region r36_38 [] (some ⟨[2,3],true,[⟨true,2,0,30200,2⟩],[]⟩)) .ret) .skip)) (.seq (.region r36_40 [] (some ⟨[2,3],true,[⟨true,2,0,30200,2⟩],[]⟩)) .ret))))))))
def cm36_0:MCode:=cm36_0g V36_0_0
theorem gm36_0:cm36_0.Good Pg E36_0 sh36:=⟨trivial,trivial,⟨trivial,⟨trivial,trivial⟩,trivial⟩,trivial,⟨trivial,⟨ga36_0_17,g36_0_17⟩,m36_0_0,trivial⟩,trivial,⟨trivial,⟨trivial,trivial⟩,trivial⟩,trivial,trivial⟩
theorem fm36_0g (a:Tf32_0)(c:Tf86_0)(b:Tf52_2)(vV36_0_0:TV36_0_0)(α:Type)(k:RT α):Fn36_0 (f36_0g vV36_0_0 a b) α k=pa36_0.unc fun ds=>fnM Pg (E36_0g a c b) sh36 (cm36_0g vV36_0_0) rs36 k ds:=by kernel_rfl
theorem fm36_0:∀ (α:Type) (k:RT α),Fn36_0 f36_0 α k=pa36_0.unc fun ds=>fnM Pg E36_0 sh36 cm36_0 rs36 k ds:=fm36_0g f32_0 f86_0 f52_2 V36_0_0
theorem is36:FnIs Pg 36 nt36 tr36 tl36 cm36_0.erase rs36:=⟨Tryz.f36,Tryz.func36,rfl,by kernel_rfl,by kernel_rfl,by kernel_rfl⟩
theorem io36_0:InstOk Pg 36 nt36 ⟨pa36_0,Fn36_0 f36_0⟩:=inst_ok eo36_0 followsTry is36 ⟨⟨sh36,cm36_0,by kernel_rfl,gm36_0,fm36_0⟩⟩
abbrev nt35:Nat:=24
def sh35:SG:=[(20,[.cpx .f64,.int .i64]),(19,[.cpx .f64,.int .i64])]
def r35_2:LA:=[oO 2 (.alloc [(cI 0)]),oO 3 (.alloc [(cI 0)])]
def r35_4:LA:=[oM 9 0,oO 10 (.call 32 [.tmp 9]),oM 8 10,oO 11 (.extract 0 (.tmp 8)),oO 12 (.extract 1 (.tmp 8)),oM 4 11,oM 5 12]
def r35_7:LA:=[oM 13 5,oO 14 (.bin .neq 26 (.tmp 13) (kI 0))]
def r35_10:LA:=[oM 15 5,oD (.store 1 (.tmp 2) (kI 0)),sD 1 3 15]
def r35_13:LA:=[oM 16 4,oO 17 (.call 84 [.tmp 16])]
def td35_15:OT:=(some ⟨[2,3,16,17],true,[⟨false,16,0,20016,2⟩],[]⟩)
def r35_17:LA:=[oM 6 18]
def r35_18:LA:=[oO 7 (.alloc [(.d (.v (.complex Go.FloatKind.f64 0 0))),(cI 0)]),sD 2 7 19]
def r35_21:LA:=[lA 20 2 7,oO 21 (.call 85 [.tmp 20]),oO 22 (.pure (oB (.unOp .not 4 (.tmp 21)) 4))]
def r35_24:LA:=[oM 23 6,sD 1 2 23,oD (.store 1 (.tmp 3) (kI 0))]
def r35_26:LA:=[oD (.store 1 (.tmp 2) (kI 0)),oD (.store 1 (.tmp 3) (kI 17))]
def tr35:TG:=[tT 0 [0,2,3],tT 1 [2,3,4,5],tT 2 [2,3,4,5,14],tT 3 [2,3],(4,⟨[2,3,16,17],true,[⟨false,16,0,20016,2⟩],[]⟩),tT 5 [2,3,6,19],tT 6 [2,3,6,7],tT 7 [2,3,6,22],tT 8 [2,3],tT 9 [2,3]]
def tl35:TG:=[(7,⟨[2,3,16,17],true,[⟨false,16,0,20016,2⟩],[]⟩)]
def rs35:List AResV:=[.cell 2 false 1,.cell 3 false 1]
def p35_0_0:PT St:=pS [sP 2,sP 3,sl 16 (aV false [(cRef 20016)]),sl 17 (aV false [(cFn 121 [(pCp 17)])])] [eBox 2 [xI],eBox 3 [xI],eOwn 20016 2,eDead 17]
def u35_0_0 {β:Type}(g:St->β):Int->Int->Rows->β:=p35_0_0.unc g
def pr35_0_0:PT (List RV):=pRs [wI,wI]
def ur35_0_0 {β:Type}(g:List RV->β):Int->Int->β:=pr35_0_0.unc g
def E35_0g (a:Tf32_0)(b:Tf85_0):EnvK:=EnvK.ofP (EnvK.of [⟨32,nt32,[⟨pa32_0,Fn32_0 a⟩]⟩,⟨85,nt85,[⟨pa85_0,Fn85_0 b⟩]⟩] noSeq) [(84,[1000121,0]),(121,[2000000,2])]
def E35_0:EnvK:=E35_0g f32_0 f85_0
theorem eo35_0:E35_0.Ok Pg:=EnvK.ofP_ok (EnvK.of_ok noSeq_ok ⟨⟨io32_0,trivial⟩,⟨io85_0,trivial⟩,trivial⟩) ⟨ptr84,ptr121,trivial⟩
def ca35_0_15:MCode:=(.seq (.region r35_17 [] (tO [2,3,6,19])) (.region r35_18 [] (tO [2,3,6,7])))
theorem ga35_0_15:ca35_0_15.Good Pg E35_0 sh35:=⟨trivial,trivial⟩
def c35_0_15g:MCode:=(.block 1 (.seq (.region r35_21 [] (tO [2,3,6,22])) (.cond (.tmp 22) (.seq (.region r35_24 [] (tO [2,3])) .ret) .skip)))
def c35_0_15:MCode:=c35_0_15g
theorem g35_0_15:c35_0_15.Good Pg E35_0 sh35:=⟨trivial,⟨trivial,trivial⟩,trivial⟩
def S35_0_0g (b:Tf85_0)(α:Type)(c:Rows)(a:Int)(kn:Op α)(k1:Op α)(k2:Int->Op α):Op α:=
 ldK c (Int.toNat a) 0 [.cpx .f64,.int .i64]
 (fun d e g=>b α d e g
 (fun h=>cK (!h)
 (k2 a)
 (kn)))
def S35_0_0 (α:Type)(a:Rows)(b:Int)(kn:Op α)(k1:Op α)(k2:Int->Op α):Op α:=S35_0_0g f85_0 α a b kn k1 k2
def V35_0_0 (α:Type)(a:Rows)(k1:Op α)(k2:Int->Op α):List Int->Op α
 | []=>k1
 | b::ys=>S35_0_0 α a b (V35_0_0 α a k1 k2 ys) k1 k2
abbrev TV35_0_0:Type 1:=(α:Type)->Rows->(Op α)->(Int->Op α)->List Int->Op α
def F35_0_0 (v:TV35_0_0)(α:Type)(K:KT α)(ys:List Int):Int->Int->Rows->Op α:=fun b c a=>v α a (u35_0_0 (K .normal) b c a) (fun d=>u35_0_0 (K .ret) d 0 a) ys
theorem r35_0_0g (e:Tf32_0)(b:Tf85_0)(α:Type)(K:KT α)(Kn:SK α)(g:Int)(c d:Int)(a:Rows):u35_0_0 (fun σ=>roundT sh35 true (.tmp 17) (runM Pg (E35_0g e b) sh35 ca35_0_15) (runM Pg (E35_0g e b) sh35 c35_0_15) [18,19] td35_15 Kn K (xN.ex g) σ) c d a=S35_0_0g b α a g (u35_0_0 Kn c d a) (u35_0_0 (K .normal) c d a) (fun h=>u35_0_0 (K .ret) h 0 a):=by kernel_rfl
theorem r35_0_0 (α:Type)(K:KT α)(Kn:SK α)(d:Int)(b c:Int)(a:Rows):u35_0_0 (fun σ=>roundT sh35 true (.tmp 17) (runM Pg E35_0 sh35 ca35_0_15) (runM Pg E35_0 sh35 c35_0_15) [18,19] td35_15 Kn K (xN.ex d) σ) b c a=S35_0_0 α a d (u35_0_0 Kn b c a) (u35_0_0 (K .normal) b c a) (fun e=>u35_0_0 (K .ret) e 0 a):=r35_0_0g f32_0 f85_0 α K Kn d b c a
theorem t35_0_0 (α:Type)(K:KT α):∀ (ys:List Int) (b c:Int) (a:Rows),V35_0_0 α a (u35_0_0 (K .normal) b c a) (fun d=>u35_0_0 (K .ret) d 0 a) ys=u35_0_0 (roundsK sh35 true (.tmp 17) (runM Pg E35_0 sh35 ca35_0_15) (runM Pg E35_0 sh35 c35_0_15) [18,19] td35_15 K (ys.map xN.ex)) b c a:=by
 intro ys
 induction ys with
 | nil=>intros;rfl
 | cons e ys ih=>intro b c a;exact (congrArg (fun kn=>S35_0_0 α a e kn (u35_0_0 (K .normal) b c a) (fun d=>u35_0_0 (K .ret) d 0 a)) (ih b c a)).trans (r35_0_0 α K (roundsK sh35 true (.tmp 17) (runM Pg E35_0 sh35 ca35_0_15) (runM Pg E35_0 sh35 c35_0_15) [18,19] td35_15 K (ys.map xN.ex)) e b c a).symm
theorem m35_0_0:∀ (α:Type) (K:KT α) (ys:List Int),F35_0_0 V35_0_0 α K ys=p35_0_0.unc fun σ=>roundsK sh35 true (.tmp 17) (runM Pg E35_0 sh35 ca35_0_15) (runM Pg E35_0 sh35 c35_0_15) [18,19] td35_15 K (ys.map xN.ex) σ:=fun α K ys=>by funext a b c;exact t35_0_0 α K ys a b c
abbrev Tf35_0:Type 1:=(α:Type)->Rows->(Int->Int->Op α)->Op α
def f35_0g (vV35_0_0:TV35_0_0)(c:Tf32_0)(α:Type)(d:Rows)(k1:Int->Int->Op α):Op α:=
 c α d
 (fun a b=>cK (b != 0)
 (k1 0 b)
 (qK (some (idxL (List.length a))) xN fun e=>vV35_0_0 α a
 (k1 0 17)
 (fun g=>k1 g 0) e ))
def f35_0 (α:Type)(a:Rows)(k1:Int->Int->Op α):Op α:=f35_0g V35_0_0 f32_0 α a k1
def pa35_0:PT (List DV):=pA [pV false [dL]]
def Fn35_0 (v:Tf35_0)(α:Type)(k:RT α):Rows->Op α:=fun a=>v α a (fun b c=>ur35_0_0 k b c)
def cm35_0g (vV35_0_0:TV35_0_0):MCode:=(.seq (.region r35_2 [] (tO [0,2,3])) (.seq (.region r35_4 [] (tO [2,3,4,5])) (.seq (.seq (.region r35_7 [] (tO [2,3,4,5,14])) (.cond (.tmp 14) (.seq (.region r35_10 [] (tO [2,3])) .ret) .skip)) (.seq (.seq (.region r35_13 [] (some ⟨[2,3,16,17],true,[⟨false,16,0,20016,2⟩],[]⟩)) (.block 0 (.rangeF (.tmp 17) [18,19] td35_15 [⟨true,xN,p35_0_0,F35_0_0 vV35_0_0⟩] ca35_0_15 c35_0_15))) (.seq (.region r35_26 [] (tO [2,3])) .ret)))))
def cm35_0:MCode:=cm35_0g V35_0_0
theorem gm35_0:cm35_0.Good Pg E35_0 sh35:=⟨trivial,trivial,⟨trivial,⟨trivial,trivial⟩,trivial⟩,⟨trivial,⟨ga35_0_15,g35_0_15⟩,m35_0_0,trivial⟩,trivial,trivial⟩
theorem fm35_0g (a:Tf32_0)(b:Tf85_0)(vV35_0_0:TV35_0_0)(α:Type)(k:RT α):Fn35_0 (f35_0g vV35_0_0 a) α k=pa35_0.unc fun ds=>fnM Pg (E35_0g a b) sh35 (cm35_0g vV35_0_0) rs35 k ds:=by kernel_rfl
theorem fm35_0:∀ (α:Type) (k:RT α),Fn35_0 f35_0 α k=pa35_0.unc fun ds=>fnM Pg E35_0 sh35 cm35_0 rs35 k ds:=fm35_0g f32_0 f85_0 V35_0_0
theorem is35:FnIs Pg 35 nt35 tr35 tl35 cm35_0.erase rs35:=⟨Tryz.f35,Tryz.func35,rfl,by kernel_rfl,by kernel_rfl,by kernel_rfl⟩
theorem io35_0:InstOk Pg 35 nt35 ⟨pa35_0,Fn35_0 f35_0⟩:=inst_ok eo35_0 followsTry is35 ⟨⟨sh35,cm35_0,by kernel_rfl,gm35_0,fm35_0⟩⟩
abbrev nt34:Nat:=30
def sh34:SG:=[(22,[.cpx .f64,.int .i64]),(26,[.cpx .f64,.int .i64]),(29,iT),(20,[.cpx .f64,.int .i64])]
def r34_2:LA:=[oO 2 (.alloc [(cI 0)]),oO 3 (.alloc [(cI 0)])]
def r34_4:LA:=[oM 10 0,oO 11 (.call 32 [.tmp 10]),oM 9 11,oO 12 (.extract 0 (.tmp 9)),oO 13 (.extract 1 (.tmp 9)),oM 4 12,oM 5 13]
def r34_7:LA:=[oM 14 5,oO 15 (.bin .neq 26 (.tmp 14) (kI 0))]
def r34_10:LA:=[oM 16 5,oD (.store 1 (.tmp 2) (kI 0)),sD 1 3 16]
def r34_12:LA:=[oO 6 (.alloc [(cI 0)]),oD (.store 1 (.tmp 6) (kI 2))]
def r34_15:LA:=[oM 17 4,oO 18 (.call 84 [.tmp 17])]
def td34_17:OT:=(some ⟨[2,3,6,17,18],true,[⟨false,17,0,20017,2⟩],[]⟩)
def r34_18:LA:=[oO 8 (.alloc [(.d (.v (.complex Go.FloatKind.f64 0 0))),(cI 0)]),sD 2 8 20]
def r34_22:LA:=[lA 22 2 8,oO 23 (.call 85 [.tmp 22]),oO 24 (.pure (oB (.unOp .not 4 (.tmp 23)) 4)),oM 21 24]
def r34_25:LA:=[oD (.store 1 (.tmp 2) (kI 0)),oD (.store 1 (.tmp 3) (kI 0))]
def r34_27:LA:=[lA 26 2 8,oO 27 (.build [(.d (.v (.complex Go.FloatKind.f64 0 0))),(cI 0)] []),oO 28 (.bin .neq 45 (.tmp 26) (.tmp 27)),oM 25 28]
def r34_29:LA:=[oD (.store 1 (.tmp 6) (kI 1))]
def r34_31:LA:=[lD 29 6,sD 1 2 29,oD (.store 1 (.tmp 3) (kI 0))]
def tr34:TG:=[tT 0 [0,2,3],tT 1 [2,3,4,5],tT 2 [2,3,4,5,15],tT 3 [2,3],tT 4 [2,3,4,6],(5,⟨[2,3,6,17,18],true,[⟨false,17,0,20017,2⟩],[]⟩),tT 6 [2,3,6,8],tT 7 [2,3,6,8,21],tT 8 [2,3],tT 9 [2,3,6,25],tT 10 [2,3,6],tT 11 [2,3]]
def tl34:TG:=[(7,⟨[2,3,6,17,18],true,[⟨false,17,0,20017,2⟩],[]⟩)]
def rs34:List AResV:=[.cell 2 false 1,.cell 3 false 1]
def p34_0_0:PT St:=pS [sP 2,sP 3,sP 6,sl 17 (aV false [(cRef 20017)]),sl 18 (aV false [(cFn 121 [(pCp 18)])])] [eBox 2 [xI],eBox 3 [xI],eBox 6 [xI],eOwn 20017 2,eDead 18]
def u34_0_0 {β:Type}(g:St->β):Int->Int->Int->Rows->β:=p34_0_0.unc g
def pr34_0_0:PT (List RV):=pRs [wI,wI]
def ur34_0_0 {β:Type}(g:List RV->β):Int->Int->β:=pr34_0_0.unc g
def E34_0g (a:Tf32_0)(b:Tf85_0):EnvK:=EnvK.ofP (EnvK.of [⟨32,nt32,[⟨pa32_0,Fn32_0 a⟩]⟩,⟨85,nt85,[⟨pa85_0,Fn85_0 b⟩]⟩] noSeq) [(84,[1000121,0]),(121,[2000000,2])]
def E34_0:EnvK:=E34_0g f32_0 f85_0
theorem eo34_0:E34_0.Ok Pg:=EnvK.ofP_ok (EnvK.of_ok noSeq_ok ⟨⟨io32_0,trivial⟩,⟨io85_0,trivial⟩,trivial⟩) ⟨ptr84,ptr121,trivial⟩
def ca34_0_17:MCode:=(.region r34_18 [] (tO [2,3,6,8]))
theorem ga34_0_17:ca34_0_17.Good Pg E34_0 sh34:=trivial
def c34_0_17g:MCode:=(.block 1 (.block 2 (.seq (.region r34_22 [] (tO [2,3,6,8,21])) (.cond (.tmp 21) (.seq (.region r34_25 [] (tO [2,3])) .ret) (.seq (.region r34_27 [] (tO [2,3,6,25])) (.cond (.tmp 25) (.region r34_29 [] (tO [2,3,6])) .skip))))))
def c34_0_17:MCode:=c34_0_17g
theorem g34_0_17:c34_0_17.Good Pg E34_0 sh34:=⟨trivial,⟨trivial,trivial⟩,trivial,trivial,trivial⟩
def S34_0_0g (e:Tf85_0)(α:Type)(g:Rows)(h:Int)(a:Int)(kn:Int->Op α)(k1:Int->Op α)(k2:Int->Op α):Op α:=
 ldK g (Int.toNat h) 0 [.cpx .f64,.int .i64]
 (fun b c d=>e α b c d
 (fun i=>cK (!i)
 (k2 a)
 (cK (!((Op.floatEq .f64 b 0 && Op.floatEq .f64 c 0) && ((d == 0) && true)))
 (kn 1)
 (kn a))))
def S34_0_0 (α:Type)(a:Rows)(b:Int)(c:Int)(kn:Int->Op α)(k1:Int->Op α)(k2:Int->Op α):Op α:=S34_0_0g f85_0 α a b c kn k1 k2
def V34_0_0 (α:Type)(b:Rows)(k1:Int->Op α)(k2:Int->Op α):List Int->Int->Op α
 | [],a=>k1 a
 | c::ys,a=>S34_0_0 α b c a (V34_0_0 α b k1 k2 ys) k1 k2
abbrev TV34_0_0:Type 1:=(α:Type)->Rows->(Int->Op α)->(Int->Op α)->List Int->Int->Op α
def F34_0_0 (v:TV34_0_0)(α:Type)(K:KT α)(ys:List Int):Int->Int->Int->Rows->Op α:=fun c d e a=>v α a (fun b=>u34_0_0 (K .normal) c d b a) (fun b=>u34_0_0 (K .ret) 0 0 b a) ys e
theorem r34_0_0g (h:Tf32_0)(c:Tf85_0)(α:Type)(K:KT α)(Kn:SK α)(i:Int)(d e b:Int)(a:Rows):u34_0_0 (fun σ=>roundT sh34 true (.tmp 18) (runM Pg (E34_0g h c) sh34 ca34_0_17) (runM Pg (E34_0g h c) sh34 c34_0_17) [19,20] td34_17 Kn K (xN.ex i) σ) d e b a=S34_0_0g c α a i b (fun b=>u34_0_0 Kn d e b a) (fun g=>u34_0_0 (K .normal) d e g a) (fun g=>u34_0_0 (K .ret) 0 0 g a):=by kernel_rfl
theorem r34_0_0 (α:Type)(K:KT α)(Kn:SK α)(e:Int)(c d b:Int)(a:Rows):u34_0_0 (fun σ=>roundT sh34 true (.tmp 18) (runM Pg E34_0 sh34 ca34_0_17) (runM Pg E34_0 sh34 c34_0_17) [19,20] td34_17 Kn K (xN.ex e) σ) c d b a=S34_0_0 α a e b (fun b=>u34_0_0 Kn c d b a) (fun g=>u34_0_0 (K .normal) c d g a) (fun g=>u34_0_0 (K .ret) 0 0 g a):=r34_0_0g f32_0 f85_0 α K Kn e c d b a
theorem t34_0_0 (α:Type)(K:KT α):∀ (ys:List Int) (d e b:Int) (a:Rows),V34_0_0 α a (fun c=>u34_0_0 (K .normal) d e c a) (fun c=>u34_0_0 (K .ret) 0 0 c a) ys b=u34_0_0 (roundsK sh34 true (.tmp 18) (runM Pg E34_0 sh34 ca34_0_17) (runM Pg E34_0 sh34 c34_0_17) [19,20] td34_17 K (ys.map xN.ex)) d e b a:=by
 intro ys
 induction ys with
 | nil=>intros;rfl
 | cons g ys ih=>intro d e b a;exact (congrArg (fun kn=>S34_0_0 α a g b kn (fun c=>u34_0_0 (K .normal) d e c a) (fun c=>u34_0_0 (K .ret) 0 0 c a)) (funext fun b=>ih d e b a)).trans (r34_0_0 α K (roundsK sh34 true (.tmp 18) (runM Pg E34_0 sh34 ca34_0_17) (runM Pg E34_0 sh34 c34_0_17) [19,20] td34_17 K (ys.map xN.ex)) g d e b a).symm
theorem m34_0_0:∀ (α:Type) (K:KT α) (ys:List Int),F34_0_0 V34_0_0 α K ys=p34_0_0.unc fun σ=>roundsK sh34 true (.tmp 18) (runM Pg E34_0 sh34 ca34_0_17) (runM Pg E34_0 sh34 c34_0_17) [19,20] td34_17 K (ys.map xN.ex) σ:=fun α K ys=>by funext a b c d;exact t34_0_0 α K ys a b c d
abbrev Tf34_0:Type 1:=(α:Type)->Rows->(Int->Int->Op α)->Op α
def f34_0g (vV34_0_0:TV34_0_0)(c:Tf32_0)(α:Type)(d:Rows)(k1:Int->Int->Op α):Op α:=
 c α d
 (fun a b=>cK (b != 0)
 (k1 0 b)
 (qK (some (idxL (List.length a))) xN fun e=>vV34_0_0 α a
 (fun g=>k1 g 0)
 (fun h=>k1 0 0) e 2))
def f34_0 (α:Type)(a:Rows)(k1:Int->Int->Op α):Op α:=f34_0g V34_0_0 f32_0 α a k1
def pa34_0:PT (List DV):=pA [pV false [dL]]
def Fn34_0 (v:Tf34_0)(α:Type)(k:RT α):Rows->Op α:=fun a=>v α a (fun b c=>ur34_0_0 k b c)
def cm34_0g (vV34_0_0:TV34_0_0):MCode:=(.seq (.region r34_2 [] (tO [0,2,3])) (.seq (.region r34_4 [] (tO [2,3,4,5])) (.seq (.seq (.region r34_7 [] (tO [2,3,4,5,15])) (.cond (.tmp 15) (.seq (.region r34_10 [] (tO [2,3])) .ret) .skip)) (.seq (.region r34_12 [] (tO [2,3,4,6])) (.seq (.seq (.region r34_15 [] (some ⟨[2,3,6,17,18],true,[⟨false,17,0,20017,2⟩],[]⟩)) (.block 0 (.rangeF (.tmp 18) [19,20] td34_17 [⟨true,xN,p34_0_0,F34_0_0 vV34_0_0⟩] ca34_0_17 c34_0_17))) (.seq (.region r34_31 [] (tO [2,3])) .ret))))))
def cm34_0:MCode:=cm34_0g V34_0_0
theorem gm34_0:cm34_0.Good Pg E34_0 sh34:=⟨trivial,trivial,⟨trivial,⟨trivial,trivial⟩,trivial⟩,trivial,⟨trivial,⟨ga34_0_17,g34_0_17⟩,m34_0_0,trivial⟩,trivial,trivial⟩
theorem fm34_0g (a:Tf32_0)(b:Tf85_0)(vV34_0_0:TV34_0_0)(α:Type)(k:RT α):Fn34_0 (f34_0g vV34_0_0 a) α k=pa34_0.unc fun ds=>fnM Pg (E34_0g a b) sh34 (cm34_0g vV34_0_0) rs34 k ds:=by kernel_rfl
theorem fm34_0:∀ (α:Type) (k:RT α),Fn34_0 f34_0 α k=pa34_0.unc fun ds=>fnM Pg E34_0 sh34 cm34_0 rs34 k ds:=fm34_0g f32_0 f85_0 V34_0_0
theorem is34:FnIs Pg 34 nt34 tr34 tl34 cm34_0.erase rs34:=⟨Tryz.f34,Tryz.func34,rfl,by kernel_rfl,by kernel_rfl,by kernel_rfl⟩
theorem io34_0:InstOk Pg 34 nt34 ⟨pa34_0,Fn34_0 f34_0⟩:=inst_ok eo34_0 followsTry is34 ⟨⟨sh34,cm34_0,by kernel_rfl,gm34_0,fm34_0⟩⟩
abbrev nt8:Nat:=211
def sh8:SG:=[(44,iT),(45,iT),(56,iT),(57,iT),(124,[.cpx .f64,.int .i64]),(125,[.cpx .f64,.int .i64]),(128,iT),(129,iT),(185,[.cpx .f64,.int .i64]),(186,[.cpx .f64,.int .i64]),(189,[.cpx .f64,.int .i64]),(190,[.cpx .f64,.int .i64])]
def r8_2:LA:=[oO 2 (.mv (.const (.bool false)))]
def r8_5:LA:=[oO 25 (.call 9 []),oO 26 (.pure (oB (.unOp .not 4 (.tmp 25)) 4))]
def r8_8:LA:=[oO 2 (.mv (.const (.bool false)))]
def r8_11:LA:=[oM 27 0,oO 28 (.len (.tmp 27)),bK 29 .gtr 28 16,oM 30 29,oG 31 (.mv (.tmp 0)) 30 false,oG 32 (.call 13 [.tmp 31]) 30 false,oG 33 (.bin .neq 3 (.tmp 32) (kI 0)) 30 false,oO 34 (.pick (.tmp 30) (.const (.bool true)) (.tmp 33))]
def r8_14:LA:=[oO 2 (.mv (.const (.bool true)))]
def r8_16:LA:=[mK 3 0,mK 4 0,mK 5 (-1)]
def r8_19:LA:=[mK 6 0]
def td8_21:OT:=(tO [0,3,4,5,6])
def r8_24:LA:=[oM 35 6,oM 36 0,oO 37 (.len (.tmp 36)),bT 38 .lss 35 37]
def r8_29:LA:=[oM 41 3,oM 42 0,oM 43 6,oO 44 (.iaddr 1 none (.tmp 42) (.tmp 43)),lD 45 44,oO 46 (.call 43 [.tmp 45]),bT 47 .add 41 46,oM 3 47]
def r8_31:LA:=[oM 48 6,oM 49 0,oO 50 (.len (.tmp 49)),bK 51 .quo 50 2,bT 52 .gtr 48 51,oM 53 52,oG 54 (.mv (.tmp 0)) 53 true,oG 55 (.mv (.tmp 6)) 53 true,oG 56 (.iaddr 1 none (.tmp 54) (.tmp 55)) 53 true,oG 57 (.load false 1 (.tmp 56)) 53 true,oG 58 (.bin .neq 3 (.tmp 57) (kI 0)) 53 true,oO 59 (.pick (.tmp 53) (.tmp 58) (.const (.bool false)))]
def r8_34:LA:=[oM 60 4,bK 61 .add 60 1,oM 4 61]
def r8_36:LA:=[oM 62 5,bK 63 .lss 62 0]
def r8_38:LA:=[oM 64 6,oM 5 64]
def r8_39:LA:=[oM 39 6,bK 40 .add 39 1,oM 6 40]
def r8_42:LA:=[oM 65 3,oM 66 0,oO 67 (.len (.tmp 66)),bT 68 .mul 65 67,bK 69 .gtr 68 60]
def r8_45:LA:=[oO 2 (.mv (.const (.bool true)))]
def r8_47:LA:=[oM 71 0,oO 72 (.call 12 [.tmp 71]),oO 73 (.call 11 [.tmp 72]),oM 70 73,oO 74 (.extract 0 (.tmp 70)),oO 75 (.extract 1 (.tmp 70)),oM 7 74,oM 8 75]
def r8_49:LA:=[oM 77 7,oO 78 (.call 32 [.tmp 77]),oM 76 78,oO 79 (.extract 0 (.tmp 76)),oO 80 (.extract 1 (.tmp 76)),oM 9 79,oM 10 80]
def r8_51:LA:=[oM 82 7,oO 83 (.call 34 [.tmp 82]),oM 81 83,oO 84 (.extract 0 (.tmp 81)),oO 85 (.extract 1 (.tmp 81)),oM 11 84,oM 12 85]
def r8_53:LA:=[oM 87 7,oO 88 (.call 35 [.tmp 87]),oM 86 88,oO 89 (.extract 0 (.tmp 86)),oO 90 (.extract 1 (.tmp 86)),oM 13 89,oM 14 90]
def r8_56:LA:=[oM 91 8,oO 92 (.bin .neq 26 (.tmp 91) (kI 0)),oM 93 92,oG 94 (.mv (.tmp 10)) 93 false,oG 95 (.bin .neq 26 (.tmp 94) (kI 0)) 93 false,oO 96 (.pick (.tmp 93) (.const (.bool true)) (.tmp 95)),oM 97 96,oG 98 (.mv (.tmp 12)) 97 false,oG 99 (.bin .neq 26 (.tmp 98) (kI 0)) 97 false,oO 100 (.pick (.tmp 97) (.const (.bool true)) (.tmp 99)),oM 101 100,oG 102 (.mv (.tmp 7)) 101 false,oG 103 (.len (.tmp 102)) 101 false,oG 104 (.mv (.tmp 0)) 101 false,oG 105 (.len (.tmp 104)) 101 false,oG 106 (.bin .neq 3 (.tmp 103) (.tmp 105)) 101 false,oO 107 (.pick (.tmp 101) (.const (.bool true)) (.tmp 106)),oM 108 107,oG 109 (.mv (.tmp 9)) 108 false,oG 110 (.len (.tmp 109)) 108 false,oG 111 (.mv (.tmp 0)) 108 false,oG 112 (.len (.tmp 111)) 108 false,oG 113 (.bin .neq 3 (.tmp 110) (.tmp 112)) 108 false,oO 114 (.pick (.tmp 108) (.const (.bool true)) (.tmp 113))]
def r8_59:LA:=[oO 2 (.mv (.const (.bool false)))]
def r8_62:LA:=[mK 15 0]
def td8_64:OT:=(some ⟨[0,4,5,7,9,11,13,14,15],true,[⟨false,7,0,20007,2⟩,⟨false,9,0,20009,2⟩],[]⟩)
def r8_67:LA:=[oM 115 15,oM 116 9,oO 117 (.len (.tmp 116)),bT 118 .lss 115 117]
def r8_72:LA:=[oM 122 9,oM 123 15,oO 124 (.iaddr 2 none (.tmp 122) (.tmp 123)),lA 125 2 124,oM 126 0,oM 127 15,oO 128 (.iaddr 1 none (.tmp 126) (.tmp 127)),lD 129 128,bK 130 .mul 129 1048576,oO 131 (.call 45 [(.tmp 130),(kI 0)]),oO 132 (.call 44 [(.tmp 125),(.tmp 131)]),oM 121 132,oO 133 (.extract 0 (.tmp 121)),oO 134 (.extract 1 (.tmp 121)),oM 16 133,oM 17 134]
def r8_74:LA:=[oM 135 17,oO 136 (.bin .neq 26 (.tmp 135) (kI 0)),oM 137 136,oG 138 (.mv (.tmp 16)) 137 false,oG 139 (.pure (oB (.unOp .not 4 (.tmp 138)) 4)) 137 false,oO 140 (.pick (.tmp 137) (.const (.bool true)) (.tmp 139))]
def r8_77:LA:=[oO 2 (.mv (.const (.bool false)))]
def r8_78:LA:=[oM 119 15,bK 120 .add 119 1,oM 15 120]
def r8_81:LA:=[oM 141 4,bK 142 .gtr 141 0]
def r8_84:LA:=[oM 143 11,bK 144 .eql 143 0,oM 145 144,oG 146 (.mv (.tmp 14)) 145 true,oG 147 (.bin .eql 26 (.tmp 146) (kI 0)) 145 true,oO 148 (.pick (.tmp 145) (.tmp 147) (.const (.bool false))),oM 149 148,oG 150 (.mv (.tmp 13)) 149 true,oG 151 (.mv (.tmp 5)) 149 true,oG 152 (.bin .eql 3 (.tmp 150) (.tmp 151)) 149 true,oO 153 (.pick (.tmp 149) (.tmp 152) (.const (.bool false))),oM 2 153]
def r8_86:LA:=[oM 155 7,oO 156 (.call 36 [.tmp 155]),oM 154 156,oO 157 (.extract 0 (.tmp 154)),oO 158 (.extract 1 (.tmp 154)),oM 18 157,oM 19 158]
def r8_89:LA:=[oM 159 11,bK 160 .eql 159 0,oM 161 160,oG 162 (.mv (.tmp 14)) 161 false,oG 163 (.bin .neq 26 (.tmp 162) (kI 17)) 161 false,oO 164 (.pick (.tmp 161) (.const (.bool true)) (.tmp 163)),oM 165 164,oG 166 (.mv (.tmp 19)) 165 false,oG 167 (.bin .neq 26 (.tmp 166) (kI 0)) 165 false,oO 168 (.pick (.tmp 165) (.const (.bool true)) (.tmp 167)),oM 169 168,oG 170 (.mv (.tmp 18)) 169 false,oG 171 (.len (.tmp 170)) 169 false,oG 172 (.mv (.tmp 7)) 169 false,oG 173 (.len (.tmp 172)) 169 false,oG 174 (.bin .neq 3 (.tmp 171) (.tmp 173)) 169 false,oO 175 (.pick (.tmp 169) (.const (.bool true)) (.tmp 174))]
def r8_92:LA:=[oO 2 (.mv (.const (.bool false)))]
def r8_95:LA:=[mK 20 0]
def td8_97:OT:=(some ⟨[7,18,20],true,[⟨false,7,0,20007,2⟩,⟨false,18,0,20018,2⟩],[]⟩)
def r8_100:LA:=[oM 176 20,oM 177 18,oO 178 (.len (.tmp 177)),bT 179 .lss 176 178]
def r8_105:LA:=[oM 183 18,oM 184 20,oO 185 (.iaddr 2 none (.tmp 183) (.tmp 184)),lA 186 2 185,oM 187 7,oM 188 20,oO 189 (.iaddr 2 none (.tmp 187) (.tmp 188)),lA 190 2 189,oO 191 (.call 46 [(.tmp 186),(.tmp 190)]),oM 182 191,oO 192 (.extract 0 (.tmp 182)),oO 193 (.extract 1 (.tmp 182)),oM 21 192,oM 22 193]
def r8_107:LA:=[oM 194 22,oO 195 (.bin .neq 26 (.tmp 194) (kI 0)),oM 196 195,oG 197 (.mv (.tmp 21)) 196 false,oG 198 (.pure (oB (.unOp .not 4 (.tmp 197)) 4)) 196 false,oO 199 (.pick (.tmp 196) (.const (.bool true)) (.tmp 198))]
def r8_110:LA:=[oO 2 (.mv (.const (.bool false)))]
def r8_111:LA:=[oM 180 20,bK 181 .add 180 1,oM 20 181]
def r8_113:LA:=[oM 201 18,oO 202 (.call 34 [.tmp 201]),oM 200 202,oO 203 (.extract 0 (.tmp 200)),oO 204 (.extract 1 (.tmp 200)),oM 23 203,oM 24 204]
def r8_115:LA:=[oM 205 24,oO 206 (.bin .eql 26 (.tmp 205) (kI 0)),oM 207 206,oG 208 (.mv (.tmp 23)) 207 true,oG 209 (.bin .neq 3 (.tmp 208) (kI 0)) 207 true,oO 210 (.pick (.tmp 207) (.tmp 209) (.const (.bool false))),oM 2 210]
def tr8:TG:=[tT 0 [0],tT 1 [0,26],tT 2 [2],tT 3 [0,34],tT 4 [2],tT 5 [0,3,4,5],tT 6 [0,3,4,5,6],tT 7 [0,3,4,5,6,38],tT 9 [0,3,4,5,6],tT 10 [0,3,4,5,6,59],tT 11 [0,3,4,5,6],tT 12 [0,3,4,5,6,63],tT 13 [0,3,4,5,6],tT 8 [0,3,4,5,6],tT 14 [0,4,5,69],tT 15 [2],tT 16 [0,4,5,7,8],tT 17 [0,4,5,7,8,9,10],tT 18 [0,4,5,7,8,9,10,11,12],tT 19 [0,4,5,7,8,9,10,11,12,13,14],tT 20 [0,4,5,7,9,11,13,14,114],tT 21 [2],tT 22 [0,4,5,7,9,11,13,14,15],tT 23 [0,4,5,7,9,11,13,14,15,118],tT 25 [0,4,5,7,9,11,13,14,15,16,17],tT 26 [0,4,5,7,9,11,13,14,15,140],tT 27 [2],tT 24 [0,4,5,7,9,11,13,14,15],tT 28 [5,7,11,13,14,142],tT 29 [2],tT 30 [7,11,14,18,19],tT 31 [7,18,175],tT 32 [2],tT 33 [7,18,20],tT 34 [7,18,20,179],tT 36 [7,18,20,21,22],tT 37 [7,18,20,199],tT 38 [2],tT 35 [7,18,20],tT 39 [23,24],tT 40 [2]]
def tl8:TG:=[tT 7 [0,3,4,5,6],(23,⟨[0,4,5,7,9,11,13,14,15],true,[⟨false,7,0,20007,2⟩,⟨false,9,0,20009,2⟩],[]⟩),(34,⟨[7,18,20],true,[⟨false,7,0,20007,2⟩,⟨false,18,0,20018,2⟩],[]⟩)]
def rs8:List AResV:=[.tmp 2]
def p8_0_0:PT St:=pS [sl 0 (aV false [(cD dL)]),sI 3,sI 4,sI 5,sI 6] []
def u8_0_0 {β:Type}(g:St->β):Rows->I4 β:=p8_0_0.unc g
def p8_0_1:PT St:=pS [sl 0 (aV false [(cD dL)]),sI 3,sI 4,sI 5,sI 6,sl 59 (aV false [(cD dB)])] []
def u8_0_1 {β:Type}(g:St->β):Rows->Int->Int->Int->Int->Bool->β:=p8_0_1.unc g
def p8_0_2:PT St:=pS [sl 0 (aV false [(cD dL)]),sI 3,sI 4,sI 5,sI 6,sl 38 (aV false [(cD dB)])] []
def u8_0_2 {β:Type}(g:St->β):Rows->Int->Int->Int->Int->Bool->β:=p8_0_2.unc g
def p8_0_3:PT St:=pS [sl 0 (aV false [(cD dL)]),sI 4,sI 5,sl 7 (aV false [(cRef 73)]),sI 8,sl 9 (aV false [(cRef 78)]),sI 10,sI 11,sI 12,sI 13,sI 14] [eOwn 73 2,eOwn 78 2]
def u8_0_3 {β:Type}(g:St->β):Rows->Int->Int->Int->Int->Int->Int->Int->Int->Rows->Rows->β:=p8_0_3.unc g
def p8_0_4:PT St:=pS [sl 0 (aV false [(cD dL)]),sI 4,sI 5,sl 7 (aV false [(cRef 73)]),sl 9 (aV false [(cRef 78)]),sI 11,sI 13,sI 14,sl 114 (aV false [(cD dB)])] [eOwn 73 2,eOwn 78 2]
def u8_0_4 {β:Type}(g:St->β):Rows->Int->Int->Int->Int->Int->Bool->Rows->Rows->β:=p8_0_4.unc g
def p8_0_5:PT St:=pS [sl 0 (aV false [(cD dL)]),sI 4,sI 5,sl 7 (aV false [(cRef 20007)]),sl 9 (aV false [(cRef 20009)]),sI 11,sI 13,sI 14,sI 15] [eOwn 20007 2,eOwn 20009 2]
def u8_0_5 {β:Type}(g:St->β):Rows->Int->Int->Int->Int->Int->Int->Rows->Rows->β:=p8_0_5.unc g
def p8_0_6:PT St:=pS [sl 2 (aV false [(cD dB)])] []
def u8_0_6 {β:Type}(g:St->β):Bool->β:=p8_0_6.unc g
def p8_0_7:PT St:=pS [sl 0 (aV false [(cD dL)]),sI 4,sI 5,sl 7 (aV false [(cRef 20007)]),sl 9 (aV false [(cRef 20009)]),sI 11,sI 13,sI 14,sI 15,sl 118 (aV false [(cD dB)])] [eOwn 20007 2,eOwn 20009 2]
def u8_0_7 {β:Type}(g:St->β):Rows->Int->Int->Int->Int->Int->Int->Bool->Rows->Rows->β:=p8_0_7.unc g
def p8_0_8:PT St:=pS [sl 7 (aV false [(cRef 20007)]),sl 18 (aV false [(cRef 20018)]),sI 20] [eOwn 20007 2,eOwn 20018 2]
def u8_0_8 {β:Type}(g:St->β):Int->Rows->Rows->β:=p8_0_8.unc g
def p8_0_9:PT St:=pS [sl 7 (aV false [(cRef 20007)]),sl 18 (aV false [(cRef 20018)]),sI 20,sl 179 (aV false [(cD dB)])] [eOwn 20007 2,eOwn 20018 2]
def u8_0_9 {β:Type}(g:St->β):Int->Bool->Rows->Rows->β:=p8_0_9.unc g
def pr8_0_0:PT (List RV):=pRs [pR false [rD dB]]
def ur8_0_0 {β:Type}(g:List RV->β):Bool->β:=pr8_0_0.unc g
def E8_0g (a:Tf9_0)(b:Tf13_0)(c:Tf43_0)(d:Tf12_0)(e:Tf11_0)(g:Tf32_0)(h:Tf34_0)(i:Tf35_0)(j:Tf45_0)(l:Tf44_0)(m:Tf36_0)(o:Tf46_0):EnvK:=EnvK.of [⟨9,nt9,[⟨pa9_0,Fn9_0 a⟩]⟩,⟨13,nt13,[⟨pa13_0,Fn13_0 b⟩]⟩,⟨43,nt43,[⟨pa43_0,Fn43_0 c⟩]⟩,⟨12,nt12,[⟨pa12_0,Fn12_0 d⟩]⟩,⟨11,nt11,[⟨pa11_0,Fn11_0 e⟩]⟩,⟨32,nt32,[⟨pa32_0,Fn32_0 g⟩]⟩,⟨34,nt34,[⟨pa34_0,Fn34_0 h⟩]⟩,⟨35,nt35,[⟨pa35_0,Fn35_0 i⟩]⟩,⟨45,nt45,[⟨pa45_0,Fn45_0 j⟩]⟩,⟨44,nt44,[⟨pa44_0,Fn44_0 l⟩]⟩,⟨36,nt36,[⟨pa36_0,Fn36_0 m⟩]⟩,⟨46,nt46,[⟨pa46_0,Fn46_0 o⟩]⟩] noSeq
def E8_0:EnvK:=E8_0g f9_0 f13_0 f43_0 f12_0 f11_0 f32_0 f34_0 f35_0 f45_0 f44_0 f36_0 f46_0
theorem eo8_0:E8_0.Ok Pg:=EnvK.of_ok noSeq_ok ⟨⟨io9_0,trivial⟩,⟨io13_0,trivial⟩,⟨io43_0,trivial⟩,⟨io12_0,trivial⟩,⟨io11_0,trivial⟩,⟨io32_0,trivial⟩,⟨io34_0,trivial⟩,⟨io35_0,trivial⟩,⟨io45_0,trivial⟩,⟨io44_0,trivial⟩,⟨io36_0,trivial⟩,⟨io46_0,trivial⟩,trivial⟩
def c8_0_97g:MCode:=(.seq (.seq (.region r8_100 [] (tO [7,18,20,179])) (.cond (.tmp 179) .skip (.exit 4))) (.seq (.block 5 (.seq (.region r8_105 [] (tO [7,18,20,21,22])) (.seq (.region r8_107 [] (tO [7,18,20,199])) (.cond (.tmp 199) (.seq (.region r8_110 [] (tO [2])) .ret) .skip)))) (.region r8_111 [] (tO [7,18,20]))))
def c8_0_97:MCode:=c8_0_97g
theorem g8_0_97:c8_0_97.Good Pg E8_0 sh8:=⟨⟨trivial,trivial,trivial⟩,⟨trivial,trivial,⟨trivial,trivial⟩,trivial⟩,trivial⟩
def S8_0_4g (d:Tf46_0)(α:Type)(c b:Rows)(a:Int)(kn:Int->Op α)(k1:Op α)(k2:Int->Bool->Op α):Op α:=
 cK (decide (a < ((List.length b:Nat):Int)))
 (ixK b a 2
 (ldK b (Int.toNat a) 0 [.cpx .f64,.int .i64]
 (fun e g h=>ixK c a 2
 (ldK c (Int.toNat a) 0 [.cpx .f64,.int .i64]
 (fun i j l=>d α e g h i j l
 (fun m o=>cK (o != 0)
 (k1)
 (cK (!m)
 (k1)
 (kn (w64 (a+1))))))))))
 (k2 a (decide (a < ((List.length b:Nat):Int))))
def S8_0_4 (α:Type)(a b:Rows)(c:Int)(kn:Int->Op α)(k1:Op α)(k2:Int->Bool->Op α):Op α:=S8_0_4g f46_0 α a b c kn k1 k2
def R8_0_4 (α:Type)(a b:Rows)(k1:Op α)(k2:Int->Bool->Op α):Nat->Int->Op α
 | 0,_=>none
 | n+1,c=>S8_0_4 α a b c (R8_0_4 α a b k1 k2 n) k1 k2
def L8_0_4 (α:Type)(a b:Rows)(k1:Op α)(k2:Int->Bool->Op α)(c:Int):Op α:=R8_0_4 α a b k1 k2 fuel c
abbrev TL8_0_4:Type 1:=(α:Type)->Rows->Rows->(Op α)->(Int->Bool->Op α)->Int->Op α
def F8_0_4 (v:TL8_0_4)(α:Type)(K:KT α):Int->Rows->Rows->Op α:=fun c a b=>v α a b (u8_0_6 (K .ret) false) (fun d e=>u8_0_9 (K (.exit 4)) d e a b) c
theorem r8_0_4g (e:Tf9_0)(g:Tf13_0)(h:Tf43_0)(i:Tf12_0)(j:Tf11_0)(l:Tf32_0)(m:Tf34_0)(o:Tf35_0)(p:Tf45_0)(q:Tf44_0)(r:Tf36_0)(d:Tf46_0)(α:Type)(K:KT α)(Kn:SK α)(a:Int)(b c:Rows):u8_0_8 (fun σ=>runM Pg (E8_0g e g h i j l m o p q r d) sh8 (c8_0_97g ) (thenK (fun σ=>tidyK td8_97 σ Kn) K) σ) a b c=S8_0_4g d α b c a (fun a=>u8_0_8 Kn a b c) (u8_0_6 (K .ret) false) (fun s t=>u8_0_9 (K (.exit 4)) s t b c):=by kernel_rfl
theorem r8_0_4 (α:Type)(K:KT α)(Kn:SK α)(a:Int)(b c:Rows):u8_0_8 (fun σ=>runM Pg E8_0 sh8 c8_0_97 (thenK (fun σ=>tidyK td8_97 σ Kn) K) σ) a b c=S8_0_4 α b c a (fun a=>u8_0_8 Kn a b c) (u8_0_6 (K .ret) false) (fun d e=>u8_0_9 (K (.exit 4)) d e b c):=r8_0_4g f9_0 f13_0 f43_0 f12_0 f11_0 f32_0 f34_0 f35_0 f45_0 f44_0 f36_0 f46_0 α K Kn a b c
theorem t8_0_4 (α:Type)(K:KT α):∀ (n:Nat) (c:Int) (a b:Rows),R8_0_4 α a b (u8_0_6 (K .ret) false) (fun d e=>u8_0_9 (K (.exit 4)) d e a b) n c=u8_0_8 (loopT (runM Pg E8_0 sh8 c8_0_97) td8_97 K n) c a b:=by
 intro n
 induction n with
 | zero=>intros;rfl
 | succ n ih=>intro c a b;exact (congrArg (fun kn=>S8_0_4 α a b c kn (u8_0_6 (K .ret) false) (fun d e=>u8_0_9 (K (.exit 4)) d e a b)) (funext fun c=>ih c a b)).trans (r8_0_4 α K (loopT (runM Pg E8_0 sh8 c8_0_97) td8_97 K n) c a b).symm
theorem m8_0_4:∀ (α:Type) (K:KT α),F8_0_4 L8_0_4 α K=p8_0_8.unc fun σ=>loopT (runM Pg E8_0 sh8 c8_0_97) td8_97 K fuel σ:=fun α K=>by funext a b c;exact t8_0_4 α K fuel a b c
def c8_0_64g:MCode:=(.seq (.seq (.region r8_67 [] (tO [0,4,5,7,9,11,13,14,15,118])) (.cond (.tmp 118) .skip (.exit 2))) (.seq (.block 3 (.seq (.region r8_72 [(2,9),(3,9)] (tO [0,4,5,7,9,11,13,14,15,16,17])) (.seq (.region r8_74 [] (tO [0,4,5,7,9,11,13,14,15,140])) (.cond (.tmp 140) (.seq (.region r8_77 [] (tO [2])) .ret) .skip)))) (.region r8_78 [] (tO [0,4,5,7,9,11,13,14,15]))))
def c8_0_64:MCode:=c8_0_64g
theorem g8_0_64:c8_0_64.Good Pg E8_0 sh8:=⟨⟨trivial,trivial,trivial⟩,⟨trivial,trivial,⟨trivial,trivial⟩,trivial⟩,trivial⟩
def S8_0_3g (c:Tf44_0)(d:Tf45_0)(α:Type)(e b:Rows)(a:Int)(kn:Int->Op α)(k1:Op α)(k2:Int->Bool->Op α):Op α:=
 cK (decide (a < ((List.length b:Nat):Int)))
 (ixK b a 2
 (ldK b (Int.toNat a) 0 [.cpx .f64,.int .i64]
 (fun g h i=>rowK e a [.int .i64]
 (fun j=>d α (w64 (j*1048576)) 0
 (fun l m=>c α g h i l m
 (fun o p=>cK (p != 0)
 (k1)
 (cK (!o)
 (k1)
 (kn (w64 (a+1))))))))))
 (k2 a (decide (a < ((List.length b:Nat):Int))))
def S8_0_3 (α:Type)(a b:Rows)(c:Int)(kn:Int->Op α)(k1:Op α)(k2:Int->Bool->Op α):Op α:=S8_0_3g f44_0 f45_0 α a b c kn k1 k2
def R8_0_3 (α:Type)(a b:Rows)(k1:Op α)(k2:Int->Bool->Op α):Nat->Int->Op α
 | 0,_=>none
 | n+1,c=>S8_0_3 α a b c (R8_0_3 α a b k1 k2 n) k1 k2
def L8_0_3 (α:Type)(a b:Rows)(k1:Op α)(k2:Int->Bool->Op α)(c:Int):Op α:=R8_0_3 α a b k1 k2 fuel c
abbrev TL8_0_3:Type 1:=(α:Type)->Rows->Rows->(Op α)->(Int->Bool->Op α)->Int->Op α
def F8_0_3 (v:TL8_0_3)(α:Type)(K:KT α):Rows->Int->Int->Int->Int->Int->Int->Rows->Rows->Op α:=fun a c d e g h i j b=>v α a b (u8_0_6 (K .ret) false) (fun l m=>u8_0_7 (K (.exit 2)) a c d e g h l m j b) i
theorem r8_0_3g (o:Tf9_0)(p:Tf13_0)(q:Tf43_0)(r:Tf12_0)(s:Tf11_0)(t:Tf32_0)(w:Tf34_0)(z:Tf35_0)(l:Tf45_0)(m:Tf44_0)(A:Tf36_0)(B:Tf46_0)(α:Type)(K:KT α)(Kn:SK α)(a:Rows)(d e g h i b:Int)(j c:Rows):u8_0_5 (fun σ=>runM Pg (E8_0g o p q r s t w z l m A B) sh8 (c8_0_64g ) (thenK (fun σ=>tidyK td8_64 σ Kn) K) σ) a d e g h i b j c=S8_0_3g m l α a c b (fun b=>u8_0_5 Kn a d e g h i b j c) (u8_0_6 (K .ret) false) (fun C D=>u8_0_7 (K (.exit 2)) a d e g h i C D j c):=by kernel_rfl
theorem r8_0_3 (α:Type)(K:KT α)(Kn:SK α)(a:Rows)(d e g h i b:Int)(j c:Rows):u8_0_5 (fun σ=>runM Pg E8_0 sh8 c8_0_64 (thenK (fun σ=>tidyK td8_64 σ Kn) K) σ) a d e g h i b j c=S8_0_3 α a c b (fun b=>u8_0_5 Kn a d e g h i b j c) (u8_0_6 (K .ret) false) (fun l m=>u8_0_7 (K (.exit 2)) a d e g h i l m j c):=r8_0_3g f9_0 f13_0 f43_0 f12_0 f11_0 f32_0 f34_0 f35_0 f45_0 f44_0 f36_0 f46_0 α K Kn a d e g h i b j c
theorem t8_0_3 (α:Type)(K:KT α):∀ (n:Nat) (a:Rows) (d e g h i c:Int) (j b:Rows),R8_0_3 α a b (u8_0_6 (K .ret) false) (fun l m=>u8_0_7 (K (.exit 2)) a d e g h i l m j b) n c=u8_0_5 (loopT (runM Pg E8_0 sh8 c8_0_64) td8_64 K n) a d e g h i c j b:=by
 intro n
 induction n with
 | zero=>intros;rfl
 | succ n ih=>intro a d e g h i c j b;exact (congrArg (fun kn=>S8_0_3 α a b c kn (u8_0_6 (K .ret) false) (fun l m=>u8_0_7 (K (.exit 2)) a d e g h i l m j b)) (funext fun c=>ih a d e g h i c j b)).trans (r8_0_3 α K (loopT (runM Pg E8_0 sh8 c8_0_64) td8_64 K n) a d e g h i c j b).symm
theorem m8_0_3:∀ (α:Type) (K:KT α),F8_0_3 L8_0_3 α K=p8_0_5.unc fun σ=>loopT (runM Pg E8_0 sh8 c8_0_64) td8_64 K fuel σ:=fun α K=>by funext a b c d e g h i j;exact t8_0_3 α K fuel a b c d e g h i j
def c8_0_55g:MCode:=(.region r8_56 [] (tO [0,4,5,7,9,11,13,14,114]))
def c8_0_55:MCode:=c8_0_55g
theorem g8_0_55:c8_0_55.Good Pg E8_0 sh8:=trivial
abbrev TJ8_0_2:Type 1:=(α:Type)->Rows->Int->Int->Int->Rows->Rows->(Bool->Op α)->Op α
def J8_0_2g (α:Type)(a:Rows)(b c d:Int)(e g:Rows)(k1:Bool->Op α):Op α:=
 cK (b != 0)
 (k1 true)
 (cK (c != 0)
 (k1 true)
 (cK (d != 0)
 (k1 true)
 (cK (((List.length e:Nat):Int) != ((List.length a:Nat):Int))
 (k1 true)
 (k1 (((List.length g:Nat):Int) != ((List.length a:Nat):Int))))))
def J8_0_2 (α:Type)(a:Rows)(b c d:Int)(e g:Rows)(k1:Bool->Op α):Op α:=J8_0_2g α a b c d e g k1
def F8_0_2 (v:TJ8_0_2)(α:Type)(K:KT α):Rows->Int->Int->Int->Int->Int->Int->Int->Int->Rows->Rows->Op α:=fun a d e g h i j l m b c=>v α a g h j b c (fun o=>u8_0_4 (K .normal) a d e i l m o b c)
theorem m8_0_2g (a:Tf9_0)(b:Tf13_0)(c:Tf43_0)(d:Tf12_0)(e:Tf11_0)(g:Tf32_0)(h:Tf34_0)(i:Tf35_0)(j:Tf45_0)(l:Tf44_0)(m:Tf36_0)(o:Tf46_0)(α:Type)(K:KT α):F8_0_2 (J8_0_2g ) α K=p8_0_3.unc fun σ=>runM Pg (E8_0g a b c d e g h i j l m o) sh8 (c8_0_55g ) K σ:=by kernel_rfl
theorem m8_0_2:∀ (α:Type) (K:KT α),F8_0_2 J8_0_2 α K=p8_0_3.unc fun σ=>runM Pg E8_0 sh8 c8_0_55 K σ:=m8_0_2g f9_0 f13_0 f43_0 f12_0 f11_0 f32_0 f34_0 f35_0 f45_0 f44_0 f36_0 f46_0
def c8_0_30g:MCode:=(.region r8_31 [] (tO [0,3,4,5,6,59]))
def c8_0_30:MCode:=c8_0_30g
theorem g8_0_30:c8_0_30.Good Pg E8_0 sh8:=trivial
abbrev TJ8_0_0:Type 1:=(α:Type)->Rows->Int->(Bool->Op α)->Op α
def J8_0_0g (α:Type)(a:Rows)(b:Int)(k1:Bool->Op α):Op α:=
 cK (decide ((w64 (Int.tdiv ((List.length a:Nat):Int) 2)) < b))
 (rowK a b [.int .i64]
 (fun c=>k1 (c != 0)))
 (k1 false)
def J8_0_0 (α:Type)(a:Rows)(b:Int)(k1:Bool->Op α):Op α:=J8_0_0g α a b k1
def F8_0_0 (v:TJ8_0_0)(α:Type)(K:KT α):Rows->I4 (Op α):=fun a c d e b=>v α a b (fun g=>u8_0_1 (K .normal) a c d e b g)
theorem m8_0_0g (a:Tf9_0)(b:Tf13_0)(c:Tf43_0)(d:Tf12_0)(e:Tf11_0)(g:Tf32_0)(h:Tf34_0)(i:Tf35_0)(j:Tf45_0)(l:Tf44_0)(m:Tf36_0)(o:Tf46_0)(α:Type)(K:KT α):F8_0_0 (J8_0_0g ) α K=p8_0_0.unc fun σ=>runM Pg (E8_0g a b c d e g h i j l m o) sh8 (c8_0_30g ) K σ:=by kernel_rfl
theorem m8_0_0:∀ (α:Type) (K:KT α),F8_0_0 J8_0_0 α K=p8_0_0.unc fun σ=>runM Pg E8_0 sh8 c8_0_30 K σ:=m8_0_0g f9_0 f13_0 f43_0 f12_0 f11_0 f32_0 f34_0 f35_0 f45_0 f44_0 f36_0 f46_0
def c8_0_21g (a:TJ8_0_0):MCode:=(.seq (.seq (.region r8_24 [] (tO [0,3,4,5,6,38])) (.cond (.tmp 38) .skip (.exit 0))) (.seq (.block 1 (.seq (.region r8_29 [] (tO [0,3,4,5,6])) (.seq (.mark [⟨p8_0_0,F8_0_0 a⟩] c8_0_30) (.cond (.tmp 59) (.seq (.region r8_34 [] (tO [0,3,4,5,6])) (.seq (.region r8_36 [] (tO [0,3,4,5,6,63])) (.cond (.tmp 63) (.region r8_38 [] (tO [0,3,4,5,6])) .skip))) .skip)))) (.region r8_39 [] (tO [0,3,4,5,6]))))
def c8_0_21:MCode:=c8_0_21g J8_0_0
theorem g8_0_21:c8_0_21.Good Pg E8_0 sh8:=⟨⟨trivial,trivial,trivial⟩,⟨trivial,⟨g8_0_30,m8_0_0,trivial⟩,⟨trivial,trivial,trivial,trivial⟩,trivial⟩,trivial⟩
def S8_0_1g (h:TJ8_0_0)(i:Tf43_0)(α:Type)(b:Rows)(c d e a:Int)(kn:I4 (Op α))(k1:I4 (Bool->Op α)):Op α:=
 cK (decide (a < ((List.length b:Nat):Int)))
 (rowK b a [.int .i64]
 (fun j=>i α j
 (fun g=>h α b a
 (fun l=>cK l
 (cK (decide (e < 0))
 (kn (w64 (c+g)) (w64 (d+1)) a (w64 (a+1)))
 (kn (w64 (c+g)) (w64 (d+1)) e (w64 (a+1))))
 (kn (w64 (c+g)) d e (w64 (a+1)))))))
 (k1 c d e a (decide (a < ((List.length b:Nat):Int))))
def S8_0_1 (α:Type)(a:Rows)(b c d e:Int)(kn:I4 (Op α))(k1:I4 (Bool->Op α)):Op α:=S8_0_1g J8_0_0 f43_0 α a b c d e kn k1
def R8_0_1 (α:Type)(a:Rows)(k1:I4 (Bool->Op α)):Nat->I4 (Op α)
 | 0,_,_,_,_=>none
 | n+1,b,c,d,e=>S8_0_1 α a b c d e (R8_0_1 α a k1 n) k1
def L8_0_1 (α:Type)(a:Rows)(k1:I4 (Bool->Op α))(b c d e:Int):Op α:=R8_0_1 α a k1 fuel b c d e
abbrev TL8_0_1:Type 1:=(α:Type)->Rows->(I4 (Bool->Op α))->I4 (Op α)
def F8_0_1 (v:TL8_0_1)(α:Type)(K:KT α):Rows->I4 (Op α):=fun a b c d e=>v α a (fun g h i j l=>u8_0_2 (K (.exit 0)) a g h i j l) b c d e
theorem r8_0_1g (i:Tf9_0)(j:Tf13_0)(g:Tf43_0)(l:Tf12_0)(m:Tf11_0)(o:Tf32_0)(p:Tf34_0)(q:Tf35_0)(r:Tf45_0)(s:Tf44_0)(t:Tf36_0)(w:Tf46_0)(h:TJ8_0_0)(α:Type)(K:KT α)(Kn:SK α)(a:Rows)(b c d e:Int):u8_0_0 (fun σ=>runM Pg (E8_0g i j g l m o p q r s t w) sh8 (c8_0_21g h) (thenK (fun σ=>tidyK td8_21 σ Kn) K) σ) a b c d e=S8_0_1g h g α a b c d e (fun b c d e=>u8_0_0 Kn a b c d e) (fun z A B C D=>u8_0_2 (K (.exit 0)) a z A B C D):=by kernel_rfl
theorem r8_0_1 (α:Type)(K:KT α)(Kn:SK α)(a:Rows)(b c d e:Int):u8_0_0 (fun σ=>runM Pg E8_0 sh8 c8_0_21 (thenK (fun σ=>tidyK td8_21 σ Kn) K) σ) a b c d e=S8_0_1 α a b c d e (fun b c d e=>u8_0_0 Kn a b c d e) (fun g h i j l=>u8_0_2 (K (.exit 0)) a g h i j l):=r8_0_1g f9_0 f13_0 f43_0 f12_0 f11_0 f32_0 f34_0 f35_0 f45_0 f44_0 f36_0 f46_0 J8_0_0 α K Kn a b c d e
theorem t8_0_1 (α:Type)(K:KT α):∀ (n:Nat) (a:Rows) (b c d e:Int),R8_0_1 α a (fun g h i j l=>u8_0_2 (K (.exit 0)) a g h i j l) n b c d e=u8_0_0 (loopT (runM Pg E8_0 sh8 c8_0_21) td8_21 K n) a b c d e:=by
 intro n
 induction n with
 | zero=>intros;rfl
 | succ n ih=>intro a b c d e;exact (congrArg (fun kn=>S8_0_1 α a b c d e kn (fun g h i j l=>u8_0_2 (K (.exit 0)) a g h i j l)) (funext fun b=>funext fun c=>funext fun d=>funext fun e=>ih a b c d e)).trans (r8_0_1 α K (loopT (runM Pg E8_0 sh8 c8_0_21) td8_21 K n) a b c d e).symm
theorem m8_0_1:∀ (α:Type) (K:KT α),F8_0_1 L8_0_1 α K=p8_0_0.unc fun σ=>loopT (runM Pg E8_0 sh8 c8_0_21) td8_21 K fuel σ:=fun α K=>by funext a b c d e;exact t8_0_1 α K fuel a b c d e
abbrev Tf8_0:Type 1:=(α:Type)->Rows->(Bool->Op α)->Op α
def f8_0g (i:TJ8_0_2)(j:TL8_0_1)(l:TL8_0_3)(m:TL8_0_4)(o:Tf11_0)(p:Tf12_0)(q:Tf13_0)(r:Tf32_0)(e:Tf34_0)(s:Tf35_0)(t:Tf36_0)(w:Tf9_0)(α:Type)(b:Rows)(k1:Bool->Op α):Op α:=
 w α
 (cK (decide (16 < ((List.length b:Nat):Int)))
 (k1 true)
 (q α b
 (fun z=>cK (z != 0)
 (k1 true)
 (j α b
 (fun A B C O P=>cK (decide (60 < (w64 (A*((List.length b:Nat):Int)))))
 (k1 true)
 (p α b
 (fun D=>o α D
 (fun a F=>flatK [a]
 (r α a
 (fun d G=>flatK [d]
 (e α a
 (fun g H=>s α a
 (fun I h=>i α b F G H a d
 (fun J=>cK J
 (k1 false)
 (l α b d
 (k1 false)
 (fun Q R=>cK (decide (0 < B))
 (cK (g == 0)
 (cK (h == 0)
 (k1 (I == C))
 (k1 false))
 (k1 false))
 (t α a
 (fun c L=>flatK [c]
 (cK (g == 0)
 (k1 false)
 (cK (h != 17)
 (k1 false)
 (cK (L != 0)
 (k1 false)
 (cK (((List.length c:Nat):Int) != ((List.length a:Nat):Int))
 (k1 false)
 (m α a c
 (k1 false)
 (fun T U=>e α c
 (fun M N=>cK (N == 0)
 (k1 (M != 0))
 (k1 false))) 0)))))))) 0))))))))))) 0 0 (-1) 0))))
def f8_0 (α:Type)(a:Rows)(k1:Bool->Op α):Op α:=f8_0g J8_0_2 L8_0_1 L8_0_3 L8_0_4 f11_0 f12_0 f13_0 f32_0 f34_0 f35_0 f36_0 f9_0 α a k1
def pa8_0:PT (List DV):=pA [pV false [dL]]
def Fn8_0 (v:Tf8_0)(α:Type)(k:RT α):Rows->Op α:=fun a=>v α a (fun b=>ur8_0_0 k b)
def cm8_0g (a:TL8_0_1)(b:TJ8_0_2)(c:TL8_0_3)(d:TL8_0_4):MCode:=(.seq (.region r8_2 [] (tO [0])) (.seq (.seq (.region r8_5 [] (tO [0,26])) (.cond (.tmp 26) (.seq (.region r8_8 [] (tO [2])) .ret) .skip)) (.seq (.seq (.region r8_11 [] (tO [0,34])) (.cond (.tmp 34) (.seq (.region r8_14 [] (tO [2])) .ret) .skip)) (.seq (.region r8_16 [] (tO [0,3,4,5])) (.seq (.seq (.region r8_19 [] (tO [0,3,4,5,6])) (.block 0 (.loop td8_21 [⟨p8_0_0,F8_0_1 a⟩] c8_0_21))) (.seq (.seq (.region r8_42 [] (tO [0,4,5,69])) (.cond (.tmp 69) (.seq (.region r8_45 [] (tO [2])) .ret) .skip)) (.seq (.region r8_47 [] (tO [0,4,5,7,8])) (.seq (.region r8_49 [] (tO [0,4,5,7,8,9,10])) (.seq (.region r8_51 [] (tO [0,4,5,7,8,9,10,11,12])) (.seq (.region r8_53 [] (tO [0,4,5,7,8,9,10,11,12,13,14])) (.seq (.seq (.mark [⟨p8_0_3,F8_0_2 b⟩] c8_0_55) (.cond (.tmp 114) (.seq (.region r8_59 [] (tO [2])) .ret) .skip)) (.seq (.seq (.region r8_62 [] (tO [0,4,5,7,9,11,13,14,15])) (.block 2 (.loop td8_64 [⟨p8_0_5,F8_0_3 c⟩] c8_0_64))) (.seq (.seq (.region r8_81 [] (tO [5,7,11,13,14,142])) (.cond (.tmp 142) (.seq (.region r8_84 [] (tO [2])) .ret) .skip)) (.seq (.region r8_86 [] (tO [7,11,14,18,19])) (.seq (.seq (.region r8_89 [] (tO [7,18,175])) (.cond (.tmp 175) (.seq (.region r8_92 [] (tO [2])) .ret) .skip)) (.seq (.seq (.region r8_95 [] (tO [7,18,20])) (.block 4 (.loop td8_97 [⟨p8_0_8,F8_0_4 d⟩] c8_0_97))) (.seq (.region r8_113 [] (tO [23,24])) (.seq (.region r8_115 [] (tO [2])) .ret))))))))))))))))))
def cm8_0:MCode:=cm8_0g L8_0_1 J8_0_2 L8_0_3 L8_0_4
theorem gm8_0:cm8_0.Good Pg E8_0 sh8:=⟨trivial,⟨trivial,⟨trivial,trivial⟩,trivial⟩,⟨trivial,⟨trivial,trivial⟩,trivial⟩,trivial,⟨trivial,g8_0_21,m8_0_1,trivial⟩,⟨trivial,⟨trivial,trivial⟩,trivial⟩,trivial,trivial,trivial,trivial,⟨⟨g8_0_55,m8_0_2,trivial⟩,⟨trivial,trivial⟩,trivial⟩,⟨trivial,g8_0_64,m8_0_3,trivial⟩,⟨trivial,⟨trivial,trivial⟩,trivial⟩,trivial,⟨trivial,⟨trivial,trivial⟩,trivial⟩,⟨trivial,g8_0_97,m8_0_4,trivial⟩,trivial,trivial,trivial⟩
theorem fm8_0g (a:Tf9_0)(b:Tf13_0)(p:Tf43_0)(c:Tf12_0)(d:Tf11_0)(e:Tf32_0)(g:Tf34_0)(h:Tf35_0)(q:Tf45_0)(r:Tf44_0)(i:Tf36_0)(s:Tf46_0)(j:TL8_0_1)(l:TJ8_0_2)(m:TL8_0_3)(o:TL8_0_4)(α:Type)(k:RT α):Fn8_0 (f8_0g l j m o d c b e g h i a) α k=pa8_0.unc fun ds=>fnM Pg (E8_0g a b p c d e g h q r i s) sh8 (cm8_0g j l m o) rs8 k ds:=by kernel_rfl
theorem fm8_0:∀ (α:Type) (k:RT α),Fn8_0 f8_0 α k=pa8_0.unc fun ds=>fnM Pg E8_0 sh8 cm8_0 rs8 k ds:=fm8_0g f9_0 f13_0 f43_0 f12_0 f11_0 f32_0 f34_0 f35_0 f45_0 f44_0 f36_0 f46_0 L8_0_1 J8_0_2 L8_0_3 L8_0_4
theorem is8:FnIs Pg 8 nt8 tr8 tl8 cm8_0.erase rs8:=⟨Tryz.f8,Tryz.func8,rfl,by kernel_rfl,by kernel_rfl,by kernel_rfl⟩
theorem io8_0:InstOk Pg 8 nt8 ⟨pa8_0,Fn8_0 f8_0⟩:=inst_ok eo8_0 followsTry is8 ⟨⟨sh8,cm8_0,by kernel_rfl,gm8_0,fm8_0⟩⟩
end
end Go.AM.K
