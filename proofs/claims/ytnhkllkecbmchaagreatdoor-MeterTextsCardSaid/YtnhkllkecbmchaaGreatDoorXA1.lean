/- Printed by KGen. -/
import Derived.Test.YtnhkllkecbmchaaGreatDoorXA0
namespace Go.AM.K
open Go.Proofs
set_option maxRecDepth 100000
set_option linter.unusedVariables false
noncomputable section
abbrev nt108:Nat:=55
def sh108:SG:=[]
def r108_2:LA:=[oO 2 (.mv (.const (.bool false)))]
def r108_5:LA:=[oM 6 0,oO 7 (.pure (oB (ln9 6) 3)),bK 8 .lss 7 1,oM 9 8,oG 10 (.mv (.tmp 0)) 9 false,oG 11 (.pure (oB (ln9 10) 3)) 9 false,oG 12 (.bin .gtr 3 (.tmp 11) (kI 12)) 9 false,oO 13 (.pick (.tmp 9) (.const (.bool true)) (.tmp 12))]
def r108_8:LA:=[oO 2 (.mv (.const (.bool false)))]
def r108_11:LA:=[mK 3 0]
def td108_13:OT:=(tO [0,3])
def r108_16:LA:=[oM 14 3,oM 15 0,oO 16 (.pure (oB (ln9 15) 3)),bT 17 .lss 14 16]
def r108_21:LA:=[oM 20 0,oM 21 3,oO 22 (.pure (oB (.index 9 (.tmp 20) (.tmp 21)) 5)),oM 4 22]
def r108_23:LA:=[oM 23 4,oO 24 (.bin .geq 5 (.tmp 23) (.const (.int .u8 97))),oM 25 24,oG 26 (.mv (.tmp 4)) 25 true,oG 27 (.bin .leq 5 (.tmp 26) (.const (.int .u8 122))) 25 true,oO 28 (.pick (.tmp 25) (.tmp 27) (.const (.bool false))),oM 29 28,oG 30 (.mv (.tmp 4)) 29 false,oG 31 (.bin .geq 5 (.tmp 30) (.const (.int .u8 65))) 29 false,oG 32 (.mv (.tmp 31)) 29 false,oG 33 (.mv (.tmp 4)) 32 true,oG 34 (.bin .leq 5 (.tmp 33) (.const (.int .u8 90))) 32 true,oG 35 (.pick (.tmp 32) (.tmp 34) (.const (.bool false))) 29 false,oO 36 (.pick (.tmp 29) (.const (.bool true)) (.tmp 35)),oM 5 36]
def r108_25:LA:=[oM 37 5,oO 38 (.pure (oB (.unOp .not 4 (.tmp 37)) 4)),oM 39 38,oG 40 (.mv (.tmp 3)) 39 true,oG 41 (.bin .eql 3 (.tmp 40) (kI 0)) 39 true,oG 42 (.mv (.tmp 41)) 39 true,oG 43 (.mv (.tmp 4)) 42 false,oG 44 (.bin .neq 5 (.tmp 43) (.const (.int .u8 45))) 42 false,oG 45 (.mv (.tmp 44)) 42 false,oG 46 (.mv (.tmp 4)) 45 true,oG 47 (.bin .lss 5 (.tmp 46) (.const (.int .u8 48))) 45 true,oG 48 (.mv (.tmp 47)) 45 true,oG 49 (.mv (.tmp 4)) 48 false,oG 50 (.bin .gtr 5 (.tmp 49) (.const (.int .u8 57))) 48 false,oG 51 (.pick (.tmp 48) (.const (.bool true)) (.tmp 50)) 45 true,oG 52 (.pick (.tmp 45) (.tmp 51) (.const (.bool false))) 42 false,oG 53 (.pick (.tmp 42) (.const (.bool true)) (.tmp 52)) 39 true,oO 54 (.pick (.tmp 39) (.tmp 53) (.const (.bool false)))]
def r108_28:LA:=[oO 2 (.mv (.const (.bool false)))]
def r108_29:LA:=[oM 18 3,bK 19 .add 18 1,oM 3 19]
def r108_31:LA:=[oO 2 (.mv (.const (.bool true)))]
def tr108:TG:=[tT 0 [0],tT 1 [0,13],tT 2 [2],tT 3 [0,3],tT 4 [0,3,17],tT 6 [0,3,4],tT 7 [0,3,4,5],tT 8 [0,3,54],tT 9 [2],tT 5 [0,3],tT 10 [2]]
def tl108:TG:=[tT 4 [0,3]]
def rs108:List AResV:=[.tmp 2]
def p108_0_0:PT St:=pS [sY 0 dS,sI 3,sY 4 (dI .u8)] []
def u108_0_0 {β:Type}(g:St->β):BA->Int->Int->β:=p108_0_0.unc g
def p108_0_1:PT St:=pS [sY 0 dS,sI 3,sY 4 (dI .u8),sY 5 dB] []
def u108_0_1 {β:Type}(g:St->β):BA->Int->Int->Bool->β:=p108_0_1.unc g
def p108_0_2:PT St:=pS [sY 0 dS,sI 3,sY 54 dB] []
def u108_0_2 {β:Type}(g:St->β):BA->Int->Bool->β:=p108_0_2.unc g
def p108_0_3:PT St:=pS [sY 0 dS,sI 3] []
def u108_0_3 {β:Type}(g:St->β):BA->Int->β:=p108_0_3.unc g
def p108_0_4:PT St:=pS [sY 2 dB] []
def u108_0_4 {β:Type}(g:St->β):Bool->β:=p108_0_4.unc g
def p108_0_5:PT St:=pS [sY 0 dS,sI 3,sY 17 dB] []
def u108_0_5 {β:Type}(g:St->β):BA->Int->Bool->β:=p108_0_5.unc g
def pr108_0_0:PT (List RV):=pRs [pR false [rD dB]]
def ur108_0_0 {β:Type}(g:List RV->β):Bool->β:=pr108_0_0.unc g
def E108_0g:EnvK:=EnvK.of [] noSeq
def E108_0:EnvK:=E108_0g
theorem eo108_0:E108_0.Ok Pg:=EnvK.of_ok noSeq_ok TT
def c108_0_24g:MCode:=(.region r108_25 [] (tO [0,3,54]))
def c108_0_24:MCode:=c108_0_24g
theorem g108_0_24:c108_0_24.Good Pg E108_0 sh108:=TT
abbrev TJ108_0_1:Type 1:=(α:Type)->Int->Int->Bool->(Bool->Op α)->Op α
def J108_0_1g (α:Type)(b a:Int)(c:Bool)(k1:Bool->Op α):Op α:=
 cK (!c)
 (cK (b == 0)
 (k1 true)
 (cK (a != 45)
 (cK (decide (a < 48))
 (k1 true)
 (k1 (decide (57 < a))))
 (k1 false)))
 (k1 false)
def J108_0_1 (α:Type)(a b:Int)(c:Bool)(k1:Bool->Op α):Op α:=J108_0_1g α a b c k1
def F108_0_1 (v:TJ108_0_1)(α:Type)(K:KT α):BA->Int->Int->Bool->Op α:=fun b a c d=>v α a c d (fun e=>u108_0_2 (K .normal) b a e)
theorem m108_0_1g (α:Type)(K:KT α):F108_0_1 (J108_0_1g ) α K=p108_0_1.unc fun σ=>runM Pg (E108_0g ) sh108 (c108_0_24g ) K σ:=by kernel_rfl
theorem m108_0_1:∀ (α:Type) (K:KT α),F108_0_1 J108_0_1 α K=p108_0_1.unc fun σ=>runM Pg E108_0 sh108 c108_0_24 K σ:=m108_0_1g
def c108_0_22g:MCode:=(.region r108_23 [] (tO [0,3,4,5]))
def c108_0_22:MCode:=c108_0_22g
theorem g108_0_22:c108_0_22.Good Pg E108_0 sh108:=TT
abbrev TJ108_0_0:Type 1:=(α:Type)->Int->(Bool->Op α)->Op α
def J108_0_0g (α:Type)(a:Int)(k1:Bool->Op α):Op α:=
 cK (decide (97<=a))
 (cK (decide (a<=122))
 (k1 true)
 (cK (decide (65<=a))
 (k1 (decide (a<=90)))
 (k1 false)))
 (cK (decide (65<=a))
 (k1 (decide (a<=90)))
 (k1 false))
def J108_0_0 (α:Type)(a:Int)(k1:Bool->Op α):Op α:=J108_0_0g α a k1
def F108_0_0 (v:TJ108_0_0)(α:Type)(K:KT α):BA->Int->Int->Op α:=fun b c a=>v α a (fun d=>u108_0_1 (K .normal) b c a d)
theorem m108_0_0g (α:Type)(K:KT α):F108_0_0 (J108_0_0g ) α K=p108_0_0.unc fun σ=>runM Pg (E108_0g ) sh108 (c108_0_22g ) K σ:=by kernel_rfl
theorem m108_0_0:∀ (α:Type) (K:KT α),F108_0_0 J108_0_0 α K=p108_0_0.unc fun σ=>runM Pg E108_0 sh108 c108_0_22 K σ:=m108_0_0g
def c108_0_13g (a:TJ108_0_0)(b:TJ108_0_1):MCode:=(.seq (.seq (.region r108_16 [] (tO [0,3,17])) (.cond (.tmp 17) .skip (.exit 0))) (.seq (.block 1 (.seq (.region r108_21 [] (tO [0,3,4])) (.seq (.mark [⟨p108_0_0,F108_0_0 a⟩] c108_0_22) (.seq (.mark [⟨p108_0_1,F108_0_1 b⟩] c108_0_24) (.cond (.tmp 54) (.seq (.region r108_28 [] (tO [2])) .ret) .skip))))) (.region r108_29 [] (tO [0,3]))))
def c108_0_13:MCode:=c108_0_13g J108_0_0 J108_0_1
theorem g108_0_13:c108_0_13.Good Pg E108_0 sh108:=⟨⟨TT,TT,TT⟩,⟨TT,⟨g108_0_22,m108_0_0,TT⟩,⟨g108_0_24,m108_0_1,TT⟩,⟨TT,TT⟩,TT⟩,TT⟩
def S108_0_2g (d:TJ108_0_0)(e:TJ108_0_1)(α:Type)(b:BA)(a:Int)(kn:Int->Op α)(k1:Op α)(k2:Int->Bool->Op α):Op α:=
 cK (decide (a < ((ByteArray.size b:Nat):Int)))
 (sixK b a
 (fun c=>d α ((UInt8.toNat c:Nat):Int)
 (fun g=>e α a ((UInt8.toNat c:Nat):Int) g
 (fun h=>cK h
 (k1)
 (kn (w64 (a+1)))))))
 (k2 a (decide (a < ((ByteArray.size b:Nat):Int))))
def S108_0_2 (α:Type)(a:BA)(b:Int)(kn:Int->Op α)(k1:Op α)(k2:Int->Bool->Op α):Op α:=S108_0_2g J108_0_0 J108_0_1 α a b kn k1 k2
def R108_0_2 (α:Type)(a:BA)(k1:Op α)(k2:Int->Bool->Op α):Nat->Int->Op α
 | 0,_=>none
 | n+1,b=>S108_0_2 α a b (R108_0_2 α a k1 k2 n) k1 k2
def L108_0_2 (α:Type)(a:BA)(k1:Op α)(k2:Int->Bool->Op α)(b:Int):Op α:=R108_0_2 α a k1 k2 fuel b
abbrev TL108_0_2:Type 1:=(α:Type)->BA->(Op α)->(Int->Bool->Op α)->Int->Op α
def F108_0_2 (v:TL108_0_2)(α:Type)(K:KT α):BA->Int->Op α:=fun a b=>v α a (u108_0_4 (K .ret) false) (fun c d=>u108_0_5 (K (.exit 0)) a c d) b
theorem r108_0_2g (c:TJ108_0_0)(d:TJ108_0_1)(α:Type)(K:KT α)(Kn:SK α)(a:BA)(b:Int):u108_0_3 (fun σ=>runM Pg (E108_0g ) sh108 (c108_0_13g c d) (thenK (fun σ=>tidyK td108_13 σ Kn) K) σ) a b=S108_0_2g c d α a b (fun b=>u108_0_3 Kn a b) (u108_0_4 (K .ret) false) (fun e g=>u108_0_5 (K (.exit 0)) a e g):=by kernel_rfl
theorem r108_0_2 (α:Type)(K:KT α)(Kn:SK α)(a:BA)(b:Int):u108_0_3 (fun σ=>runM Pg E108_0 sh108 c108_0_13 (thenK (fun σ=>tidyK td108_13 σ Kn) K) σ) a b=S108_0_2 α a b (fun b=>u108_0_3 Kn a b) (u108_0_4 (K .ret) false) (fun c d=>u108_0_5 (K (.exit 0)) a c d):=r108_0_2g J108_0_0 J108_0_1 α K Kn a b
theorem t108_0_2 (α:Type)(K:KT α):∀ (n:Nat) (a:BA) (b:Int),R108_0_2 α a (u108_0_4 (K .ret) false) (fun c d=>u108_0_5 (K (.exit 0)) a c d) n b=u108_0_3 (loopT (runM Pg E108_0 sh108 c108_0_13) td108_13 K n) a b:=by
 intro n
 induction n with
 | zero=>intros;rfl
 | succ n ih=>intro a b;exact (congrArg (fun kn=>S108_0_2 α a b kn (u108_0_4 (K .ret) false) (fun c d=>u108_0_5 (K (.exit 0)) a c d)) (funext fun b=>ih a b)).trans (r108_0_2 α K (loopT (runM Pg E108_0 sh108 c108_0_13) td108_13 K n) a b).symm
theorem m108_0_2:∀ (α:Type) (K:KT α),F108_0_2 L108_0_2 α K=p108_0_3.unc fun σ=>loopT (runM Pg E108_0 sh108 c108_0_13) td108_13 K fuel σ:=fun α K=>funext fun a=>funext fun b=>t108_0_2 α K fuel a b
abbrev Tf108_0:Type 1:=(α:Type)->BA->(Bool->Op α)->Op α
def f108_0g (b:TL108_0_2)(α:Type)(a:BA)(k1:Bool->Op α):Op α:=
 cK (decide (((ByteArray.size a:Nat):Int) < 1))
 (k1 false)
 (cK (decide (12 < ((ByteArray.size a:Nat):Int)))
 (k1 false)
 (b α a
 (k1 false)
 (fun c d=>k1 true) 0))
def f108_0 (α:Type)(a:BA)(k1:Bool->Op α):Op α:=f108_0g L108_0_2 α a k1
def pa108_0:PT (List DV):=pA [pV false [dS]]
def Fn108_0 (v:Tf108_0)(α:Type)(k:RT α):BA->Op α:=fun a=>v α a (fun b=>ur108_0_0 k b)
def cm108_0g (a:TL108_0_2):MCode:=(.seq (.region r108_2 [] (tO [0])) (.seq (.seq (.region r108_5 [] (tO [0,13])) (.cond (.tmp 13) (.seq (.region r108_8 [] (tO [2])) .ret) .skip)) (.seq (.seq (.region r108_11 [] (tO [0,3])) (.block 0 (.loop td108_13 [⟨p108_0_3,F108_0_2 a⟩] c108_0_13))) (.seq (.region r108_31 [] (tO [2])) .ret))))
def cm108_0:MCode:=cm108_0g L108_0_2
theorem gm108_0:cm108_0.Good Pg E108_0 sh108:=⟨TT,⟨TT,⟨TT,TT⟩,TT⟩,⟨TT,g108_0_13,m108_0_2,TT⟩,TT,TT⟩
theorem fm108_0g (a:TL108_0_2)(α:Type)(k:RT α):Fn108_0 (f108_0g a) α k=pa108_0.unc fun ds=>fnM Pg (E108_0g ) sh108 (cm108_0g a) rs108 k ds:=by kernel_rfl
theorem fm108_0:∀ (α:Type) (k:RT α),Fn108_0 f108_0 α k=pa108_0.unc fun ds=>fnM Pg E108_0 sh108 cm108_0 rs108 k ds:=fm108_0g L108_0_2
theorem is108:FnIs Pg 108 nt108 tr108 tl108 cm108_0.erase rs108:=⟨Tryz.f108,Tryz.func108,rfl,by kernel_rfl,by kernel_rfl,by kernel_rfl⟩
theorem io108_0:InstOk Pg 108 nt108 ⟨pa108_0,Fn108_0 f108_0⟩:=inst_ok eo108_0 followsTry is108 ⟨⟨sh108,cm108_0,by kernel_rfl,gm108_0,fm108_0⟩⟩
abbrev nt164:Nat:=7
def sh164:SG:=[]
def r164_2:LA:=[mK 2 0]
def r164_4:LA:=[oM 3 0,oM 4 0,oO 5 (.pure (oB (.unOp .neg 3 (.tmp 4)) 3)),oO 6 (.pure (oB (.call { callee:=.builtin .max,args:=#[(.tmp 3),(.tmp 5)],argTypes:=#[3,3] }) 3)),oM 2 6]
def tr164:TG:=[tT 0 [0],tT 1 [2]]
def tl164:TG:=[]
def rs164:List AResV:=[.tmp 2]
def pr164_0_0:PT (List RV):=pRs [wI]
def ur164_0_0 {β:Type}(g:List RV->β):Int->β:=pr164_0_0.unc g
def E164_0g:EnvK:=EnvK.of [] noSeq
def E164_0:EnvK:=E164_0g
theorem eo164_0:E164_0.Ok Pg:=EnvK.of_ok noSeq_ok TT
abbrev Tf164_0:Type 1:=(α:Type)->Int->(Int->Op α)->Op α
def f164_0g (α:Type)(a:Int)(k1:Int->Op α):Op α:=
 k1 (if (w64 (0 - a)) > a then (w64 (0 - a)) else a)
def f164_0 (α:Type)(a:Int)(k1:Int->Op α):Op α:=f164_0g α a k1
def pa164_0:PT (List DV):=pA [vI]
def Fn164_0 (v:Tf164_0)(α:Type)(k:RT α):Int->Op α:=fun a=>v α a (fun b=>ur164_0_0 k b)
def cm164_0g:MCode:=(.seq (.region r164_2 [] (tO [0])) (.seq (.region r164_4 [] (tO [2])) .ret))
def cm164_0:MCode:=cm164_0g
theorem gm164_0:cm164_0.Good Pg E164_0 sh164:=⟨TT,TT,TT⟩
theorem fm164_0g (α:Type)(k:RT α):Fn164_0 (f164_0g ) α k=pa164_0.unc fun ds=>fnM Pg (E164_0g ) sh164 (cm164_0g ) rs164 k ds:=by kernel_rfl
theorem fm164_0:∀ (α:Type) (k:RT α),Fn164_0 f164_0 α k=pa164_0.unc fun ds=>fnM Pg E164_0 sh164 cm164_0 rs164 k ds:=fm164_0g
theorem is164:FnIs Pg 164 nt164 tr164 tl164 cm164_0.erase rs164:=⟨Tryz.f164,Tryz.func164,rfl,by kernel_rfl,by kernel_rfl,by kernel_rfl⟩
theorem io164_0:InstOk Pg 164 nt164 ⟨pa164_0,Fn164_0 f164_0⟩:=inst_ok eo164_0 followsTry is164 ⟨⟨sh164,cm164_0,by kernel_rfl,gm164_0,fm164_0⟩⟩
abbrev nt16:Nat:=25
def sh16:SG:=[(7,[.str]),(18,iT)]
def r16_2:LA:=[oO 1 (.box (.tmp 0)),⟨(some 2),(.mv (.const (.string ⟨#[]⟩))),none⟩]
def r16_4:LA:=[fA 6 0 1,lD 7 6,⟨(some 8),(.bslice 1 1 [(.v (.string ⟨#[]⟩))] [(0,(.tmp 7))]),none⟩,oM 3 8]
def r16_7:LA:=[oO 9 (.call 77 [.tmp 1]),oO 10 (.len (.tmp 9)),mK 11 0]
def td16_9:OT:=(some ⟨[3,9,10,11],true,[⟨false,3,0,20003,1⟩],[]⟩)
def r16_11:LA:=[bT 12 .lss 11 10]
def r16_17:LA:=[oO 13 (.iaddr 1 none (.tmp 9) (.tmp 11)),lD 14 13,oM 5 14]
def r16_18:LA:=[oM 15 3,oM 16 5,oO 17 (.nilchk (.tmp 16)),lD 18 17,oO 19 (.call 61 [.tmp 18]),⟨(some 20),(.bslice 1 1 [(.v (.string ⟨#[]⟩))] [(0,(.tmp 19))]),none⟩,oO 21 (.append 1 16 (.tmp 15) (.tmp 20)),oM 3 21]
def r16_19:LA:=[bK 22 .add 11 1,oM 11 22]
def r16_21:LA:=[oM 23 3,⟨(some 24),(.call 78 [(.tmp 23),(.const (.string ⟨#[32]⟩))]),none⟩,oM 2 24]
def tr16:TG:=[tT 0 [1],tT 1 [1,3],tT 2 [3,9,10,11],tT 3 [3,9,10,11,12],tT 4 [3,5,9,10,11],tT 5 [3,9,10,11],tT 6 [3,9,10,11],tT 7 [2]]
def tl16:TG:=[(3,⟨[3,9,10,11],true,[⟨false,3,0,20003,1⟩],[]⟩)]
def rs16:List AResV:=[.tmp 2]
def pr16_0_0:PT (List RV):=pRs [pR false [rD dS]]
def ur16_0_0 {β:Type}(g:List RV->β):BA->β:=pr16_0_0.unc g
def E16_0g (a:Tf61_0)(b:Tf78_0):EnvK:=EnvK.ofP (EnvK.of [⟨61,nt61,[⟨pa61_0,Fn61_0 a⟩]⟩,⟨78,nt78,[⟨pa78_0,Fn78_0 b⟩]⟩] noSeq) [(77,[1,2,3,4,5,6,7,8,9])]
def E16_0:EnvK:=E16_0g f61_0 f78_0
theorem eo16_0:E16_0.Ok Pg:=EnvK.ofP_ok (EnvK.of_ok noSeq_ok ⟨⟨io61_0,TT⟩,⟨io78_0,TT⟩,TT⟩) ⟨ptr77,TT⟩
abbrev Tf16_0:Type 1:=(α:Type)->BA->Int->Int->Int->Int->Int->Int->Int->Int->Int->(BA->Op α)->Op α
def f16_0g (a:Tf61_0)(b:Tf78_0)(α:Type)(c:BA)(d e g h i j l m o:Int)(k1:BA->Op α):Op α:=
 a α d
 (fun p=>a α e
 (fun q=>a α g
 (fun r=>a α h
 (fun s=>a α i
 (fun t=>a α j
 (fun w=>a α l
 (fun z=>a α m
 (fun A=>a α o
 (fun B=>b α [[DC.v (.string c)],[DC.v (.string p)],[DC.v (.string q)],[DC.v (.string r)],[DC.v (.string s)],[DC.v (.string t)],[DC.v (.string w)],[DC.v (.string z)],[DC.v (.string A)],[DC.v (.string B)]] (⟨#[32]⟩:BA)
 (fun C=>k1 C))))))))))
def f16_0 (α:Type)(a:BA)(b c d e g h i j l:Int)(k1:BA->Op α):Op α:=f16_0g f61_0 f78_0 α a b c d e g h i j l k1
def pa16_0:PT (List DV):=pA [pV true [dS,(dI .i64),(dI .i64),(dI .i64),(dI .i64),(dI .i64),(dI .i64),(dI .i64),(dI .i64),(dI .i64)]]
def Fn16_0 (v:Tf16_0)(α:Type)(k:RT α):BA->I9 (Op α):=fun a b c d e g h i j l=>v α a b c d e g h i j l (fun m=>ur16_0_0 k m)
def cm16_0g:MCode:=(.seq (.region r16_2 [] (tO [1])) (.seq (.region r16_4 [] (tO [1,3])) (.seq (.seq (.region r16_7 [] (tO [3,9,10,11])) (.block 0 (.loopU 10 td16_9 (.seq (.region r16_11 [] (tO [3,9,10,11,12])) (.seq (.cond (.tmp 12) .skip (.exit 0)) (.seq (.block 1 (.seq (.region r16_17 [] (tO [3,5,9,10,11])) (.region r16_18 [] (tO [3,9,10,11])))) (.region r16_19 [] (tO [3,9,10,11])))))))) (.seq (.region r16_21 [] (tO [2])) .ret))))
def cm16_0:MCode:=cm16_0g
theorem gm16_0:cm16_0.Good Pg E16_0 sh16:=⟨TT,TT,⟨TT,⟨TT,⟨TT,TT⟩,⟨TT,TT⟩,TT⟩,by decide⟩,TT,TT⟩
theorem fm16_0g (a:Tf61_0)(b:Tf78_0)(α:Type)(k:RT α):Fn16_0 (f16_0g a b) α k=pa16_0.unc fun ds=>fnM Pg (E16_0g a b) sh16 (cm16_0g ) rs16 k ds:=by kernel_rfl
theorem fm16_0:∀ (α:Type) (k:RT α),Fn16_0 f16_0 α k=pa16_0.unc fun ds=>fnM Pg E16_0 sh16 cm16_0 rs16 k ds:=fm16_0g f61_0 f78_0
theorem is16:FnIs Pg 16 nt16 tr16 tl16 cm16_0.erase rs16:=⟨Tryz.f16,Tryz.func16,rfl,by kernel_rfl,by kernel_rfl,by kernel_rfl⟩
theorem io16_0:InstOk Pg 16 nt16 ⟨pa16_0,Fn16_0 f16_0⟩:=inst_ok eo16_0 followsTry is16 ⟨⟨sh16,cm16_0,by kernel_rfl,gm16_0,fm16_0⟩⟩
abbrev nt178:Nat:=18
def sh178:SG:=[]
def r178_2:LA:=[⟨(some 4),(.mv (.const (.string ⟨#[]⟩))),none⟩,oO 5 (.mv (.const (.bool false)))]
def r178_5:LA:=[oM 6 0,oM 7 1,oO 8 (.call 248 [(.tmp 6),(.tmp 7)]),oO 9 (.pure (oB (.unOp .not 4 (.tmp 8)) 4))]
def r178_8:LA:=[oM 10 0,oM 4 10,oO 5 (.mv (.const (.bool false)))]
def r178_10:LA:=[oM 11 0,oM 12 0,oO 13 (.pure (oB (ln9 12) 3)),oM 14 1,oO 15 (.pure (oB (ln9 14) 3)),bT 16 .sub 13 15,oO 17 (.pure (oB (.slice 9 (.tmp 11) none (some (.tmp 16)) none) 9)),oM 4 17,oO 5 (.mv (.const (.bool true)))]
def tr178:TG:=[tT 0 [0,1],tT 1 [0,1,9],tT 2 [4,5],tT 3 [4,5]]
def tl178:TG:=[]
def rs178:List AResV:=[.tmp 4,.tmp 5]
def pr178_0_0:PT (List RV):=pRs [pR false [rD dS],pR false [rD dB]]
def ur178_0_0 {β:Type}(g:List RV->β):BA->Bool->β:=pr178_0_0.unc g
def E178_0g (a:Tf248_0):EnvK:=EnvK.of [⟨248,nt248,[⟨pa248_0,Fn248_0 a⟩]⟩] noSeq
def E178_0:EnvK:=E178_0g f248_0
theorem eo178_0:E178_0.Ok Pg:=EnvK.of_ok noSeq_ok ⟨⟨io248_0,TT⟩,TT⟩
abbrev Tf178_0:Type 1:=(α:Type)->BA->BA->(BA->Bool->Op α)->Op α
def f178_0g (c:Tf248_0)(α:Type)(a b:BA)(k1:BA->Bool->Op α):Op α:=
 c α a b
 (fun d=>cK (!d)
 (k1 a false)
 (gK (decide ((0:Int)<=0/\0<=((w64 (((ByteArray.size a:Nat):Int) - ((ByteArray.size b:Nat):Int))):Int)/\((w64 (((ByteArray.size a:Nat):Int) - ((ByteArray.size b:Nat):Int))):Int)<=((ByteArray.size a:Nat):Int))) (k1 (ByteArray.extract a 0 (Int.toNat (w64 (((ByteArray.size a:Nat):Int) - ((ByteArray.size b:Nat):Int))))) true)))
def f178_0 (α:Type)(a b:BA)(k1:BA->Bool->Op α):Op α:=f178_0g f248_0 α a b k1
def pa178_0:PT (List DV):=pA [pV false [dS],pV false [dS]]
def Fn178_0 (v:Tf178_0)(α:Type)(k:RT α):BA->BA->Op α:=fun a b=>v α a b (fun c d=>ur178_0_0 k c d)
def cm178_0g:MCode:=(.seq (.region r178_2 [] (tO [0,1])) (.seq (.seq (.region r178_5 [] (tO [0,1,9])) (.cond (.tmp 9) (.seq (.region r178_8 [] (tO [4,5])) .ret) .skip)) (.seq (.region r178_10 [] (tO [4,5])) .ret)))
def cm178_0:MCode:=cm178_0g
theorem gm178_0:cm178_0.Good Pg E178_0 sh178:=⟨TT,⟨TT,⟨TT,TT⟩,TT⟩,TT,TT⟩
theorem fm178_0g (a:Tf248_0)(α:Type)(k:RT α):Fn178_0 (f178_0g a) α k=pa178_0.unc fun ds=>fnM Pg (E178_0g a) sh178 (cm178_0g ) rs178 k ds:=by kernel_rfl
theorem fm178_0:∀ (α:Type) (k:RT α),Fn178_0 f178_0 α k=pa178_0.unc fun ds=>fnM Pg E178_0 sh178 cm178_0 rs178 k ds:=fm178_0g f248_0
theorem is178:FnIs Pg 178 nt178 tr178 tl178 cm178_0.erase rs178:=⟨Tryz.f178,Tryz.func178,rfl,by kernel_rfl,by kernel_rfl,by kernel_rfl⟩
theorem io178_0:InstOk Pg 178 nt178 ⟨pa178_0,Fn178_0 f178_0⟩:=inst_ok eo178_0 followsTry is178 ⟨⟨sh178,cm178_0,by kernel_rfl,gm178_0,fm178_0⟩⟩
abbrev nt276:Nat:=10
def sh276:SG:=[]
def r276_2:LA:=[oO 4 (.mv (.const (.bool false)))]
def r276_4:LA:=[oM 5 0,oM 6 1,oO 7 (.pure (oB (.unOp .neg 3 (.tmp 6)) 3)),oM 8 1,oO 9 (.call 215 [(.tmp 5),(.tmp 7),(.tmp 8)]),oM 4 9]
def tr276:TG:=[tT 0 [0,1],tT 1 [4]]
def tl276:TG:=[]
def rs276:List AResV:=[.tmp 4]
def pr276_0_0:PT (List RV):=pRs [pR false [rD dB]]
def ur276_0_0 {β:Type}(g:List RV->β):Bool->β:=pr276_0_0.unc g
def E276_0g (a:Tf215_0):EnvK:=EnvK.of [⟨215,nt215,[⟨pa215_0,Fn215_0 a⟩]⟩] noSeq
def E276_0:EnvK:=E276_0g f215_0
theorem eo276_0:E276_0.Ok Pg:=EnvK.of_ok noSeq_ok ⟨⟨io215_0,TT⟩,TT⟩
abbrev Tf276_0:Type 1:=(α:Type)->Int->Int->(Bool->Op α)->Op α
def f276_0g (b:Tf215_0)(α:Type)(c a:Int)(k1:Bool->Op α):Op α:=
 b α c (w64 (0 - a)) a
 (fun d=>k1 d)
def f276_0 (α:Type)(a b:Int)(k1:Bool->Op α):Op α:=f276_0g f215_0 α a b k1
def pa276_0:PT (List DV):=pA [vI,vI]
def Fn276_0 (v:Tf276_0)(α:Type)(k:RT α):Int->Int->Op α:=fun a b=>v α a b (fun c=>ur276_0_0 k c)
def cm276_0g:MCode:=(.seq (.region r276_2 [] (tO [0,1])) (.seq (.region r276_4 [] (tO [4])) .ret))
def cm276_0:MCode:=cm276_0g
theorem gm276_0:cm276_0.Good Pg E276_0 sh276:=⟨TT,TT,TT⟩
theorem fm276_0g (a:Tf215_0)(α:Type)(k:RT α):Fn276_0 (f276_0g a) α k=pa276_0.unc fun ds=>fnM Pg (E276_0g a) sh276 (cm276_0g ) rs276 k ds:=by kernel_rfl
theorem fm276_0:∀ (α:Type) (k:RT α),Fn276_0 f276_0 α k=pa276_0.unc fun ds=>fnM Pg E276_0 sh276 cm276_0 rs276 k ds:=fm276_0g f215_0
theorem is276:FnIs Pg 276 nt276 tr276 tl276 cm276_0.erase rs276:=⟨Tryz.f276,Tryz.func276,rfl,by kernel_rfl,by kernel_rfl,by kernel_rfl⟩
theorem io276_0:InstOk Pg 276 nt276 ⟨pa276_0,Fn276_0 f276_0⟩:=inst_ok eo276_0 followsTry is276 ⟨⟨sh276,cm276_0,by kernel_rfl,gm276_0,fm276_0⟩⟩
abbrev nt124:Nat:=27
def sh124:SG:=[(17,iT),(23,iT)]
def r124_2:LA:=[oO 5 (.box (.tmp 2)),mK 6 0]
def r124_6:LA:=[oM 8 0,oO 9 (.call 219 [.tmp 8]),oO 10 (.pure (oB (.unOp .not 4 (.tmp 9)) 4)),oM 7 10]
def r124_9:LA:=[mK 6 3]
def r124_11:LA:=[oM 12 1,oO 13 (.call 215 [(.tmp 12),(kI 1000),(kI 200000)]),oO 14 (.pure (oB (.unOp .not 4 (.tmp 13)) 4)),oM 15 14,oG 16 (.faddr 0 (.tmp 5)) 15 false,oG 17 (.load false 1 (.tmp 16)) 15 false,oG 18 (.call 215 [(.tmp 17),(kI 5000),(kI 80000)]) 15 false,oG 19 (.pure (oB (.unOp .not 4 (.tmp 18)) 4)) 15 false,oO 20 (.pick (.tmp 15) (.const (.bool true)) (.tmp 19)),oM 21 20,oG 22 (.faddr 1 (.tmp 5)) 21 false,oG 23 (.load false 1 (.tmp 22)) 21 false,oG 24 (.call 215 [(.tmp 23),(kI 0),(kI 9999)]) 21 false,oG 25 (.pure (oB (.unOp .not 4 (.tmp 24)) 4)) 21 false,oO 26 (.pick (.tmp 21) (.const (.bool true)) (.tmp 25)),oM 11 26]
def r124_14:LA:=[mK 6 2]
def r124_16:LA:=[mK 6 0]
def tr124:TG:=[tT 0 [0,1,5],tT 1 [1,5,7],tT 2 [6],tT 3 [11],tT 4 [6],tT 5 [6]]
def tl124:TG:=[]
def rs124:List AResV:=[.tmp 6]
def pr124_0_0:PT (List RV):=pRs [wI]
def ur124_0_0 {β:Type}(g:List RV->β):Int->β:=pr124_0_0.unc g
def E124_0g (a:Tf219_0)(b:Tf215_0):EnvK:=EnvK.of [⟨219,nt219,[⟨pa219_0,Fn219_0 a⟩]⟩,⟨215,nt215,[⟨pa215_0,Fn215_0 b⟩]⟩] noSeq
def E124_0:EnvK:=E124_0g f219_0 f215_0
theorem eo124_0:E124_0.Ok Pg:=EnvK.of_ok noSeq_ok ⟨⟨io219_0,TT⟩,⟨io215_0,TT⟩,TT⟩
abbrev Tf124_0:Type 1:=(α:Type)->BA->Int->Int->Int->(Int->Op α)->Op α
def f124_0g (a:Tf215_0)(b:Tf219_0)(α:Type)(c:BA)(d e g:Int)(k1:Int->Op α):Op α:=
 b α c
 (fun h=>cK (!h)
 (k1 3)
 (a α d 1000 200000
 (fun i=>cK (!i)
 (k1 2)
 (a α e 5000 80000
 (fun j=>cK (!j)
 (k1 2)
 (a α g 0 9999
 (fun l=>cK (!l)
 (k1 2)
 (k1 0))))))))
def f124_0 (α:Type)(a:BA)(b c d:Int)(k1:Int->Op α):Op α:=f124_0g f215_0 f219_0 α a b c d k1
def pa124_0:PT (List DV):=pA [pV false [dS],vI,pV true [(dI .i64),(dI .i64)]]
def Fn124_0 (v:Tf124_0)(α:Type)(k:RT α):BA->Int->Int->Int->Op α:=fun a b c d=>v α a b c d (fun e=>ur124_0_0 k e)
def cm124_0g:MCode:=(.seq (.region r124_2 [] (tO [0,1,5])) (.seq (.block 0 (.seq (.region r124_6 [] (tO [1,5,7])) (.cond (.tmp 7) (.seq (.region r124_9 [] (tO [6])) .ret) (.seq (.region r124_11 [] (tO [11])) (.cond (.tmp 11) (.seq (.region r124_14 [] (tO [6])) .ret) .skip))))) (.seq (.region r124_16 [] (tO [6])) .ret)))
def cm124_0:MCode:=cm124_0g
theorem gm124_0:cm124_0.Good Pg E124_0 sh124:=⟨TT,⟨TT,⟨TT,TT⟩,TT,⟨TT,TT⟩,TT⟩,TT,TT⟩
theorem fm124_0g (a:Tf219_0)(b:Tf215_0)(α:Type)(k:RT α):Fn124_0 (f124_0g b a) α k=pa124_0.unc fun ds=>fnM Pg (E124_0g a b) sh124 (cm124_0g ) rs124 k ds:=by kernel_rfl
theorem fm124_0:∀ (α:Type) (k:RT α),Fn124_0 f124_0 α k=pa124_0.unc fun ds=>fnM Pg E124_0 sh124 cm124_0 rs124 k ds:=fm124_0g f219_0 f215_0
theorem is124:FnIs Pg 124 nt124 tr124 tl124 cm124_0.erase rs124:=⟨Tryz.f124,Tryz.func124,rfl,by kernel_rfl,by kernel_rfl,by kernel_rfl⟩
theorem io124_0:InstOk Pg 124 nt124 ⟨pa124_0,Fn124_0 f124_0⟩:=inst_ok eo124_0 followsTry is124 ⟨⟨sh124,cm124_0,by kernel_rfl,gm124_0,fm124_0⟩⟩
abbrev nt79:Nat:=25
def sh79:SG:=[(15,iT),(21,iT)]
def r79_2:LA:=[oO 5 (.box (.tmp 2)),mK 6 0]
def r79_5:LA:=[oM 7 0,oO 8 (.call 108 [.tmp 7]),oO 9 (.pure (oB (.unOp .not 4 (.tmp 8)) 4))]
def r79_8:LA:=[mK 6 3]
def r79_11:LA:=[oM 10 1,oO 11 (.call 44 [(.tmp 10),(kI 1000),(kI 200000)]),oO 12 (.pure (oB (.unOp .not 4 (.tmp 11)) 4)),oM 13 12,oG 14 (.faddr 0 (.tmp 5)) 13 false,oG 15 (.load false 1 (.tmp 14)) 13 false,oG 16 (.call 44 [(.tmp 15),(kI 5000),(kI 80000)]) 13 false,oG 17 (.pure (oB (.unOp .not 4 (.tmp 16)) 4)) 13 false,oO 18 (.pick (.tmp 13) (.const (.bool true)) (.tmp 17)),oM 19 18,oG 20 (.faddr 1 (.tmp 5)) 19 false,oG 21 (.load false 1 (.tmp 20)) 19 false,oG 22 (.call 44 [(.tmp 21),(kI 0),(kI 9999)]) 19 false,oG 23 (.pure (oB (.unOp .not 4 (.tmp 22)) 4)) 19 false,oO 24 (.pick (.tmp 19) (.const (.bool true)) (.tmp 23))]
def r79_14:LA:=[mK 6 2]
def r79_16:LA:=[mK 6 0]
def tr79:TG:=[tT 0 [0,1,5],tT 1 [1,5,9],tT 2 [6],tT 3 [24],tT 4 [6],tT 5 [6]]
def tl79:TG:=[]
def rs79:List AResV:=[.tmp 6]
def pr79_0_0:PT (List RV):=pRs [wI]
def ur79_0_0 {β:Type}(g:List RV->β):Int->β:=pr79_0_0.unc g
def E79_0g (a:Tf108_0)(b:Tf44_0):EnvK:=EnvK.of [⟨108,nt108,[⟨pa108_0,Fn108_0 a⟩]⟩,⟨44,nt44,[⟨pa44_0,Fn44_0 b⟩]⟩] noSeq
def E79_0:EnvK:=E79_0g f108_0 f44_0
theorem eo79_0:E79_0.Ok Pg:=EnvK.of_ok noSeq_ok ⟨⟨io108_0,TT⟩,⟨io44_0,TT⟩,TT⟩
abbrev Tf79_0:Type 1:=(α:Type)->BA->Int->Int->Int->(Int->Op α)->Op α
def f79_0g (b:Tf108_0)(a:Tf44_0)(α:Type)(c:BA)(d e g:Int)(k1:Int->Op α):Op α:=
 b α c
 (fun h=>cK (!h)
 (k1 3)
 (a α d 1000 200000
 (fun i=>cK (!i)
 (k1 2)
 (a α e 5000 80000
 (fun j=>cK (!j)
 (k1 2)
 (a α g 0 9999
 (fun l=>cK (!l)
 (k1 2)
 (k1 0))))))))
def f79_0 (α:Type)(a:BA)(b c d:Int)(k1:Int->Op α):Op α:=f79_0g f108_0 f44_0 α a b c d k1
def pa79_0:PT (List DV):=pA [pV false [dS],vI,pV true [(dI .i64),(dI .i64)]]
def Fn79_0 (v:Tf79_0)(α:Type)(k:RT α):BA->Int->Int->Int->Op α:=fun a b c d=>v α a b c d (fun e=>ur79_0_0 k e)
def cm79_0g:MCode:=(.seq (.region r79_2 [] (tO [0,1,5])) (.seq (.seq (.region r79_5 [] (tO [1,5,9])) (.cond (.tmp 9) (.seq (.region r79_8 [] (tO [6])) .ret) .skip)) (.seq (.seq (.region r79_11 [] (tO [24])) (.cond (.tmp 24) (.seq (.region r79_14 [] (tO [6])) .ret) .skip)) (.seq (.region r79_16 [] (tO [6])) .ret))))
def cm79_0:MCode:=cm79_0g
theorem gm79_0:cm79_0.Good Pg E79_0 sh79:=⟨TT,⟨TT,⟨TT,TT⟩,TT⟩,⟨TT,⟨TT,TT⟩,TT⟩,TT,TT⟩
theorem fm79_0g (a:Tf108_0)(b:Tf44_0)(α:Type)(k:RT α):Fn79_0 (f79_0g a b) α k=pa79_0.unc fun ds=>fnM Pg (E79_0g a b) sh79 (cm79_0g ) rs79 k ds:=by kernel_rfl
theorem fm79_0:∀ (α:Type) (k:RT α),Fn79_0 f79_0 α k=pa79_0.unc fun ds=>fnM Pg E79_0 sh79 cm79_0 rs79 k ds:=fm79_0g f108_0 f44_0
theorem is79:FnIs Pg 79 nt79 tr79 tl79 cm79_0.erase rs79:=⟨Tryz.f79,Tryz.func79,rfl,by kernel_rfl,by kernel_rfl,by kernel_rfl⟩
theorem io79_0:InstOk Pg 79 nt79 ⟨pa79_0,Fn79_0 f79_0⟩:=inst_ok eo79_0 followsTry is79 ⟨⟨sh79,cm79_0,by kernel_rfl,gm79_0,fm79_0⟩⟩
abbrev nt69:Nat:=27
def sh69:SG:=[]
def r69_2:LA:=[⟨(some 2),(.mv (.const (.string ⟨#[]⟩))),none⟩]
def r69_5:LA:=[oM 6 0,bK 7 .eql 6 0]
def r69_8:LA:=[⟨(some 2),(.mv (.const (.string ⟨#[48]⟩))),none⟩]
def r69_10:LA:=[⟨(some 3),(.mv (.const (.string ⟨#[]⟩))),none⟩,⟨(some 4),(.mv (.const (.string ⟨#[]⟩))),none⟩]
def r69_13:LA:=[oM 8 0,bK 9 .lss 8 0]
def r69_15:LA:=[⟨(some 4),(.mv (.const (.string ⟨#[45]⟩))),none⟩]
def td69_18:OT:=(tO [0,3,4])
def r69_21:LA:=[oM 10 0,bK 11 .neq 10 0]
def r69_25:LA:=[oM 12 0,bK 13 .rem 12 10,oM 5 13]
def r69_27:LA:=[oM 14 5,oO 15 (.call 164 [.tmp 14]),oO 16 (.bin .add 3 (kI 48) (.tmp 15)),oO 17 (.pure (oB (.convert 3 5 (.tmp 16)) 5)),oO 18 (.bslice 1 1 [(.v (.int .u8 0))] [(0,(.tmp 17))]),oO 19 (.str (.tmp 18)),oM 20 3,oO 21 (.bin .add 9 (.tmp 19) (.tmp 20)),oM 3 21]
def r69_28:LA:=[oM 22 0,bK 23 .quo 22 10,oM 0 23]
def r69_30:LA:=[oM 24 4,oM 25 3,oO 26 (.bin .add 9 (.tmp 24) (.tmp 25)),oM 2 26]
def tr69:TG:=[tT 0 [0],tT 1 [0,7],tT 2 [2],tT 3 [0,3,4],tT 4 [0,3,4,9],tT 5 [0,3,4],tT 6 [0,3,4,11],tT 7 [0,3,4,5],tT 8 [0,3,4],tT 9 [0,3,4],tT 10 [2]]
def tl69:TG:=[tT 6 [0,3,4]]
def rs69:List AResV:=[.tmp 2]
def p69_0_0:PT St:=pS [sI 0,sY 3 dS,sY 4 dS] []
def u69_0_0 {β:Type}(g:St->β):Int->BA->BA->β:=p69_0_0.unc g
def p69_0_1:PT St:=pS [sI 0,sY 3 dS,sY 4 dS,sY 9 dB] []
def u69_0_1 {β:Type}(g:St->β):Int->BA->BA->Bool->β:=p69_0_1.unc g
def p69_0_2:PT St:=pS [sI 0,sY 3 dS,sY 4 dS,sY 11 dB] []
def u69_0_2 {β:Type}(g:St->β):Int->BA->BA->Bool->β:=p69_0_2.unc g
def pr69_0_0:PT (List RV):=pRs [pR false [rD dS]]
def ur69_0_0 {β:Type}(g:List RV->β):BA->β:=pr69_0_0.unc g
def E69_0g (a:Tf164_0):EnvK:=EnvK.of [⟨164,nt164,[⟨pa164_0,Fn164_0 a⟩]⟩] noSeq
def E69_0:EnvK:=E69_0g f164_0
theorem eo69_0:E69_0.Ok Pg:=EnvK.of_ok noSeq_ok ⟨⟨io164_0,TT⟩,TT⟩
def c69_0_18g:MCode:=(.seq (.seq (.region r69_21 [] (tO [0,3,4,11])) (.cond (.tmp 11) .skip (.exit 0))) (.block 1 (.seq (.region r69_25 [] (tO [0,3,4,5])) (.seq (.region r69_27 [] (tO [0,3,4])) (.region r69_28 [] (tO [0,3,4]))))))
def c69_0_18:MCode:=c69_0_18g
theorem g69_0_18:c69_0_18.Good Pg E69_0 sh69:=⟨⟨TT,TT,TT⟩,TT,TT,TT⟩
def S69_0_1g (d:Tf164_0)(α:Type)(a:Int)(b:BA)(kn:Int->BA->Op α)(k1:Int->BA->Bool->Op α):Op α:=
 cK (a != 0)
 (d α (Int.tmod a 10)
 (fun c=>gK (!decide (IntKind.i64.max < ((ByteArray.size (strOf [(IntKind.wrap .u8 ((w64 (48+c))))])+ByteArray.size b:Nat):Int))) (kn (w64 (Int.tdiv a 10)) ((strOf [(IntKind.wrap .u8 ((w64 (48+c))))])++b))))
 (k1 a b (a != 0))
def S69_0_1 (α:Type)(a:Int)(b:BA)(kn:Int->BA->Op α)(k1:Int->BA->Bool->Op α):Op α:=S69_0_1g f164_0 α a b kn k1
def R69_0_1 (α:Type)(k1:Int->BA->Bool->Op α):Nat->Int->BA->Op α
 | 0,_,_=>none
 | n+1,a,b=>S69_0_1 α a b (R69_0_1 α k1 n) k1
def L69_0_1 (α:Type)(k1:Int->BA->Bool->Op α)(a:Int)(b:BA):Op α:=R69_0_1 α k1 fuel a b
abbrev TL69_0_1:Type 1:=(α:Type)->(Int->BA->Bool->Op α)->Int->BA->Op α
def F69_0_1 (v:TL69_0_1)(α:Type)(K:KT α):Int->BA->BA->Op α:=fun a b c=>v α (fun d e g=>u69_0_2 (K (.exit 0)) d e c g) a b
theorem r69_0_1g (d:Tf164_0)(α:Type)(K:KT α)(Kn:SK α)(a:Int)(b c:BA):u69_0_0 (fun σ=>runM Pg (E69_0g d) sh69 (c69_0_18g ) (thenK (fun σ=>tidyK td69_18 σ Kn) K) σ) a b c=S69_0_1g d α a b (fun a b=>u69_0_0 Kn a b c) (fun e g h=>u69_0_2 (K (.exit 0)) e g c h):=by kernel_rfl
theorem r69_0_1 (α:Type)(K:KT α)(Kn:SK α)(a:Int)(b c:BA):u69_0_0 (fun σ=>runM Pg E69_0 sh69 c69_0_18 (thenK (fun σ=>tidyK td69_18 σ Kn) K) σ) a b c=S69_0_1 α a b (fun a b=>u69_0_0 Kn a b c) (fun d e g=>u69_0_2 (K (.exit 0)) d e c g):=r69_0_1g f164_0 α K Kn a b c
theorem t69_0_1 (α:Type)(K:KT α):∀ (n:Nat) (a:Int) (b c:BA),R69_0_1 α (fun d e g=>u69_0_2 (K (.exit 0)) d e c g) n a b=u69_0_0 (loopT (runM Pg E69_0 sh69 c69_0_18) td69_18 K n) a b c:=by
 intro n
 induction n with
 | zero=>intros;rfl
 | succ n ih=>intro a b c;exact (congrArg (fun kn=>S69_0_1 α a b kn (fun d e g=>u69_0_2 (K (.exit 0)) d e c g)) (funext fun a=>funext fun b=>ih a b c)).trans (r69_0_1 α K (loopT (runM Pg E69_0 sh69 c69_0_18) td69_18 K n) a b c).symm
theorem m69_0_1:∀ (α:Type) (K:KT α),F69_0_1 L69_0_1 α K=p69_0_0.unc fun σ=>loopT (runM Pg E69_0 sh69 c69_0_18) td69_18 K fuel σ:=fun α K=>by funext a b c;exact t69_0_1 α K fuel a b c
def c69_0_11g:MCode:=(.seq (.region r69_13 [] (tO [0,3,4,9])) (.cond (.tmp 9) (.region r69_15 [] (tO [0,3,4])) .skip))
def c69_0_11:MCode:=c69_0_11g
theorem g69_0_11:c69_0_11.Good Pg E69_0 sh69:=⟨TT,TT,TT⟩
abbrev TJ69_0_0:Type 1:=(α:Type)->Int->(Op α)->(Bool->Op α)->Op α
def J69_0_0g (α:Type)(a:Int)(k1:Op α)(k2:Bool->Op α):Op α:=
 cK (decide (a < 0))
 (k1)
 (k2 (decide (a < 0)))
def J69_0_0 (α:Type)(a:Int)(k1:Op α)(k2:Bool->Op α):Op α:=J69_0_0g α a k1 k2
def F69_0_0 (v:TJ69_0_0)(α:Type)(K:KT α):Int->BA->BA->Op α:=fun a b c=>v α a (u69_0_0 (K .normal) a b (⟨#[45]⟩:BA)) (fun d=>u69_0_1 (K .normal) a b c d)
theorem m69_0_0g (a:Tf164_0)(α:Type)(K:KT α):F69_0_0 (J69_0_0g ) α K=p69_0_0.unc fun σ=>runM Pg (E69_0g a) sh69 (c69_0_11g ) K σ:=by kernel_rfl
theorem m69_0_0:∀ (α:Type) (K:KT α),F69_0_0 J69_0_0 α K=p69_0_0.unc fun σ=>runM Pg E69_0 sh69 c69_0_11 K σ:=m69_0_0g f164_0
abbrev Tf69_0:Type 1:=(α:Type)->Int->(BA->Op α)->Op α
def f69_0g (e:TJ69_0_0)(b:TL69_0_1)(α:Type)(a:Int)(k1:BA->Op α):Op α:=
 cK (a == 0)
 (k1 (⟨#[48]⟩:BA))
 (e α a
 (b α
 (fun g c h=>gK (!decide (IntKind.i64.max < ((ByteArray.size (⟨#[45]⟩:BA)+ByteArray.size c:Nat):Int))) (k1 ((⟨#[45]⟩:BA)++c))) a (⟨#[]⟩:BA))
 (fun i=>b α
 (fun j d l=>gK (!decide (IntKind.i64.max < ((ByteArray.size (⟨#[]⟩:BA)+ByteArray.size d:Nat):Int))) (k1 ((⟨#[]⟩:BA)++d))) a (⟨#[]⟩:BA)))
def f69_0 (α:Type)(a:Int)(k1:BA->Op α):Op α:=f69_0g J69_0_0 L69_0_1 α a k1
def pa69_0:PT (List DV):=pA [vI]
def Fn69_0 (v:Tf69_0)(α:Type)(k:RT α):Int->Op α:=fun a=>v α a (fun b=>ur69_0_0 k b)
def cm69_0g (a:TJ69_0_0)(b:TL69_0_1):MCode:=(.seq (.region r69_2 [] (tO [0])) (.seq (.seq (.region r69_5 [] (tO [0,7])) (.cond (.tmp 7) (.seq (.region r69_8 [] (tO [2])) .ret) .skip)) (.seq (.region r69_10 [] (tO [0,3,4])) (.seq (.mark [⟨p69_0_0,F69_0_0 a⟩] c69_0_11) (.seq (.block 0 (.loop td69_18 [⟨p69_0_0,F69_0_1 b⟩] c69_0_18)) (.seq (.region r69_30 [] (tO [2])) .ret))))))
def cm69_0:MCode:=cm69_0g J69_0_0 L69_0_1
theorem gm69_0:cm69_0.Good Pg E69_0 sh69:=⟨TT,⟨TT,⟨TT,TT⟩,TT⟩,TT,⟨g69_0_11,m69_0_0,TT⟩,⟨g69_0_18,m69_0_1,TT⟩,TT,TT⟩
theorem fm69_0g (c:Tf164_0)(a:TJ69_0_0)(b:TL69_0_1)(α:Type)(k:RT α):Fn69_0 (f69_0g a b) α k=pa69_0.unc fun ds=>fnM Pg (E69_0g c) sh69 (cm69_0g a b) rs69 k ds:=by kernel_rfl
theorem fm69_0:∀ (α:Type) (k:RT α),Fn69_0 f69_0 α k=pa69_0.unc fun ds=>fnM Pg E69_0 sh69 cm69_0 rs69 k ds:=fm69_0g f164_0 J69_0_0 L69_0_1
theorem is69:FnIs Pg 69 nt69 tr69 tl69 cm69_0.erase rs69:=⟨Tryz.f69,Tryz.func69,rfl,by kernel_rfl,by kernel_rfl,by kernel_rfl⟩
theorem io69_0:InstOk Pg 69 nt69 ⟨pa69_0,Fn69_0 f69_0⟩:=inst_ok eo69_0 followsTry is69 ⟨⟨sh69,cm69_0,by kernel_rfl,gm69_0,fm69_0⟩⟩
abbrev nt88:Nat:=11
def sh88:SG:=[]
def r88_2:LA:=[⟨(some 4),(.mv (.const (.string ⟨#[]⟩))),none⟩,oO 5 (.mv (.const (.bool false)))]
def r88_4:LA:=[oM 6 0,oM 7 1,oO 8 (.call 178 [(.tmp 6),(.tmp 7)]),oO 9 (.extract 0 (.tmp 8)),oO 10 (.extract 1 (.tmp 8)),oM 4 9,oM 5 10]
def tr88:TG:=[tT 0 [0,1],tT 1 [4,5]]
def tl88:TG:=[]
def rs88:List AResV:=[.tmp 4,.tmp 5]
def pr88_0_0:PT (List RV):=pRs [pR false [rD dS],pR false [rD dB]]
def ur88_0_0 {β:Type}(g:List RV->β):BA->Bool->β:=pr88_0_0.unc g
def E88_0g (a:Tf178_0):EnvK:=EnvK.of [⟨178,nt178,[⟨pa178_0,Fn178_0 a⟩]⟩] noSeq
def E88_0:EnvK:=E88_0g f178_0
theorem eo88_0:E88_0.Ok Pg:=EnvK.of_ok noSeq_ok ⟨⟨io178_0,TT⟩,TT⟩
abbrev Tf88_0:Type 1:=(α:Type)->BA->BA->(BA->Bool->Op α)->Op α
def f88_0g (a:Tf178_0)(α:Type)(b c:BA)(k1:BA->Bool->Op α):Op α:=
 a α b c
 (fun d e=>k1 d e)
def f88_0 (α:Type)(a b:BA)(k1:BA->Bool->Op α):Op α:=f88_0g f178_0 α a b k1
def pa88_0:PT (List DV):=pA [pV false [dS],pV false [dS]]
def Fn88_0 (v:Tf88_0)(α:Type)(k:RT α):BA->BA->Op α:=fun a b=>v α a b (fun c d=>ur88_0_0 k c d)
def cm88_0g:MCode:=(.seq (.region r88_2 [] (tO [0,1])) (.seq (.region r88_4 [] (tO [4,5])) .ret))
def cm88_0:MCode:=cm88_0g
theorem gm88_0:cm88_0.Good Pg E88_0 sh88:=⟨TT,TT,TT⟩
theorem fm88_0g (a:Tf178_0)(α:Type)(k:RT α):Fn88_0 (f88_0g a) α k=pa88_0.unc fun ds=>fnM Pg (E88_0g a) sh88 (cm88_0g ) rs88 k ds:=by kernel_rfl
theorem fm88_0:∀ (α:Type) (k:RT α),Fn88_0 f88_0 α k=pa88_0.unc fun ds=>fnM Pg E88_0 sh88 cm88_0 rs88 k ds:=fm88_0g f178_0
theorem is88:FnIs Pg 88 nt88 tr88 tl88 cm88_0.erase rs88:=⟨Tryz.f88,Tryz.func88,rfl,by kernel_rfl,by kernel_rfl,by kernel_rfl⟩
theorem io88_0:InstOk Pg 88 nt88 ⟨pa88_0,Fn88_0 f88_0⟩:=inst_ok eo88_0 followsTry is88 ⟨⟨sh88,cm88_0,by kernel_rfl,gm88_0,fm88_0⟩⟩
abbrev nt245:Nat:=24
def sh245:SG:=[(7,iT),(13,iT),(20,iT),(22,iT)]
def r245_2:LA:=[oO 2 (.box (.tmp 0)),mK 4 0]
def r245_6:LA:=[fA 6 0 2,lD 7 6,oM 8 1,oO 9 (.call 276 [(.tmp 7),(.tmp 8)]),oO 10 (.pure (oB (.unOp .not 4 (.tmp 9)) 4)),oM 11 10,oG 12 (.faddr 1 (.tmp 2)) 11 false,oG 13 (.load false 1 (.tmp 12)) 11 false,oG 14 (.mv (.tmp 1)) 11 false,oG 15 (.call 276 [(.tmp 13),(.tmp 14)]) 11 false,oG 16 (.pure (oB (.unOp .not 4 (.tmp 15)) 4)) 11 false,oO 17 (.pick (.tmp 11) (.const (.bool true)) (.tmp 16)),oM 5 17]
def r245_9:LA:=[mK 4 2]
def r245_11:LA:=[fA 19 0 2,lD 20 19,fA 21 1 2,lD 22 21,bT 23 .gtr 20 22,oM 18 23]
def r245_14:LA:=[mK 4 10]
def r245_16:LA:=[mK 4 0]
def tr245:TG:=[tT 0 [1,2],tT 1 [2,5],tT 2 [4],tT 3 [18],tT 4 [4],tT 5 [4]]
def tl245:TG:=[]
def rs245:List AResV:=[.tmp 4]
def p245_0_0:PT St:=pS [sI 1,sP 2] [eBox 2 [xI,xI]]
def u245_0_0 {β:Type}(g:St->β):Int->Int->Int->β:=p245_0_0.unc g
def p245_0_1:PT St:=pS [sP 2,sY 5 dB] [eBox 2 [xI,xI]]
def u245_0_1 {β:Type}(g:St->β):Bool->Int->Int->β:=p245_0_1.unc g
def pr245_0_0:PT (List RV):=pRs [wI]
def ur245_0_0 {β:Type}(g:List RV->β):Int->β:=pr245_0_0.unc g
def E245_0g (a:Tf276_0):EnvK:=EnvK.of [⟨276,nt276,[⟨pa276_0,Fn276_0 a⟩]⟩] noSeq
def E245_0:EnvK:=E245_0g f276_0
theorem eo245_0:E245_0.Ok Pg:=EnvK.of_ok noSeq_ok ⟨⟨io276_0,TT⟩,TT⟩
def c245_0_5g:MCode:=(.region r245_6 [] (tO [2,5]))
def c245_0_5:MCode:=c245_0_5g
theorem g245_0_5:c245_0_5.Good Pg E245_0 sh245:=TT
abbrev TJ245_0_0:Type 1:=(α:Type)->Int->Int->Int->(Bool->Op α)->Op α
def J245_0_0g (a:Tf276_0)(α:Type)(b c d:Int)(k1:Bool->Op α):Op α:=
 a α c b
 (fun e=>cK (!e)
 (k1 true)
 (a α d b
 (fun g=>k1 (!g))))
def J245_0_0 (α:Type)(a b c:Int)(k1:Bool->Op α):Op α:=J245_0_0g f276_0 α a b c k1
def F245_0_0 (v:TJ245_0_0)(α:Type)(K:KT α):Int->Int->Int->Op α:=fun c a b=>v α c a b (fun d=>u245_0_1 (K .normal) d a b)
theorem m245_0_0g (a:Tf276_0)(α:Type)(K:KT α):F245_0_0 (J245_0_0g a) α K=p245_0_0.unc fun σ=>runM Pg (E245_0g a) sh245 (c245_0_5g ) K σ:=by kernel_rfl
theorem m245_0_0:∀ (α:Type) (K:KT α),F245_0_0 J245_0_0 α K=p245_0_0.unc fun σ=>runM Pg E245_0 sh245 c245_0_5 K σ:=m245_0_0g f276_0
abbrev Tf245_0:Type 1:=(α:Type)->Int->Int->Int->(Int->Op α)->Op α
def f245_0g (c:TJ245_0_0)(α:Type)(a b d:Int)(k1:Int->Op α):Op α:=
 c α d a b
 (fun e=>cK e
 (k1 2)
 (cK (decide (b < a))
 (k1 10)
 (k1 0)))
def f245_0 (α:Type)(a b c:Int)(k1:Int->Op α):Op α:=f245_0g J245_0_0 α a b c k1
def pa245_0:PT (List DV):=pA [pV true [(dI .i64),(dI .i64)],vI]
def Fn245_0 (v:Tf245_0)(α:Type)(k:RT α):Int->Int->Int->Op α:=fun a b c=>v α a b c (fun d=>ur245_0_0 k d)
def cm245_0g (a:TJ245_0_0):MCode:=(.seq (.region r245_2 [] (tO [1,2])) (.seq (.block 0 (.seq (.mark [⟨p245_0_0,F245_0_0 a⟩] c245_0_5) (.cond (.tmp 5) (.seq (.region r245_9 [] (tO [4])) .ret) (.seq (.region r245_11 [] (tO [18])) (.cond (.tmp 18) (.seq (.region r245_14 [] (tO [4])) .ret) .skip))))) (.seq (.region r245_16 [] (tO [4])) .ret)))
def cm245_0:MCode:=cm245_0g J245_0_0
theorem gm245_0:cm245_0.Good Pg E245_0 sh245:=⟨TT,⟨⟨g245_0_5,m245_0_0,TT⟩,⟨TT,TT⟩,TT,⟨TT,TT⟩,TT⟩,TT,TT⟩
theorem fm245_0g (b:Tf276_0)(a:TJ245_0_0)(α:Type)(k:RT α):Fn245_0 (f245_0g a) α k=pa245_0.unc fun ds=>fnM Pg (E245_0g b) sh245 (cm245_0g a) rs245 k ds:=by kernel_rfl
theorem fm245_0:∀ (α:Type) (k:RT α),Fn245_0 f245_0 α k=pa245_0.unc fun ds=>fnM Pg E245_0 sh245 cm245_0 rs245 k ds:=fm245_0g f276_0 J245_0_0
theorem is245:FnIs Pg 245 nt245 tr245 tl245 cm245_0.erase rs245:=⟨Tryz.f245,Tryz.func245,rfl,by kernel_rfl,by kernel_rfl,by kernel_rfl⟩
theorem io245_0:InstOk Pg 245 nt245 ⟨pa245_0,Fn245_0 f245_0⟩:=inst_ok eo245_0 followsTry is245 ⟨⟨sh245,cm245_0,by kernel_rfl,gm245_0,fm245_0⟩⟩
abbrev nt18:Nat:=45
def sh18:SG:=[(7,[.str]),(9,iT),(11,iS 2),(16,[.str,.int .i64,.int .i64,.int .i64,.int .i64,.int .i64,.int .i64,.int .i64,.int .i64,.int .i64]),(25,iT),(32,iT),(39,iT),(43,iT)]
def r18_2:LA:=[oO 1 (.box (.tmp 0)),mK 2 0]
def r18_5:LA:=[fA 6 0 1,lD 7 6,fA 8 1 1,lD 9 8,fA 10 2 1,lA 11 2 10,oO 12 (.call 79 [(.tmp 7),(.tmp 9),(.tmp 11)]),oM 3 12]
def r18_7:LA:=[oM 13 3,bK 14 .neq 13 0]
def r18_10:LA:=[oM 15 3,oM 2 15]
def r18_12:LA:=[lA 16 10 1,oO 17 (.call 80 [.tmp 16]),oO 4 (.alloc (zI 6)),sD 6 4 17]
def r18_15:LA:=[mK 5 0]
def td18_17:OT:=(tO [4,5])
def r18_20:LA:=[oM 18 5,bK 19 .lss 18 3]
def r18_26:LA:=[oM 22 5,oO 23 (.iaddr 2 (some 3) (.tmp 4) (.tmp 22)),fA 24 0 23,lD 25 24,oO 26 (.call 44 [(.tmp 25),(kI (-1048576)),(kI 1048576)]),oO 27 (.pure (oB (.unOp .not 4 (.tmp 26)) 4)),oM 28 27,oG 29 (.mv (.tmp 5)) 28 false,oG 30 (.iaddr 2 (some 3) (.tmp 4) (.tmp 29)) 28 false,oG 31 (.faddr 1 (.tmp 30)) 28 false,oG 32 (.load false 1 (.tmp 31)) 28 false,oG 33 (.call 44 [(.tmp 32),(kI (-1048576)),(kI 1048576)]) 28 false,oG 34 (.pure (oB (.unOp .not 4 (.tmp 33)) 4)) 28 false,oO 35 (.pick (.tmp 28) (.const (.bool true)) (.tmp 34))]
def r18_29:LA:=[mK 2 2]
def r18_31:LA:=[oM 36 5,oO 37 (.iaddr 2 (some 3) (.tmp 4) (.tmp 36)),fA 38 0 37,lD 39 38,oM 40 5,oO 41 (.iaddr 2 (some 3) (.tmp 4) (.tmp 40)),fA 42 1 41,lD 43 42,bT 44 .gtr 39 43]
def r18_34:LA:=[mK 2 10]
def r18_35:LA:=[oM 20 5,bK 21 .add 20 1,oM 5 21]
def r18_37:LA:=[mK 2 0]
def tr18:TG:=[tT 0 [1],tT 1 [1,3],tT 2 [1,3,14],tT 3 [2],tT 4 [4],tT 5 [4,5],tT 6 [4,5,19],tT 8 [4,5,35],tT 9 [2],tT 10 [4,5,44],tT 11 [2],tT 7 [4,5],tT 12 [2]]
def tl18:TG:=[tT 6 [4,5]]
def rs18:List AResV:=[.tmp 2]
def p18_0_0:PT St:=pS [sP 4,sI 5,sY 19 dB] [eBox 4 (xs 6)]
def u18_0_0 {β:Type}(g:St->β):Int->Bool->I6 β:=p18_0_0.unc g
def p18_0_1:PT St:=pS [sP 4,sI 5,sY 35 dB] [eBox 4 (xs 6)]
def u18_0_1 {β:Type}(g:St->β):Int->Bool->I6 β:=p18_0_1.unc g
def p18_0_2:PT St:=pS [sP 4,sI 5,sY 44 dB] [eBox 4 (xs 6)]
def u18_0_2 {β:Type}(g:St->β):Int->Bool->I6 β:=p18_0_2.unc g
def p18_0_3:PT St:=pS [sP 4,sI 5] [eBox 4 (xs 6)]
def u18_0_3 {β:Type}(g:St->β):I7 β:=p18_0_3.unc g
def p18_0_4:PT St:=pS [sI 2] []
def u18_0_4 {β:Type}(g:St->β):Int->β:=p18_0_4.unc g
def pr18_0_0:PT (List RV):=pRs [wI]
def ur18_0_0 {β:Type}(g:List RV->β):Int->β:=pr18_0_0.unc g
def E18_0g (a:Tf79_0)(b:Tf80_0)(c:Tf44_0):EnvK:=EnvK.of [⟨79,nt79,[⟨pa79_0,Fn79_0 a⟩]⟩,⟨80,nt80,[⟨pa80_0,Fn80_0 b⟩]⟩,⟨44,nt44,[⟨pa44_0,Fn44_0 c⟩]⟩] noSeq
def E18_0:EnvK:=E18_0g f79_0 f80_0 f44_0
theorem eo18_0:E18_0.Ok Pg:=EnvK.of_ok noSeq_ok ⟨⟨io79_0,TT⟩,⟨io80_0,TT⟩,⟨io44_0,TT⟩,TT⟩
def c18_0_30g:MCode:=(.region r18_31 [] (tO [4,5,44]))
def c18_0_30:MCode:=c18_0_30g
theorem g18_0_30:c18_0_30.Good Pg E18_0 sh18:=TT
abbrev TJ18_0_1:Type 1:=(α:Type)->Int->Int->Int->Int->Int->Int->Int->(Bool->Op α)->Op α
def J18_0_1g (α:Type)(a b c d e g h:Int)(k1:Bool->Op α):Op α:=
 cK (a == 2)
 (cK (a == 2)
 (k1 (decide (h < g)))
 (cK (a == 1)
 (k1 (decide (e < g)))
 (cK (a == 0)
 (k1 (decide (c < g)))
 (none))))
 (cK (a == 1)
 (cK (a == 2)
 (k1 (decide (h < d)))
 (cK (a == 1)
 (k1 (decide (e < d)))
 (cK (a == 0)
 (k1 (decide (c < d)))
 (none))))
 (cK (a == 0)
 (cK (a == 2)
 (k1 (decide (h < b)))
 (cK (a == 1)
 (k1 (decide (e < b)))
 (cK (a == 0)
 (k1 (decide (c < b)))
 (none))))
 (none)))
def J18_0_1 (α:Type)(a b c d e g h:Int)(k1:Bool->Op α):Op α:=J18_0_1g α a b c d e g h k1
def F18_0_1 (v:TJ18_0_1)(α:Type)(K:KT α):Int->Bool->I6 (Op α):=fun a j b c d e g h=>v α a b c d e g h (fun i=>u18_0_2 (K .normal) a i b c d e g h)
theorem m18_0_1g (a:Tf79_0)(b:Tf80_0)(c:Tf44_0)(α:Type)(K:KT α):F18_0_1 (J18_0_1g ) α K=p18_0_1.unc fun σ=>runM Pg (E18_0g a b c) sh18 (c18_0_30g ) K σ:=by kernel_rfl
theorem m18_0_1:∀ (α:Type) (K:KT α),F18_0_1 J18_0_1 α K=p18_0_1.unc fun σ=>runM Pg E18_0 sh18 c18_0_30 K σ:=m18_0_1g f79_0 f80_0 f44_0
def c18_0_25g:MCode:=(.region r18_26 [] (tO [4,5,35]))
def c18_0_25:MCode:=c18_0_25g
theorem g18_0_25:c18_0_25.Good Pg E18_0 sh18:=TT
abbrev TJ18_0_0:Type 1:=(α:Type)->Int->Int->Int->Int->Int->Int->Int->(Bool->Op α)->Op α
def J18_0_0g (a:Tf44_0)(α:Type)(b g c h d i e:Int)(k1:Bool->Op α):Op α:=
 cK (b == 2)
 (a α i (-1048576) 1048576
 (fun j=>cK (!j)
 (k1 true)
 (cK (b == 2)
 (a α e (-1048576) 1048576
 (fun l=>k1 (!l)))
 (cK (b == 1)
 (a α d (-1048576) 1048576
 (fun m=>k1 (!m)))
 (cK (b == 0)
 (a α c (-1048576) 1048576
 (fun o=>k1 (!o)))
 (none))))))
 (cK (b == 1)
 (a α h (-1048576) 1048576
 (fun p=>cK (!p)
 (k1 true)
 (cK (b == 2)
 (a α e (-1048576) 1048576
 (fun q=>k1 (!q)))
 (cK (b == 1)
 (a α d (-1048576) 1048576
 (fun r=>k1 (!r)))
 (cK (b == 0)
 (a α c (-1048576) 1048576
 (fun s=>k1 (!s)))
 (none))))))
 (cK (b == 0)
 (a α g (-1048576) 1048576
 (fun t=>cK (!t)
 (k1 true)
 (cK (b == 2)
 (a α e (-1048576) 1048576
 (fun w=>k1 (!w)))
 (cK (b == 1)
 (a α d (-1048576) 1048576
 (fun z=>k1 (!z)))
 (cK (b == 0)
 (a α c (-1048576) 1048576
 (fun A=>k1 (!A)))
 (none))))))
 (none)))
def J18_0_0 (α:Type)(a b c d e g h:Int)(k1:Bool->Op α):Op α:=J18_0_0g f44_0 α a b c d e g h k1
def F18_0_0 (v:TJ18_0_0)(α:Type)(K:KT α):Int->Bool->I6 (Op α):=fun a j b c d e g h=>v α a b c d e g h (fun i=>u18_0_1 (K .normal) a i b c d e g h)
theorem m18_0_0g (b:Tf79_0)(c:Tf80_0)(a:Tf44_0)(α:Type)(K:KT α):F18_0_0 (J18_0_0g a) α K=p18_0_0.unc fun σ=>runM Pg (E18_0g b c a) sh18 (c18_0_25g ) K σ:=by kernel_rfl
theorem m18_0_0:∀ (α:Type) (K:KT α),F18_0_0 J18_0_0 α K=p18_0_0.unc fun σ=>runM Pg E18_0 sh18 c18_0_25 K σ:=m18_0_0g f79_0 f80_0 f44_0
def c18_0_17g (a:TJ18_0_0)(b:TJ18_0_1):MCode:=(.seq (.seq (.region r18_20 [] (tO [4,5,19])) (.cond (.tmp 19) .skip (.exit 0))) (.seq (.block 1 (.seq (.seq (.mark [⟨p18_0_0,F18_0_0 a⟩] c18_0_25) (.cond (.tmp 35) (.seq (.region r18_29 [] (tO [2])) .ret) .skip)) (.seq (.mark [⟨p18_0_1,F18_0_1 b⟩] c18_0_30) (.cond (.tmp 44) (.seq (.region r18_34 [] (tO [2])) .ret) .skip)))) (.region r18_35 [] (tO [4,5]))))
def c18_0_17:MCode:=c18_0_17g J18_0_0 J18_0_1
theorem g18_0_17:c18_0_17.Good Pg E18_0 sh18:=⟨⟨TT,TT,TT⟩,⟨⟨⟨g18_0_25,m18_0_0,TT⟩,⟨TT,TT⟩,TT⟩,⟨g18_0_30,m18_0_1,TT⟩,⟨TT,TT⟩,TT⟩,TT⟩
def S18_0_2g (i:TJ18_0_0)(j:TJ18_0_1)(α:Type)(b c d e g h a:Int)(kn:Int->Op α)(k1:Int->Op α)(k2:Int->Bool->Op α):Op α:=
 cK (decide (a < 3))
 (i α a b c d e g h
 (fun l=>cK l
 (k1 2)
 (j α a b c d e g h
 (fun m=>cK m
 (k1 10)
 (kn (w64 (a+1)))))))
 (k2 a (decide (a < 3)))
def S18_0_2 (α:Type)(a b c d e g h:Int)(kn:Int->Op α)(k1:Int->Op α)(k2:Int->Bool->Op α):Op α:=S18_0_2g J18_0_0 J18_0_1 α a b c d e g h kn k1 k2
def R18_0_2 (α:Type)(a b c d e g:Int)(k1:Int->Op α)(k2:Int->Bool->Op α):Nat->Int->Op α
 | 0,_=>none
 | n+1,h=>S18_0_2 α a b c d e g h (R18_0_2 α a b c d e g k1 k2 n) k1 k2
def L18_0_2 (α:Type)(a b c d e g:Int)(k1:Int->Op α)(k2:Int->Bool->Op α)(h:Int):Op α:=R18_0_2 α a b c d e g k1 k2 fuel h
abbrev TL18_0_2:Type 1:=(α:Type)->Int->Int->Int->Int->Int->Int->(Int->Op α)->(Int->Bool->Op α)->Int->Op α
def F18_0_2 (v:TL18_0_2)(α:Type)(K:KT α):I7 (Op α):=fun i b c d e g h=>v α b c d e g h (fun a=>u18_0_4 (K .ret) a) (fun a j=>u18_0_0 (K (.exit 0)) a j b c d e g h) i
theorem r18_0_2g (m:Tf79_0)(o:Tf80_0)(p:Tf44_0)(j:TJ18_0_0)(l:TJ18_0_1)(α:Type)(K:KT α)(Kn:SK α)(a b c d e g h:Int):u18_0_3 (fun σ=>runM Pg (E18_0g m o p) sh18 (c18_0_17g j l) (thenK (fun σ=>tidyK td18_17 σ Kn) K) σ) a b c d e g h=S18_0_2g j l α b c d e g h a (fun a=>u18_0_3 Kn a b c d e g h) (fun i=>u18_0_4 (K .ret) i) (fun i q=>u18_0_0 (K (.exit 0)) i q b c d e g h):=by kernel_rfl
theorem r18_0_2 (α:Type)(K:KT α)(Kn:SK α)(a b c d e g h:Int):u18_0_3 (fun σ=>runM Pg E18_0 sh18 c18_0_17 (thenK (fun σ=>tidyK td18_17 σ Kn) K) σ) a b c d e g h=S18_0_2 α b c d e g h a (fun a=>u18_0_3 Kn a b c d e g h) (fun i=>u18_0_4 (K .ret) i) (fun i j=>u18_0_0 (K (.exit 0)) i j b c d e g h):=r18_0_2g f79_0 f80_0 f44_0 J18_0_0 J18_0_1 α K Kn a b c d e g h
theorem t18_0_2 (α:Type)(K:KT α):∀ (n:Nat) (h a b c d e g:Int),R18_0_2 α a b c d e g (fun i=>u18_0_4 (K .ret) i) (fun i j=>u18_0_0 (K (.exit 0)) i j a b c d e g) n h=u18_0_3 (loopT (runM Pg E18_0 sh18 c18_0_17) td18_17 K n) h a b c d e g:=by
 intro n
 induction n with
 | zero=>intros;rfl
 | succ n ih=>intro h a b c d e g;exact (congrArg (fun kn=>S18_0_2 α a b c d e g h kn (fun i=>u18_0_4 (K .ret) i) (fun i j=>u18_0_0 (K (.exit 0)) i j a b c d e g)) (funext fun h=>ih h a b c d e g)).trans (r18_0_2 α K (loopT (runM Pg E18_0 sh18 c18_0_17) td18_17 K n) h a b c d e g).symm
theorem m18_0_2:∀ (α:Type) (K:KT α),F18_0_2 L18_0_2 α K=p18_0_3.unc fun σ=>loopT (runM Pg E18_0 sh18 c18_0_17) td18_17 K fuel σ:=fun α K=>by funext a b c d e g h;exact t18_0_2 α K fuel a b c d e g h
abbrev Tf18_0:Type 1:=(α:Type)->BA->Int->Int->Int->Int->Int->Int->Int->Int->Int->(Int->Op α)->Op α
def f18_0g (g:TL18_0_2)(h:Tf79_0)(i:Tf80_0)(α:Type)(a:BA)(b c d j l m o p q:Int)(k1:Int->Op α):Op α:=
 h α a b c d
 (fun e=>cK (e != 0)
 (k1 e)
 (i α a b c d j l m o p q
 (fun r s t w z A=>g α r s t w z A
 (fun B=>k1 B)
 (fun C D=>k1 0) 0)))
def f18_0 (α:Type)(a:BA)(b c d e g h i j l:Int)(k1:Int->Op α):Op α:=f18_0g L18_0_2 f79_0 f80_0 α a b c d e g h i j l k1
def pa18_0:PT (List DV):=pA [pV true [dS,(dI .i64),(dI .i64),(dI .i64),(dI .i64),(dI .i64),(dI .i64),(dI .i64),(dI .i64),(dI .i64)]]
def Fn18_0 (v:Tf18_0)(α:Type)(k:RT α):BA->I9 (Op α):=fun a b c d e g h i j l=>v α a b c d e g h i j l (fun m=>ur18_0_0 k m)
def cm18_0g (a:TL18_0_2):MCode:=(.seq (.region r18_2 [] (tO [1])) (.seq (.seq (.region r18_5 [] (tO [1,3])) (.seq (.region r18_7 [] (tO [1,3,14])) (.cond (.tmp 14) (.seq (.region r18_10 [] (tO [2])) .ret) .skip))) (.seq (.region r18_12 [] (tO [4])) (.seq (.seq (.region r18_15 [] (tO [4,5])) (.block 0 (.loop td18_17 [⟨p18_0_3,F18_0_2 a⟩] c18_0_17))) (.seq (.region r18_37 [] (tO [2])) .ret)))))
def cm18_0:MCode:=cm18_0g L18_0_2
theorem gm18_0:cm18_0.Good Pg E18_0 sh18:=⟨TT,⟨TT,TT,⟨TT,TT⟩,TT⟩,TT,⟨TT,g18_0_17,m18_0_2,TT⟩,TT,TT⟩
theorem fm18_0g (a:Tf79_0)(b:Tf80_0)(d:Tf44_0)(c:TL18_0_2)(α:Type)(k:RT α):Fn18_0 (f18_0g c a b) α k=pa18_0.unc fun ds=>fnM Pg (E18_0g a b d) sh18 (cm18_0g c) rs18 k ds:=by kernel_rfl
theorem fm18_0:∀ (α:Type) (k:RT α),Fn18_0 f18_0 α k=pa18_0.unc fun ds=>fnM Pg E18_0 sh18 cm18_0 rs18 k ds:=fm18_0g f79_0 f80_0 f44_0 L18_0_2
theorem is18:FnIs Pg 18 nt18 tr18 tl18 cm18_0.erase rs18:=⟨Tryz.f18,Tryz.func18,rfl,by kernel_rfl,by kernel_rfl,by kernel_rfl⟩
theorem io18_0:InstOk Pg 18 nt18 ⟨pa18_0,Fn18_0 f18_0⟩:=inst_ok eo18_0 followsTry is18 ⟨⟨sh18,cm18_0,by kernel_rfl,gm18_0,fm18_0⟩⟩
abbrev nt17:Nat:=47
def sh17:SG:=[(7,[.str]),(9,iT),(12,iT),(15,iT),(18,iT),(21,iT),(24,iT),(27,iT),(30,iT),(33,iT),(43,iT)]
def r17_2:LA:=[oO 1 (.box (.tmp 0)),⟨(some 2),(.mv (.const (.string ⟨#[]⟩))),none⟩]
def r17_4:LA:=[fA 6 0 1,lD 7 6,oM 3 7]
def r17_6:LA:=[fA 8 1 1,lD 9 8,fA 10 2 1,fA 11 0 10,lD 12 11,fA 13 2 1,fA 14 1 13,lD 15 14,fA 16 4 1,fA 17 0 16,lD 18 17,fA 19 4 1,fA 20 1 19,lD 21 20,fA 22 6 1,fA 23 0 22,lD 24 23,fA 25 6 1,fA 26 1 25,lD 27 26,fA 28 8 1,fA 29 0 28,lD 30 29,fA 31 8 1,fA 32 1 31,lD 33 32,oO 34 (.build (zI 9) [(0,1,(.tmp 9)),(1,1,(.tmp 12)),(2,1,(.tmp 15)),(3,1,(.tmp 18)),(4,1,(.tmp 21)),(5,1,(.tmp 24)),(6,1,(.tmp 27)),(7,1,(.tmp 30)),(8,1,(.tmp 33))]),oO 4 (.alloc (zI 9)),sD 9 4 34]
def r17_9:LA:=[mK 5 0]
def td17_11:OT:=(tO [3,4,5])
def r17_14:LA:=[oM 35 5,bK 36 .lss 35 9]
def r17_18:LA:=[oM 39 3,⟨(some 40),(.bin .add 9 (.tmp 39) (.const (.string ⟨#[32]⟩))),none⟩,oM 41 5,oO 42 (.iaddr 1 (some 9) (.tmp 4) (.tmp 41)),lD 43 42,oO 44 (.call 69 [.tmp 43]),oO 45 (.bin .add 9 (.tmp 40) (.tmp 44)),oM 3 45]
def r17_19:LA:=[oM 37 5,bK 38 .add 37 1,oM 5 38]
def r17_21:LA:=[oM 46 3,oM 2 46]
def tr17:TG:=[tT 0 [1],tT 1 [1,3],tT 2 [3,4],tT 3 [3,4,5],tT 4 [3,4,5,36],tT 6 [3,4,5],tT 5 [3,4,5],tT 7 [2]]
def tl17:TG:=[tT 4 [3,4,5]]
def rs17:List AResV:=[.tmp 2]
def p17_0_0:PT St:=pS [sY 3 dS,sP 4,sI 5,sY 36 dB] [eBox 4 (xs 9)]
def u17_0_0 {β:Type}(g:St->β):BA->Int->Bool->I9 β:=p17_0_0.unc g
def p17_0_1:PT St:=pS [sY 3 dS,sP 4,sI 5] [eBox 4 (xs 9)]
def u17_0_1 {β:Type}(g:St->β):BA->I10 β:=p17_0_1.unc g
def pr17_0_0:PT (List RV):=pRs [pR false [rD dS]]
def ur17_0_0 {β:Type}(g:List RV->β):BA->β:=pr17_0_0.unc g
def E17_0g (a:Tf69_0):EnvK:=EnvK.of [⟨69,nt69,[⟨pa69_0,Fn69_0 a⟩]⟩] noSeq
def E17_0:EnvK:=E17_0g f69_0
theorem eo17_0:E17_0.Ok Pg:=EnvK.of_ok noSeq_ok ⟨⟨io69_0,TT⟩,TT⟩
def c17_0_16g:MCode:=(.block 1 (.region r17_18 [] (tO [3,4,5])))
def c17_0_16:MCode:=c17_0_16g
theorem g17_0_16:c17_0_16.Good Pg E17_0 sh17:=TT
abbrev TJ17_0_0:Type 1:=(α:Type)->BA->Int->Int->Int->Int->Int->Int->Int->Int->Int->Int->(BA->Op α)->Op α
def J17_0_0g (b:Tf69_0)(α:Type)(a:BA)(c p q r s t w z A B:Int)(k1:BA->Op α):Op α:=
 gK (!decide (IntKind.i64.max < ((ByteArray.size a+ByteArray.size (⟨#[32]⟩:BA):Nat):Int))) (cK (c == 8)
 (b α B
 (fun d=>gK (!decide (IntKind.i64.max < ((ByteArray.size (a++(⟨#[32]⟩:BA))+ByteArray.size d:Nat):Int))) (k1 ((a++(⟨#[32]⟩:BA))++d))))
 (cK (c == 7)
 (b α A
 (fun e=>gK (!decide (IntKind.i64.max < ((ByteArray.size (a++(⟨#[32]⟩:BA))+ByteArray.size e:Nat):Int))) (k1 ((a++(⟨#[32]⟩:BA))++e))))
 (cK (c == 6)
 (b α z
 (fun g=>gK (!decide (IntKind.i64.max < ((ByteArray.size (a++(⟨#[32]⟩:BA))+ByteArray.size g:Nat):Int))) (k1 ((a++(⟨#[32]⟩:BA))++g))))
 (cK (c == 5)
 (b α w
 (fun h=>gK (!decide (IntKind.i64.max < ((ByteArray.size (a++(⟨#[32]⟩:BA))+ByteArray.size h:Nat):Int))) (k1 ((a++(⟨#[32]⟩:BA))++h))))
 (cK (c == 4)
 (b α t
 (fun i=>gK (!decide (IntKind.i64.max < ((ByteArray.size (a++(⟨#[32]⟩:BA))+ByteArray.size i:Nat):Int))) (k1 ((a++(⟨#[32]⟩:BA))++i))))
 (cK (c == 3)
 (b α s
 (fun j=>gK (!decide (IntKind.i64.max < ((ByteArray.size (a++(⟨#[32]⟩:BA))+ByteArray.size j:Nat):Int))) (k1 ((a++(⟨#[32]⟩:BA))++j))))
 (cK (c == 2)
 (b α r
 (fun l=>gK (!decide (IntKind.i64.max < ((ByteArray.size (a++(⟨#[32]⟩:BA))+ByteArray.size l:Nat):Int))) (k1 ((a++(⟨#[32]⟩:BA))++l))))
 (cK (c == 1)
 (b α q
 (fun m=>gK (!decide (IntKind.i64.max < ((ByteArray.size (a++(⟨#[32]⟩:BA))+ByteArray.size m:Nat):Int))) (k1 ((a++(⟨#[32]⟩:BA))++m))))
 (cK (c == 0)
 (b α p
 (fun o=>gK (!decide (IntKind.i64.max < ((ByteArray.size (a++(⟨#[32]⟩:BA))+ByteArray.size o:Nat):Int))) (k1 ((a++(⟨#[32]⟩:BA))++o))))
 (none))))))))))
def J17_0_0 (α:Type)(a:BA)(b c d e g h i j l m:Int)(k1:BA->Op α):Op α:=J17_0_0g f69_0 α a b c d e g h i j l m k1
def F17_0_0 (v:TJ17_0_0)(α:Type)(K:KT α):BA->Int->Bool->I9 (Op α):=fun m a p b c d e g h i j l=>v α m a b c d e g h i j l (fun o=>u17_0_1 (K .normal) o a b c d e g h i j l)
theorem m17_0_0g (a:Tf69_0)(α:Type)(K:KT α):F17_0_0 (J17_0_0g a) α K=p17_0_0.unc fun σ=>runM Pg (E17_0g a) sh17 (c17_0_16g ) K σ:=by kernel_rfl
theorem m17_0_0:∀ (α:Type) (K:KT α),F17_0_0 J17_0_0 α K=p17_0_0.unc fun σ=>runM Pg E17_0 sh17 c17_0_16 K σ:=m17_0_0g f69_0
def c17_0_11g (a:TJ17_0_0):MCode:=(.seq (.seq (.region r17_14 [] (tO [3,4,5,36])) (.cond (.tmp 36) .skip (.exit 0))) (.seq (.mark [⟨p17_0_0,F17_0_0 a⟩] c17_0_16) (.region r17_19 [] (tO [3,4,5]))))
def c17_0_11:MCode:=c17_0_11g J17_0_0
theorem g17_0_11:c17_0_11.Good Pg E17_0 sh17:=⟨⟨TT,TT,TT⟩,⟨g17_0_16,m17_0_0,TT⟩,TT⟩
def S17_0_1g (c:TJ17_0_0)(α:Type)(d e g h i j l m o:Int)(b:BA)(a:Int)(kn:BA->Int->Op α)(k1:BA->Int->Bool->Op α):Op α:=
 cK (decide (a < 9))
 (c α b a d e g h i j l m o
 (fun p=>kn p (w64 (a+1))))
 (k1 b a (decide (a < 9)))
def S17_0_1 (α:Type)(a b c d e g h i j:Int)(l:BA)(m:Int)(kn:BA->Int->Op α)(k1:BA->Int->Bool->Op α):Op α:=S17_0_1g J17_0_0 α a b c d e g h i j l m kn k1
def R17_0_1 (α:Type)(a b c d e g h i j:Int)(k1:BA->Int->Bool->Op α):Nat->BA->Int->Op α
 | 0,_,_=>none
 | n+1,l,m=>S17_0_1 α a b c d e g h i j l m (R17_0_1 α a b c d e g h i j k1 n) k1
def L17_0_1 (α:Type)(a b c d e g h i j:Int)(k1:BA->Int->Bool->Op α)(l:BA)(m:Int):Op α:=R17_0_1 α a b c d e g h i j k1 fuel l m
abbrev TL17_0_1:Type 1:=(α:Type)->Int->Int->Int->Int->Int->Int->Int->Int->Int->(BA->Int->Bool->Op α)->BA->Int->Op α
def F17_0_1 (v:TL17_0_1)(α:Type)(K:KT α):BA->I10 (Op α):=fun l m a b c d e g h i j=>v α a b c d e g h i j (fun o p q=>u17_0_0 (K (.exit 0)) o p q a b c d e g h i j) l m
theorem r17_0_1g (p:Tf69_0)(o:TJ17_0_0)(α:Type)(K:KT α)(Kn:SK α)(a:BA)(b c d e g h i j l m:Int):u17_0_1 (fun σ=>runM Pg (E17_0g p) sh17 (c17_0_11g o) (thenK (fun σ=>tidyK td17_11 σ Kn) K) σ) a b c d e g h i j l m=S17_0_1g o α c d e g h i j l m a b (fun a b=>u17_0_1 Kn a b c d e g h i j l m) (fun q r s=>u17_0_0 (K (.exit 0)) q r s c d e g h i j l m):=by kernel_rfl
theorem r17_0_1 (α:Type)(K:KT α)(Kn:SK α)(a:BA)(b c d e g h i j l m:Int):u17_0_1 (fun σ=>runM Pg E17_0 sh17 c17_0_11 (thenK (fun σ=>tidyK td17_11 σ Kn) K) σ) a b c d e g h i j l m=S17_0_1 α c d e g h i j l m a b (fun a b=>u17_0_1 Kn a b c d e g h i j l m) (fun o p q=>u17_0_0 (K (.exit 0)) o p q c d e g h i j l m):=r17_0_1g f69_0 J17_0_0 α K Kn a b c d e g h i j l m
theorem t17_0_1 (α:Type)(K:KT α):∀ (n:Nat) (l:BA) (m a b c d e g h i j:Int),R17_0_1 α a b c d e g h i j (fun o p q=>u17_0_0 (K (.exit 0)) o p q a b c d e g h i j) n l m=u17_0_1 (loopT (runM Pg E17_0 sh17 c17_0_11) td17_11 K n) l m a b c d e g h i j:=by
 intro n
 induction n with
 | zero=>intros;rfl
 | succ n ih=>intro l m a b c d e g h i j;exact (congrArg (fun kn=>S17_0_1 α a b c d e g h i j l m kn (fun o p q=>u17_0_0 (K (.exit 0)) o p q a b c d e g h i j)) (funext fun l=>funext fun m=>ih l m a b c d e g h i j)).trans (r17_0_1 α K (loopT (runM Pg E17_0 sh17 c17_0_11) td17_11 K n) l m a b c d e g h i j).symm
theorem m17_0_1:∀ (α:Type) (K:KT α),F17_0_1 L17_0_1 α K=p17_0_1.unc fun σ=>loopT (runM Pg E17_0 sh17 c17_0_11) td17_11 K fuel σ:=fun α K=>by funext a b c d e g h i j l m;exact t17_0_1 α K fuel a b c d e g h i j l m
abbrev Tf17_0:Type 1:=(α:Type)->BA->Int->Int->Int->Int->Int->Int->Int->Int->Int->(BA->Op α)->Op α
def f17_0g (a:TL17_0_1)(α:Type)(b:BA)(c d e g h i j l m:Int)(k1:BA->Op α):Op α:=
 a α c d e g h i j l m
 (fun o p q=>k1 o) b 0
def f17_0 (α:Type)(a:BA)(b c d e g h i j l:Int)(k1:BA->Op α):Op α:=f17_0g L17_0_1 α a b c d e g h i j l k1
def pa17_0:PT (List DV):=pA [pV true [dS,(dI .i64),(dI .i64),(dI .i64),(dI .i64),(dI .i64),(dI .i64),(dI .i64),(dI .i64),(dI .i64)]]
def Fn17_0 (v:Tf17_0)(α:Type)(k:RT α):BA->I9 (Op α):=fun a b c d e g h i j l=>v α a b c d e g h i j l (fun m=>ur17_0_0 k m)
def cm17_0g (a:TL17_0_1):MCode:=(.seq (.region r17_2 [] (tO [1])) (.seq (.region r17_4 [] (tO [1,3])) (.seq (.region r17_6 [] (tO [3,4])) (.seq (.seq (.region r17_9 [] (tO [3,4,5])) (.block 0 (.loop td17_11 [⟨p17_0_1,F17_0_1 a⟩] c17_0_11))) (.seq (.region r17_21 [] (tO [2])) .ret)))))
def cm17_0:MCode:=cm17_0g L17_0_1
theorem gm17_0:cm17_0.Good Pg E17_0 sh17:=⟨TT,TT,TT,⟨TT,g17_0_11,m17_0_1,TT⟩,TT,TT⟩
theorem fm17_0g (b:Tf69_0)(a:TL17_0_1)(α:Type)(k:RT α):Fn17_0 (f17_0g a) α k=pa17_0.unc fun ds=>fnM Pg (E17_0g b) sh17 (cm17_0g a) rs17 k ds:=by kernel_rfl
theorem fm17_0:∀ (α:Type) (k:RT α),Fn17_0 f17_0 α k=pa17_0.unc fun ds=>fnM Pg E17_0 sh17 cm17_0 rs17 k ds:=fm17_0g f69_0 L17_0_1
theorem is17:FnIs Pg 17 nt17 tr17 tl17 cm17_0.erase rs17:=⟨Tryz.f17,Tryz.func17,rfl,by kernel_rfl,by kernel_rfl,by kernel_rfl⟩
theorem io17_0:InstOk Pg 17 nt17 ⟨pa17_0,Fn17_0 f17_0⟩:=inst_ok eo17_0 followsTry is17 ⟨⟨sh17,cm17_0,by kernel_rfl,gm17_0,fm17_0⟩⟩
abbrev nt24:Nat:=29
def sh24:SG:=[(14,[.str,.int .i64,.int .i64,.int .i64,.int .i64,.int .i64,.int .i64,.int .i64,.int .i64,.int .i64]),(15,[.str,.int .i64,.int .i64,.int .i64,.int .i64,.int .i64,.int .i64,.int .i64,.int .i64,.int .i64])]
def r24_2:LA:=[⟨(some 2),(.mv (.const (.string ⟨#[]⟩))),none⟩]
def r24_4:LA:=[⟨(some 3),(.mv (.const (.string ⟨#[]⟩))),none⟩]
def r24_7:LA:=[mK 4 0]
def td24_9:OT:=(tO [0,3,4])
def r24_12:LA:=[oM 6 4,oM 7 0,oO 8 (.len (.tmp 7)),bT 9 .lss 6 8]
def r24_17:LA:=[oM 12 0,oM 13 4,oO 14 (.iaddr 10 none (.tmp 12) (.tmp 13)),lA 15 10 14,oO 16 (.call 17 [.tmp 15]),oM 5 16]
def r24_18:LA:=[oM 17 3,oM 18 5,oO 19 (.bin .add 9 (.tmp 17) (.tmp 18)),⟨(some 20),(.bin .add 9 (.tmp 19) (.const (.string ⟨#[32]⟩))),none⟩,oM 21 5,oM 22 4,bK 23 .add 22 1,oO 24 (.call 89 [(.tmp 21),(.tmp 23)]),oO 25 (.call 69 [.tmp 24]),oO 26 (.bin .add 9 (.tmp 20) (.tmp 25)),⟨(some 27),(.bin .add 9 (.tmp 26) (.const (.string ⟨#[10]⟩))),none⟩,oM 3 27]
def r24_19:LA:=[oM 10 4,bK 11 .add 10 1,oM 4 11]
def r24_21:LA:=[oM 28 3,oM 2 28]
def tr24:TG:=[tT 0 [0],tT 1 [0,3],tT 2 [0,3,4],tT 3 [0,3,4,9],tT 5 [0,3,4,5],tT 6 [0,3,4],tT 4 [0,3,4],tT 7 [2]]
def tl24:TG:=[tT 3 [0,3,4]]
def rs24:List AResV:=[.tmp 2]
def p24_0_0:PT St:=pS [sY 0 dL,sY 3 dS,sI 4] []
def u24_0_0 {β:Type}(g:St->β):Rows->BA->Int->β:=p24_0_0.unc g
def p24_0_1:PT St:=pS [sY 0 dL,sY 3 dS,sI 4,sY 9 dB] []
def u24_0_1 {β:Type}(g:St->β):Rows->BA->Int->Bool->β:=p24_0_1.unc g
def pr24_0_0:PT (List RV):=pRs [pR false [rD dS]]
def ur24_0_0 {β:Type}(g:List RV->β):BA->β:=pr24_0_0.unc g
def E24_0g (a:Tf17_0)(b:Tf89_0)(c:Tf69_0):EnvK:=EnvK.of [⟨17,nt17,[⟨pa17_0,Fn17_0 a⟩]⟩,⟨89,nt89,[⟨pa89_0,Fn89_0 b⟩]⟩,⟨69,nt69,[⟨pa69_0,Fn69_0 c⟩]⟩] noSeq
def E24_0:EnvK:=E24_0g f17_0 f89_0 f69_0
theorem eo24_0:E24_0.Ok Pg:=EnvK.of_ok noSeq_ok ⟨⟨io17_0,TT⟩,⟨io89_0,TT⟩,⟨io69_0,TT⟩,TT⟩
def c24_0_9g:MCode:=(.seq (.seq (.region r24_12 [] (tO [0,3,4,9])) (.cond (.tmp 9) .skip (.exit 0))) (.seq (.block 1 (.seq (.region r24_17 [] (tO [0,3,4,5])) (.region r24_18 [] (tO [0,3,4])))) (.region r24_19 [] (tO [0,3,4]))))
def c24_0_9:MCode:=c24_0_9g
theorem g24_0_9:c24_0_9.Good Pg E24_0 sh24:=⟨⟨TT,TT,TT⟩,⟨TT,TT⟩,TT⟩
def S24_0_0g (g:Tf17_0)(h:Tf69_0)(i:Tf89_0)(α:Type)(d:Rows)(a:BA)(b:Int)(kn:BA->Int->Op α)(k1:BA->Int->Bool->Op α):Op α:=
 cK (decide (b < ((List.length d:Nat):Int)))
 (rowK d b [.str,.int .i64,.int .i64,.int .i64,.int .i64,.int .i64,.int .i64,.int .i64,.int .i64,.int .i64]
 (fun j l m o p q r s t w=>g α j l m o p q r s t w
 (fun c=>gK (!decide (IntKind.i64.max < ((ByteArray.size a+ByteArray.size c:Nat):Int))) (gK (!decide (IntKind.i64.max < ((ByteArray.size (a++c)+ByteArray.size (⟨#[32]⟩:BA):Nat):Int))) (i α c (w64 (b+1))
 (fun z=>h α z
 (fun e=>gK (!decide (IntKind.i64.max < ((ByteArray.size ((a++c)++(⟨#[32]⟩:BA))+ByteArray.size e:Nat):Int))) (gK (!decide (IntKind.i64.max < ((ByteArray.size (((a++c)++(⟨#[32]⟩:BA))++e)+ByteArray.size (⟨#[10]⟩:BA):Nat):Int))) (kn ((((a++c)++(⟨#[32]⟩:BA))++e)++(⟨#[10]⟩:BA)) (w64 (b+1)))))))))))
 (k1 a b (decide (b < ((List.length d:Nat):Int))))
def S24_0_0 (α:Type)(a:Rows)(b:BA)(c:Int)(kn:BA->Int->Op α)(k1:BA->Int->Bool->Op α):Op α:=S24_0_0g f17_0 f69_0 f89_0 α a b c kn k1
def R24_0_0 (α:Type)(a:Rows)(k1:BA->Int->Bool->Op α):Nat->BA->Int->Op α
 | 0,_,_=>none
 | n+1,b,c=>S24_0_0 α a b c (R24_0_0 α a k1 n) k1
def L24_0_0 (α:Type)(a:Rows)(k1:BA->Int->Bool->Op α)(b:BA)(c:Int):Op α:=R24_0_0 α a k1 fuel b c
abbrev TL24_0_0:Type 1:=(α:Type)->Rows->(BA->Int->Bool->Op α)->BA->Int->Op α
def F24_0_0 (v:TL24_0_0)(α:Type)(K:KT α):Rows->BA->Int->Op α:=fun a b c=>v α a (fun d e g=>u24_0_1 (K (.exit 0)) a d e g) b c
theorem r24_0_0g (d:Tf17_0)(e:Tf89_0)(g:Tf69_0)(α:Type)(K:KT α)(Kn:SK α)(a:Rows)(b:BA)(c:Int):u24_0_0 (fun σ=>runM Pg (E24_0g d e g) sh24 (c24_0_9g ) (thenK (fun σ=>tidyK td24_9 σ Kn) K) σ) a b c=S24_0_0g d g e α a b c (fun b c=>u24_0_0 Kn a b c) (fun h i j=>u24_0_1 (K (.exit 0)) a h i j):=by kernel_rfl
theorem r24_0_0 (α:Type)(K:KT α)(Kn:SK α)(a:Rows)(b:BA)(c:Int):u24_0_0 (fun σ=>runM Pg E24_0 sh24 c24_0_9 (thenK (fun σ=>tidyK td24_9 σ Kn) K) σ) a b c=S24_0_0 α a b c (fun b c=>u24_0_0 Kn a b c) (fun d e g=>u24_0_1 (K (.exit 0)) a d e g):=r24_0_0g f17_0 f89_0 f69_0 α K Kn a b c
theorem t24_0_0 (α:Type)(K:KT α):∀ (n:Nat) (a:Rows) (b:BA) (c:Int),R24_0_0 α a (fun d e g=>u24_0_1 (K (.exit 0)) a d e g) n b c=u24_0_0 (loopT (runM Pg E24_0 sh24 c24_0_9) td24_9 K n) a b c:=by
 intro n
 induction n with
 | zero=>intros;rfl
 | succ n ih=>intro a b c;exact (congrArg (fun kn=>S24_0_0 α a b c kn (fun d e g=>u24_0_1 (K (.exit 0)) a d e g)) (funext fun b=>funext fun c=>ih a b c)).trans (r24_0_0 α K (loopT (runM Pg E24_0 sh24 c24_0_9) td24_9 K n) a b c).symm
theorem m24_0_0:∀ (α:Type) (K:KT α),F24_0_0 L24_0_0 α K=p24_0_0.unc fun σ=>loopT (runM Pg E24_0 sh24 c24_0_9) td24_9 K fuel σ:=fun α K=>by funext a b c;exact t24_0_0 α K fuel a b c
abbrev Tf24_0:Type 1:=(α:Type)->Rows->(BA->Op α)->Op α
def f24_0g (a:TL24_0_0)(α:Type)(b:Rows)(k1:BA->Op α):Op α:=
 a α b
 (fun c d e=>k1 c) (⟨#[]⟩:BA) 0
def f24_0 (α:Type)(a:Rows)(k1:BA->Op α):Op α:=f24_0g L24_0_0 α a k1
def pa24_0:PT (List DV):=pA [pV false [dL]]
def Fn24_0 (v:Tf24_0)(α:Type)(k:RT α):Rows->Op α:=fun a=>v α a (fun b=>ur24_0_0 k b)
def cm24_0g (a:TL24_0_0):MCode:=(.seq (.region r24_2 [] (tO [0])) (.seq (.region r24_4 [] (tO [0,3])) (.seq (.seq (.region r24_7 [] (tO [0,3,4])) (.block 0 (.loop td24_9 [⟨p24_0_0,F24_0_0 a⟩] c24_0_9))) (.seq (.region r24_21 [] (tO [2])) .ret))))
def cm24_0:MCode:=cm24_0g L24_0_0
theorem gm24_0:cm24_0.Good Pg E24_0 sh24:=⟨TT,TT,⟨TT,g24_0_9,m24_0_0,TT⟩,TT,TT⟩
theorem fm24_0g (b:Tf17_0)(c:Tf89_0)(d:Tf69_0)(a:TL24_0_0)(α:Type)(k:RT α):Fn24_0 (f24_0g a) α k=pa24_0.unc fun ds=>fnM Pg (E24_0g b c d) sh24 (cm24_0g a) rs24 k ds:=by kernel_rfl
theorem fm24_0:∀ (α:Type) (k:RT α),Fn24_0 f24_0 α k=pa24_0.unc fun ds=>fnM Pg E24_0 sh24 cm24_0 rs24 k ds:=fm24_0g f17_0 f89_0 f69_0 L24_0_0
theorem is24:FnIs Pg 24 nt24 tr24 tl24 cm24_0.erase rs24:=⟨Tryz.f24,Tryz.func24,rfl,by kernel_rfl,by kernel_rfl,by kernel_rfl⟩
theorem io24_0:InstOk Pg 24 nt24 ⟨pa24_0,Fn24_0 f24_0⟩:=inst_ok eo24_0 followsTry is24 ⟨⟨sh24,cm24_0,by kernel_rfl,gm24_0,fm24_0⟩⟩
abbrev nt22:Nat:=22
def sh22:SG:=[(16,[.str,.int .i64,.int .i64,.int .i64,.int .i64,.int .i64,.int .i64,.int .i64,.int .i64,.int .i64]),(17,[.str,.int .i64,.int .i64,.int .i64,.int .i64,.int .i64,.int .i64,.int .i64,.int .i64,.int .i64])]
def r22_2:LA:=[mK 2 0]
def r22_5:LA:=[oM 5 0,oO 6 (.len (.tmp 5)),bK 7 .gtr 6 20]
def r22_8:LA:=[mK 2 8]
def r22_11:LA:=[mK 3 0]
def td22_13:OT:=(tO [0,3])
def r22_16:LA:=[oM 8 3,oM 9 0,oO 10 (.len (.tmp 9)),bT 11 .lss 8 10]
def r22_21:LA:=[oM 14 0,oM 15 3,oO 16 (.iaddr 10 none (.tmp 14) (.tmp 15)),lA 17 10 16,oO 18 (.call 18 [.tmp 17]),oM 4 18]
def r22_23:LA:=[oM 19 4,bK 20 .neq 19 0]
def r22_26:LA:=[oM 21 4,oM 2 21]
def r22_27:LA:=[oM 12 3,bK 13 .add 12 1,oM 3 13]
def r22_29:LA:=[mK 2 0]
def tr22:TG:=[tT 0 [0],tT 1 [0,7],tT 2 [2],tT 3 [0,3],tT 4 [0,3,11],tT 6 [0,3,4],tT 7 [0,3,4,20],tT 8 [2],tT 5 [0,3],tT 9 [2]]
def tl22:TG:=[tT 4 [0,3]]
def rs22:List AResV:=[.tmp 2]
def p22_0_0:PT St:=pS [sY 0 dL,sI 3] []
def u22_0_0 {β:Type}(g:St->β):Rows->Int->β:=p22_0_0.unc g
def p22_0_1:PT St:=pS [sI 2] []
def u22_0_1 {β:Type}(g:St->β):Int->β:=p22_0_1.unc g
def p22_0_2:PT St:=pS [sY 0 dL,sI 3,sY 11 dB] []
def u22_0_2 {β:Type}(g:St->β):Rows->Int->Bool->β:=p22_0_2.unc g
def pr22_0_0:PT (List RV):=pRs [wI]
def ur22_0_0 {β:Type}(g:List RV->β):Int->β:=pr22_0_0.unc g
def E22_0g (a:Tf18_0):EnvK:=EnvK.of [⟨18,nt18,[⟨pa18_0,Fn18_0 a⟩]⟩] noSeq
def E22_0:EnvK:=E22_0g f18_0
theorem eo22_0:E22_0.Ok Pg:=EnvK.of_ok noSeq_ok ⟨⟨io18_0,TT⟩,TT⟩
def c22_0_13g:MCode:=(.seq (.seq (.region r22_16 [] (tO [0,3,11])) (.cond (.tmp 11) .skip (.exit 0))) (.seq (.block 1 (.seq (.region r22_21 [] (tO [0,3,4])) (.seq (.region r22_23 [] (tO [0,3,4,20])) (.cond (.tmp 20) (.seq (.region r22_26 [] (tO [2])) .ret) .skip)))) (.region r22_27 [] (tO [0,3]))))
def c22_0_13:MCode:=c22_0_13g
theorem g22_0_13:c22_0_13.Good Pg E22_0 sh22:=⟨⟨TT,TT,TT⟩,⟨TT,TT,⟨TT,TT⟩,TT⟩,TT⟩
def S22_0_0g (d:Tf18_0)(α:Type)(b:Rows)(a:Int)(kn:Int->Op α)(k1:Int->Op α)(k2:Int->Bool->Op α):Op α:=
 cK (decide (a < ((List.length b:Nat):Int)))
 (rowK b a [.str,.int .i64,.int .i64,.int .i64,.int .i64,.int .i64,.int .i64,.int .i64,.int .i64,.int .i64]
 (fun e g h i j l m o p q=>d α e g h i j l m o p q
 (fun c=>cK (c != 0)
 (k1 c)
 (kn (w64 (a+1))))))
 (k2 a (decide (a < ((List.length b:Nat):Int))))
def S22_0_0 (α:Type)(a:Rows)(b:Int)(kn:Int->Op α)(k1:Int->Op α)(k2:Int->Bool->Op α):Op α:=S22_0_0g f18_0 α a b kn k1 k2
def R22_0_0 (α:Type)(a:Rows)(k1:Int->Op α)(k2:Int->Bool->Op α):Nat->Int->Op α
 | 0,_=>none
 | n+1,b=>S22_0_0 α a b (R22_0_0 α a k1 k2 n) k1 k2
def L22_0_0 (α:Type)(a:Rows)(k1:Int->Op α)(k2:Int->Bool->Op α)(b:Int):Op α:=R22_0_0 α a k1 k2 fuel b
abbrev TL22_0_0:Type 1:=(α:Type)->Rows->(Int->Op α)->(Int->Bool->Op α)->Int->Op α
def F22_0_0 (v:TL22_0_0)(α:Type)(K:KT α):Rows->Int->Op α:=fun b c=>v α b (fun a=>u22_0_1 (K .ret) a) (fun a d=>u22_0_2 (K (.exit 0)) b a d) c
theorem r22_0_0g (d:Tf18_0)(α:Type)(K:KT α)(Kn:SK α)(a:Rows)(b:Int):u22_0_0 (fun σ=>runM Pg (E22_0g d) sh22 (c22_0_13g ) (thenK (fun σ=>tidyK td22_13 σ Kn) K) σ) a b=S22_0_0g d α a b (fun b=>u22_0_0 Kn a b) (fun c=>u22_0_1 (K .ret) c) (fun c e=>u22_0_2 (K (.exit 0)) a c e):=by kernel_rfl
theorem r22_0_0 (α:Type)(K:KT α)(Kn:SK α)(a:Rows)(b:Int):u22_0_0 (fun σ=>runM Pg E22_0 sh22 c22_0_13 (thenK (fun σ=>tidyK td22_13 σ Kn) K) σ) a b=S22_0_0 α a b (fun b=>u22_0_0 Kn a b) (fun c=>u22_0_1 (K .ret) c) (fun c d=>u22_0_2 (K (.exit 0)) a c d):=r22_0_0g f18_0 α K Kn a b
theorem t22_0_0 (α:Type)(K:KT α):∀ (n:Nat) (a:Rows) (b:Int),R22_0_0 α a (fun c=>u22_0_1 (K .ret) c) (fun c d=>u22_0_2 (K (.exit 0)) a c d) n b=u22_0_0 (loopT (runM Pg E22_0 sh22 c22_0_13) td22_13 K n) a b:=by
 intro n
 induction n with
 | zero=>intros;rfl
 | succ n ih=>intro a b;exact (congrArg (fun kn=>S22_0_0 α a b kn (fun c=>u22_0_1 (K .ret) c) (fun c d=>u22_0_2 (K (.exit 0)) a c d)) (funext fun b=>ih a b)).trans (r22_0_0 α K (loopT (runM Pg E22_0 sh22 c22_0_13) td22_13 K n) a b).symm
theorem m22_0_0:∀ (α:Type) (K:KT α),F22_0_0 L22_0_0 α K=p22_0_0.unc fun σ=>loopT (runM Pg E22_0 sh22 c22_0_13) td22_13 K fuel σ:=fun α K=>funext fun a=>funext fun b=>t22_0_0 α K fuel a b
abbrev Tf22_0:Type 1:=(α:Type)->Rows->(Int->Op α)->Op α
def f22_0g (b:TL22_0_0)(α:Type)(a:Rows)(k1:Int->Op α):Op α:=
 cK (decide (20 < ((List.length a:Nat):Int)))
 (k1 8)
 (b α a
 (fun c=>k1 c)
 (fun d e=>k1 0) 0)
def f22_0 (α:Type)(a:Rows)(k1:Int->Op α):Op α:=f22_0g L22_0_0 α a k1
def pa22_0:PT (List DV):=pA [pV false [dL]]
def Fn22_0 (v:Tf22_0)(α:Type)(k:RT α):Rows->Op α:=fun a=>v α a (fun b=>ur22_0_0 k b)
def cm22_0g (a:TL22_0_0):MCode:=(.seq (.region r22_2 [] (tO [0])) (.seq (.seq (.region r22_5 [] (tO [0,7])) (.cond (.tmp 7) (.seq (.region r22_8 [] (tO [2])) .ret) .skip)) (.seq (.seq (.region r22_11 [] (tO [0,3])) (.block 0 (.loop td22_13 [⟨p22_0_0,F22_0_0 a⟩] c22_0_13))) (.seq (.region r22_29 [] (tO [2])) .ret))))
def cm22_0:MCode:=cm22_0g L22_0_0
theorem gm22_0:cm22_0.Good Pg E22_0 sh22:=⟨TT,⟨TT,⟨TT,TT⟩,TT⟩,⟨TT,g22_0_13,m22_0_0,TT⟩,TT,TT⟩
theorem fm22_0g (b:Tf18_0)(a:TL22_0_0)(α:Type)(k:RT α):Fn22_0 (f22_0g a) α k=pa22_0.unc fun ds=>fnM Pg (E22_0g b) sh22 (cm22_0g a) rs22 k ds:=by kernel_rfl
theorem fm22_0:∀ (α:Type) (k:RT α),Fn22_0 f22_0 α k=pa22_0.unc fun ds=>fnM Pg E22_0 sh22 cm22_0 rs22 k ds:=fm22_0g f18_0 L22_0_0
theorem is22:FnIs Pg 22 nt22 tr22 tl22 cm22_0.erase rs22:=⟨Tryz.f22,Tryz.func22,rfl,by kernel_rfl,by kernel_rfl,by kernel_rfl⟩
theorem io22_0:InstOk Pg 22 nt22 ⟨pa22_0,Fn22_0 f22_0⟩:=inst_ok eo22_0 followsTry is22 ⟨⟨sh22,cm22_0,by kernel_rfl,gm22_0,fm22_0⟩⟩
abbrev nt83:Nat:=68
def sh83:SG:=[(15,[.str,.int .i64,.int .i64,.int .i64,.int .i64,.int .i64,.int .i64,.int .i64,.int .i64,.int .i64]),(24,[.str]),(25,[.str]),(31,[.str,.int .i64,.int .i64,.int .i64,.int .i64,.int .i64,.int .i64,.int .i64,.int .i64,.int .i64]),(36,[.str]),(37,[.str]),(39,iT),(41,iT),(43,iT),(46,iT),(48,iT),(51,iT),(53,iT),(56,iT),(58,iT),(61,[.str,.int .i64,.int .i64,.int .i64,.int .i64,.int .i64,.int .i64,.int .i64,.int .i64,.int .i64]),(65,[.str,.int .i64,.int .i64,.int .i64,.int .i64,.int .i64,.int .i64,.int .i64,.int .i64,.int .i64]),(67,[.str,.int .i64,.int .i64,.int .i64,.int .i64,.int .i64,.int .i64,.int .i64,.int .i64,.int .i64])]
def r83_2:LA:=[⟨(some 2),(.alloc [(.d (.v (.string ⟨#[]⟩))),(cI 0),(cI 0),(cI 0),(cI 0),(cI 0),(cI 0),(cI 0),(cI 0),(cI 0)]),none⟩,mK 3 0]
def r83_4:LA:=[⟨(some 11),(.build [(.d (.v (.string ⟨#[]⟩))),(cI 0),(cI 0),(cI 0),(cI 0),(cI 0),(cI 0),(cI 0),(cI 0),(cI 0)] []),none⟩,⟨(some 4),(.alloc [(.d (.v (.string ⟨#[]⟩))),(cI 0),(cI 0),(cI 0),(cI 0),(cI 0),(cI 0),(cI 0),(cI 0),(cI 0)]),none⟩,sD 10 4 11]
def r83_7:LA:=[oM 12 0,oO 13 (.len (.tmp 12)),bK 14 .neq 13 10]
def r83_10:LA:=[lA 15 10 4,sD 10 2 15,mK 3 4]
def r83_12:LA:=[oO 5 (.alloc (zI 9))]
def r83_15:LA:=[mK 6 0]
def td83_17:OT:=(tO [0,2,4,5,6])
def r83_20:LA:=[oM 16 6,bK 17 .lss 16 9]
def r83_25:LA:=[oM 21 0,oM 22 6,bK 23 .add 22 1,oO 24 (.iaddr 1 none (.tmp 21) (.tmp 23)),lD 25 24,oO 26 (.call 68 [(.tmp 25),(kI 7)]),oM 20 26,oO 27 (.extract 0 (.tmp 20)),oO 28 (.extract 1 (.tmp 20)),oM 7 27,oM 8 28]
def r83_28:LA:=[oM 29 8,oO 30 (.pure (oB (.unOp .not 4 (.tmp 29)) 4))]
def r83_31:LA:=[lA 31 10 4,sD 10 2 31,mK 3 4]
def r83_32:LA:=[oM 32 6,oM 33 7,oO 34 (.iaddr 1 (some 9) (.tmp 5) (.tmp 32)),sD 1 34 33]
def r83_33:LA:=[oM 18 6,bK 19 .add 18 1,oM 6 19]
def r83_35:LA:=[oM 35 0,oO 36 (.iaddr 1 none (.tmp 35) (kI 0)),lD 37 36,oO 38 (.iaddr 1 (some 9) (.tmp 5) (kI 0)),lD 39 38,oO 40 (.iaddr 1 (some 9) (.tmp 5) (kI 1)),lD 41 40,oO 42 (.iaddr 1 (some 9) (.tmp 5) (kI 2)),lD 43 42,oO 44 (.build [(cI 0),(cI 0)] [(0,1,(.tmp 41)),(1,1,(.tmp 43))]),oO 45 (.iaddr 1 (some 9) (.tmp 5) (kI 3)),lD 46 45,oO 47 (.iaddr 1 (some 9) (.tmp 5) (kI 4)),lD 48 47,oO 49 (.build [(cI 0),(cI 0)] [(0,1,(.tmp 46)),(1,1,(.tmp 48))]),oO 50 (.iaddr 1 (some 9) (.tmp 5) (kI 5)),lD 51 50,oO 52 (.iaddr 1 (some 9) (.tmp 5) (kI 6)),lD 53 52,oO 54 (.build [(cI 0),(cI 0)] [(0,1,(.tmp 51)),(1,1,(.tmp 53))]),oO 55 (.iaddr 1 (some 9) (.tmp 5) (kI 7)),lD 56 55,oO 57 (.iaddr 1 (some 9) (.tmp 5) (kI 8)),lD 58 57,oO 59 (.build [(cI 0),(cI 0)] [(0,1,(.tmp 56)),(1,1,(.tmp 58))]),⟨(some 60),(.build [(.d (.v (.string ⟨#[]⟩))),(cI 0),(cI 0),(cI 0),(cI 0),(cI 0),(cI 0),(cI 0),(cI 0),(cI 0)] [(0,1,(.tmp 37)),(1,1,(.tmp 39)),(2,2,(.tmp 44)),(4,2,(.tmp 49)),(6,2,(.tmp 54)),(8,2,(.tmp 59))]),none⟩,⟨(some 9),(.alloc [(.d (.v (.string ⟨#[]⟩))),(cI 0),(cI 0),(cI 0),(cI 0),(cI 0),(cI 0),(cI 0),(cI 0),(cI 0)]),none⟩,sD 10 9 60]
def r83_38:LA:=[lA 61 10 9,oO 62 (.call 18 [.tmp 61]),oM 10 62]
def r83_40:LA:=[oM 63 10,bK 64 .neq 63 0]
def r83_43:LA:=[lA 65 10 4,oM 66 10,sD 10 2 65,oM 3 66]
def r83_45:LA:=[lA 67 10 9,sD 10 2 67,mK 3 0]
def tr83:TG:=[tT 0 [0,2],tT 1 [0,2,4],tT 2 [0,2,4,14],tT 3 [2,3],tT 4 [0,2,4,5],tT 5 [0,2,4,5,6],tT 6 [0,2,4,5,6,17],tT 8 [0,2,4,5,6,7,8],tT 9 [0,2,4,5,6,7,30],tT 10 [2,3],tT 11 [0,2,4,5,6],tT 7 [0,2,4,5,6],tT 12 [2,4,9],tT 13 [2,4,9,10],tT 14 [2,4,9,10,64],tT 15 [2,3],tT 16 [2,3]]
def tl83:TG:=[tT 6 [0,2,4,5,6]]
def rs83:List AResV:=[.cell 2 true 10,.tmp 3]
def p83_0_0:PT St:=pS [sY 0 dL,sP 2,sP 4,sP 5,sI 6,sY 17 dB] [eBox 2 [(cD dS),xI,xI,xI,xI,xI,xI,xI,xI,xI],eBox 4 [(cD dS),xI,xI,xI,xI,xI,xI,xI,xI,xI],eBox 5 (xs 9)]
def u83_0_0 {β:Type}(g:St->β):Rows->Int->Bool->BA->Int->Int->Int->Int->Int->Int->Int->Int->Int->BA->I18 β:=p83_0_0.unc g
def p83_0_1:PT St:=pS [sP 2,sI 3] [eBox 2 [(cD dS),xI,xI,xI,xI,xI,xI,xI,xI,xI]]
def u83_0_1 {β:Type}(g:St->β):Int->BA->I9 β:=p83_0_1.unc g
def p83_0_2:PT St:=pS [sY 0 dL,sP 2,sP 4,sP 5,sI 6] [eBox 2 [(cD dS),xI,xI,xI,xI,xI,xI,xI,xI,xI],eBox 4 [(cD dS),xI,xI,xI,xI,xI,xI,xI,xI,xI],eBox 5 (xs 9)]
def u83_0_2 {β:Type}(g:St->β):Rows->Int->BA->Int->Int->Int->Int->Int->Int->Int->Int->Int->BA->I18 β:=p83_0_2.unc g
def pr83_0_0:PT (List RV):=pRs [pR true [rD dS,rD (dI .i64),rD (dI .i64),rD (dI .i64),rD (dI .i64),rD (dI .i64),rD (dI .i64),rD (dI .i64),rD (dI .i64),rD (dI .i64)],wI]
def ur83_0_0 {β:Type}(g:List RV->β):BA->I10 β:=pr83_0_0.unc g
def E83_0g (a:Tf68_0)(b:Tf18_0):EnvK:=EnvK.of [⟨68,nt68,[⟨pa68_0,Fn68_0 a⟩]⟩,⟨18,nt18,[⟨pa18_0,Fn18_0 b⟩]⟩] noSeq
def E83_0:EnvK:=E83_0g f68_0 f18_0
theorem eo83_0:E83_0.Ok Pg:=EnvK.of_ok noSeq_ok ⟨⟨io68_0,TT⟩,⟨io18_0,TT⟩,TT⟩
def c83_0_22g:MCode:=(.block 1 (.seq (.region r83_25 [] (tO [0,2,4,5,6,7,8])) (.seq (.seq (.region r83_28 [] (tO [0,2,4,5,6,7,30])) (.cond (.tmp 30) (.seq (.region r83_31 [] (tO [2,3])) .ret) .skip)) (.region r83_32 [] (tO [0,2,4,5,6])))))
def c83_0_22:MCode:=c83_0_22g
theorem g83_0_22:c83_0_22.Good Pg E83_0 sh83:=⟨TT,⟨TT,⟨TT,TT⟩,TT⟩,TT⟩
abbrev TJ83_0_0:Type 1:=(α:Type)->Rows->Int->Int->Int->Int->Int->Int->Int->Int->Int->Int->(Op α)->(I9 (Op α))->Op α
def J83_0_0g (o:Tf68_0)(α:Type)(p:Rows)(a c d e g h i j l m:Int)(k1:Op α)(k2:I9 (Op α)):Op α:=
 rowK p (w64 (a+1)) [.str]
 (fun q=>o α q 7
 (fun b r=>cK (!r)
 (k1)
 (cK (a == 8)
 (k2 c d e g h i j l b)
 (cK (a == 7)
 (k2 c d e g h i j b m)
 (cK (a == 6)
 (k2 c d e g h i b l m)
 (cK (a == 5)
 (k2 c d e g h b j l m)
 (cK (a == 4)
 (k2 c d e g b i j l m)
 (cK (a == 3)
 (k2 c d e b h i j l m)
 (cK (a == 2)
 (k2 c d b g h i j l m)
 (cK (a == 1)
 (k2 c b e g h i j l m)
 (cK (a == 0)
 (k2 b d e g h i j l m)
 (none))))))))))))
def J83_0_0 (α:Type)(a:Rows)(b c d e g h i j l m:Int)(k1:Op α)(k2:I9 (Op α)):Op α:=J83_0_0g f68_0 α a b c d e g h i j l m k1 k2
def F83_0_0 (v:TJ83_0_0)(α:Type)(K:KT α):Rows->Int->Bool->BA->Int->Int->Int->Int->Int->Int->Int->Int->Int->BA->I18 (Op α):=fun a b Y p q r s t w z A B C c d e g h i j l m o D F G H I J L M N=>v α a b D F G H I J L M N (u83_0_1 (K .ret) 4 c d e g h i j l m o) (fun O P Q R T U V W X=>u83_0_2 (K .normal) a b p q r s t w z A B C c d e g h i j l m o O P Q R T U V W X)
theorem m83_0_0g (a:Tf68_0)(b:Tf18_0)(α:Type)(K:KT α):F83_0_0 (J83_0_0g a) α K=p83_0_0.unc fun σ=>runM Pg (E83_0g a b) sh83 (c83_0_22g ) K σ:=by kernel_rfl
theorem m83_0_0:∀ (α:Type) (K:KT α),F83_0_0 J83_0_0 α K=p83_0_0.unc fun σ=>runM Pg E83_0 sh83 c83_0_22 K σ:=m83_0_0g f68_0 f18_0
def c83_0_17g (a:TJ83_0_0):MCode:=(.seq (.seq (.region r83_20 [] (tO [0,2,4,5,6,17])) (.cond (.tmp 17) .skip (.exit 0))) (.seq (.mark [⟨p83_0_0,F83_0_0 a⟩] c83_0_22) (.region r83_33 [] (tO [0,2,4,5,6]))))
def c83_0_17:MCode:=c83_0_17g J83_0_0
theorem g83_0_17:c83_0_17.Good Pg E83_0 sh83:=⟨⟨TT,TT,TT⟩,⟨g83_0_22,m83_0_0,TT⟩,TT⟩
def S83_0_1g (m:TJ83_0_0)(α:Type)(o:Rows)(a b c d e g h i j l:Int)(kn:I10 (Op α))(k1:Op α)(k2:Int->Bool->I9 (Op α)):Op α:=
 cK (decide (a < 9))
 (m α o a b c d e g h i j l
 (k1)
 (fun p q r s t w z A B=>kn (w64 (a+1)) p q r s t w z A B))
 (k2 a (decide (a < 9)) b c d e g h i j l)
def S83_0_1 (α:Type)(a:Rows)(b c d e g h i j l m:Int)(kn:I10 (Op α))(k1:Op α)(k2:Int->Bool->I9 (Op α)):Op α:=S83_0_1g J83_0_0 α a b c d e g h i j l m kn k1 k2
def R83_0_1 (α:Type)(a:Rows)(k1:Op α)(k2:Int->Bool->I9 (Op α)):Nat->I10 (Op α)
 | 0,_,_,_,_,_,_,_,_,_,_=>none
 | n+1,b,c,d,e,g,h,i,j,l,m=>S83_0_1 α a b c d e g h i j l m (R83_0_1 α a k1 k2 n) k1 k2
def L83_0_1 (α:Type)(a:Rows)(k1:Op α)(k2:Int->Bool->I9 (Op α))(b c d e g h i j l m:Int):Op α:=R83_0_1 α a k1 k2 fuel b c d e g h i j l m
abbrev TL83_0_1:Type 1:=(α:Type)->Rows->(Op α)->(Int->Bool->I9 (Op α))->I10 (Op α)
def F83_0_1 (v:TL83_0_1)(α:Type)(K:KT α):Rows->Int->BA->Int->Int->Int->Int->Int->Int->Int->Int->Int->BA->I18 (Op α):=fun a o p q r s t w z A B C b c d e g h i j l m D F G H I J L M N=>v α a (u83_0_1 (K .ret) 4 b c d e g h i j l m) (fun O P Q R T U V W X Y Z=>u83_0_0 (K (.exit 0)) a O P p q r s t w z A B C b c d e g h i j l m Q R T U V W X Y Z) o D F G H I J L M N
theorem r83_0_1g (P:Tf68_0)(Q:Tf18_0)(O:TJ83_0_0)(α:Type)(K:KT α)(Kn:SK α)(a:Rows)(b:Int)(C:BA)(D F G H I J L M N:Int)(c:BA)(d e g h i j l m o p q r s t w z A B:Int):u83_0_2 (fun σ=>runM Pg (E83_0g P Q) sh83 (c83_0_17g O) (thenK (fun σ=>tidyK td83_17 σ Kn) K) σ) a b C D F G H I J L M N c d e g h i j l m o p q r s t w z A B=S83_0_1g O α a b p q r s t w z A B (fun b p q r s t w z A B=>u83_0_2 Kn a b C D F G H I J L M N c d e g h i j l m o p q r s t w z A B) (u83_0_1 (K .ret) 4 c d e g h i j l m o) (fun R T U V W X Y Z a0 a1 a2=>u83_0_0 (K (.exit 0)) a R T C D F G H I J L M N c d e g h i j l m o U V W X Y Z a0 a1 a2):=by kernel_rfl
theorem r83_0_1 (α:Type)(K:KT α)(Kn:SK α)(a:Rows)(b:Int)(C:BA)(D F G H I J L M N:Int)(c:BA)(d e g h i j l m o p q r s t w z A B:Int):u83_0_2 (fun σ=>runM Pg E83_0 sh83 c83_0_17 (thenK (fun σ=>tidyK td83_17 σ Kn) K) σ) a b C D F G H I J L M N c d e g h i j l m o p q r s t w z A B=S83_0_1 α a b p q r s t w z A B (fun b p q r s t w z A B=>u83_0_2 Kn a b C D F G H I J L M N c d e g h i j l m o p q r s t w z A B) (u83_0_1 (K .ret) 4 c d e g h i j l m o) (fun O P Q R T U V W X Y Z=>u83_0_0 (K (.exit 0)) a O P C D F G H I J L M N c d e g h i j l m o Q R T U V W X Y Z):=r83_0_1g f68_0 f18_0 J83_0_0 α K Kn a b C D F G H I J L M N c d e g h i j l m o p q r s t w z A B
theorem t83_0_1 (α:Type)(K:KT α):∀ (n:Nat) (a:Rows) (o:Int) (C:BA) (D F G H I J L M N:Int) (b:BA) (c d e g h i j l m p q r s t w z A B:Int),R83_0_1 α a (u83_0_1 (K .ret) 4 b c d e g h i j l m) (fun O P Q R T U V W X Y Z=>u83_0_0 (K (.exit 0)) a O P C D F G H I J L M N b c d e g h i j l m Q R T U V W X Y Z) n o p q r s t w z A B=u83_0_2 (loopT (runM Pg E83_0 sh83 c83_0_17) td83_17 K n) a o C D F G H I J L M N b c d e g h i j l m p q r s t w z A B:=by
 intro n
 induction n with
 | zero=>intros;rfl
 | succ n ih=>intro a o C D F G H I J L M N b c d e g h i j l m p q r s t w z A B;exact (congrArg (fun kn=>S83_0_1 α a o p q r s t w z A B kn (u83_0_1 (K .ret) 4 b c d e g h i j l m) (fun O P Q R T U V W X Y Z=>u83_0_0 (K (.exit 0)) a O P C D F G H I J L M N b c d e g h i j l m Q R T U V W X Y Z)) (funext fun o=>funext fun p=>funext fun q=>funext fun r=>funext fun s=>funext fun t=>funext fun w=>funext fun z=>funext fun A=>funext fun B=>ih a o C D F G H I J L M N b c d e g h i j l m p q r s t w z A B)).trans (r83_0_1 α K (loopT (runM Pg E83_0 sh83 c83_0_17) td83_17 K n) a o C D F G H I J L M N b c d e g h i j l m p q r s t w z A B).symm
theorem m83_0_1:∀ (α:Type) (K:KT α),F83_0_1 L83_0_1 α K=p83_0_2.unc fun σ=>loopT (runM Pg E83_0 sh83 c83_0_17) td83_17 K fuel σ:=fun α K=>by funext a b c d e g h i j l m o p q r s t w z A B C D F G H I J L M N;exact t83_0_1 α K fuel a b c d e g h i j l m o p q r s t w z A B C D F G H I J L M N
abbrev Tf83_0:Type 1:=(α:Type)->Rows->(BA->I10 (Op α))->Op α
def f83_0g (p:TL83_0_1)(q:Tf18_0)(α:Type)(a:Rows)(k1:BA->I10 (Op α)):Op α:=
 cK (((List.length a:Nat):Int) != 10)
 (k1 (⟨#[]⟩:BA) 0 0 0 0 0 0 0 0 0 4)
 (p α a
 (k1 (⟨#[]⟩:BA) 0 0 0 0 0 0 0 0 0 4)
 (fun r s b c d e g h i j l=>rowK a 0 [.str]
 (fun m=>q α m b c d e g h i j l
 (fun o=>cK (o != 0)
 (k1 (⟨#[]⟩:BA) 0 0 0 0 0 0 0 0 0 o)
 (k1 m b c d e g h i j l 0)))) 0 0 0 0 0 0 0 0 0 0)
def f83_0 (α:Type)(a:Rows)(k1:BA->I10 (Op α)):Op α:=f83_0g L83_0_1 f18_0 α a k1
def pa83_0:PT (List DV):=pA [pV false [dL]]
def Fn83_0 (v:Tf83_0)(α:Type)(k:RT α):Rows->Op α:=fun a=>v α a (fun b c d e g h i j l m o=>ur83_0_0 k b c d e g h i j l m o)
def cm83_0g (a:TL83_0_1):MCode:=(.seq (.region r83_2 [] (tO [0,2])) (.seq (.region r83_4 [] (tO [0,2,4])) (.seq (.seq (.region r83_7 [] (tO [0,2,4,14])) (.cond (.tmp 14) (.seq (.region r83_10 [] (tO [2,3])) .ret) .skip)) (.seq (.region r83_12 [] (tO [0,2,4,5])) (.seq (.seq (.region r83_15 [] (tO [0,2,4,5,6])) (.block 0 (.loop td83_17 [⟨p83_0_2,F83_0_1 a⟩] c83_0_17))) (.seq (.region r83_35 [(1,26),(2,26),(4,26),(6,26),(8,26),(11,26),(13,26),(16,26),(18,26),(21,26),(23,26)] (tO [2,4,9])) (.seq (.seq (.region r83_38 [] (tO [2,4,9,10])) (.seq (.region r83_40 [] (tO [2,4,9,10,64])) (.cond (.tmp 64) (.seq (.region r83_43 [] (tO [2,3])) .ret) .skip))) (.seq (.region r83_45 [] (tO [2,3])) .ret))))))))
def cm83_0:MCode:=cm83_0g L83_0_1
theorem gm83_0:cm83_0.Good Pg E83_0 sh83:=⟨TT,TT,⟨TT,⟨TT,TT⟩,TT⟩,TT,⟨TT,g83_0_17,m83_0_1,TT⟩,TT,⟨TT,TT,⟨TT,TT⟩,TT⟩,TT,TT⟩
theorem fm83_0g (c:Tf68_0)(a:Tf18_0)(b:TL83_0_1)(α:Type)(k:RT α):Fn83_0 (f83_0g b a) α k=pa83_0.unc fun ds=>fnM Pg (E83_0g c a) sh83 (cm83_0g b) rs83 k ds:=by kernel_rfl
theorem fm83_0:∀ (α:Type) (k:RT α),Fn83_0 f83_0 α k=pa83_0.unc fun ds=>fnM Pg E83_0 sh83 cm83_0 rs83 k ds:=fm83_0g f68_0 f18_0 L83_0_1
theorem is83:FnIs Pg 83 nt83 tr83 tl83 cm83_0.erase rs83:=⟨Tryz.f83,Tryz.func83,rfl,by kernel_rfl,by kernel_rfl,by kernel_rfl⟩
theorem io83_0:InstOk Pg 83 nt83 ⟨pa83_0,Fn83_0 f83_0⟩:=inst_ok eo83_0 followsTry is83 ⟨⟨sh83,cm83_0,by kernel_rfl,gm83_0,fm83_0⟩⟩
abbrev nt174:Nat:=21
def sh174:SG:=[(12,iS 2),(13,iS 2),(14,iS 2)]
def r174_2:LA:=[mK 4 0]
def r174_5:LA:=[oM 8 1,oO 9 (.len (.tmp 8)),mK 10 0]
def td174_7:OT:=(some ⟨[0,8,9,10],true,[⟨false,8,0,20008,2⟩],[]⟩)
def r174_9:LA:=[bT 11 .lss 10 9]
def r174_15:LA:=[oO 12 (.iaddr 2 none (.tmp 8) (.tmp 10)),lA 13 2 12,oO 6 (.alloc [(cI 0),(cI 0)]),sD 2 6 13]
def r174_17:LA:=[lA 14 2 6,oM 15 0,oO 16 (.call 245 [(.tmp 14),(.tmp 15)]),oM 7 16]
def r174_19:LA:=[oM 17 7,oO 18 (.bin .neq 28 (.tmp 17) (kI 0))]
def r174_22:LA:=[oM 19 7,oM 4 19]
def r174_23:LA:=[bK 20 .add 10 1,oM 10 20]
def r174_25:LA:=[mK 4 0]
def tr174:TG:=[tT 0 [0,1],tT 1 [0,8,9,10],tT 2 [0,8,9,10,11],tT 3 [0,6,8,9,10],tT 4 [0,7,8,9,10],tT 5 [0,7,8,9,10,18],tT 6 [4],tT 7 [0,8,9,10],tT 8 [4]]
def tl174:TG:=[(2,⟨[0,8,9,10],true,[⟨false,8,0,20008,2⟩],[]⟩)]
def rs174:List AResV:=[.tmp 4]
def p174_0_0:PT St:=pS [sI 0,sY 8 dL,sI 9,sI 10] []
def u174_0_0 {β:Type}(g:St->β):Int->Rows->Int->Int->β:=p174_0_0.unc g
def p174_0_1:PT St:=pS [sI 4] []
def u174_0_1 {β:Type}(g:St->β):Int->β:=p174_0_1.unc g
def p174_0_2:PT St:=pS [sI 0,sY 8 dL,sI 9,sI 10,sY 11 dB] []
def u174_0_2 {β:Type}(g:St->β):Int->Rows->Int->Int->Bool->β:=p174_0_2.unc g
def pr174_0_0:PT (List RV):=pRs [wI]
def ur174_0_0 {β:Type}(g:List RV->β):Int->β:=pr174_0_0.unc g
def E174_0g (a:Tf245_0):EnvK:=EnvK.of [⟨245,nt245,[⟨pa245_0,Fn245_0 a⟩]⟩] noSeq
def E174_0:EnvK:=E174_0g f245_0
theorem eo174_0:E174_0.Ok Pg:=EnvK.of_ok noSeq_ok ⟨⟨io245_0,TT⟩,TT⟩
def c174_0_7g:MCode:=(.seq (.region r174_9 [] (tO [0,8,9,10,11])) (.seq (.cond (.tmp 11) .skip (.exit 0)) (.seq (.block 1 (.seq (.region r174_15 [] (tO [0,6,8,9,10])) (.seq (.region r174_17 [] (tO [0,7,8,9,10])) (.seq (.region r174_19 [] (tO [0,7,8,9,10,18])) (.cond (.tmp 18) (.seq (.region r174_22 [] (tO [4])) .ret) .skip))))) (.region r174_23 [] (tO [0,8,9,10])))))
def c174_0_7:MCode:=c174_0_7g
theorem g174_0_7:c174_0_7.Good Pg E174_0 sh174:=⟨TT,⟨TT,TT⟩,⟨TT,TT,TT,⟨TT,TT⟩,TT⟩,TT⟩
def S174_0_0g (d:Tf245_0)(α:Type)(e:Int)(g:Rows)(b a:Int)(kn:Int->Op α)(k1:Int->Op α)(k2:Int->Bool->Op α):Op α:=
 cK (decide (a < b))
 (rowK g a [.int .i64,.int .i64]
 (fun h i=>d α h i e
 (fun c=>cK (c != 0)
 (k1 c)
 (kn (w64 (a+1))))))
 (k2 a (decide (a < b)))
def S174_0_0 (α:Type)(a:Int)(b:Rows)(c d:Int)(kn:Int->Op α)(k1:Int->Op α)(k2:Int->Bool->Op α):Op α:=S174_0_0g f245_0 α a b c d kn k1 k2
def R174_0_0 (α:Type)(a:Int)(b:Rows)(c:Int)(k1:Int->Op α)(k2:Int->Bool->Op α):Nat->Int->Op α
 | 0,_=>none
 | n+1,d=>S174_0_0 α a b c d (R174_0_0 α a b c k1 k2 n) k1 k2
def L174_0_0 (α:Type)(a:Int)(b:Rows)(c:Int)(k1:Int->Op α)(k2:Int->Bool->Op α)(d:Int):Op α:=R174_0_0 α a b c k1 k2 fuel d
abbrev TL174_0_0:Type 1:=(α:Type)->Int->Rows->Int->(Int->Op α)->(Int->Bool->Op α)->Int->Op α
def F174_0_0 (v:TL174_0_0)(α:Type)(K:KT α):Int->Rows->Int->Int->Op α:=fun b c d e=>v α b c d (fun a=>u174_0_1 (K .ret) a) (fun a g=>u174_0_2 (K (.exit 0)) b c d a g) e
theorem r174_0_0g (g:Tf245_0)(α:Type)(K:KT α)(Kn:SK α)(a:Int)(b:Rows)(c d:Int):u174_0_0 (fun σ=>runM Pg (E174_0g g) sh174 (c174_0_7g ) (thenK (fun σ=>tidyK td174_7 σ Kn) K) σ) a b c d=S174_0_0g g α a b c d (fun d=>u174_0_0 Kn a b c d) (fun e=>u174_0_1 (K .ret) e) (fun e h=>u174_0_2 (K (.exit 0)) a b c e h):=by kernel_rfl
theorem r174_0_0 (α:Type)(K:KT α)(Kn:SK α)(a:Int)(b:Rows)(c d:Int):u174_0_0 (fun σ=>runM Pg E174_0 sh174 c174_0_7 (thenK (fun σ=>tidyK td174_7 σ Kn) K) σ) a b c d=S174_0_0 α a b c d (fun d=>u174_0_0 Kn a b c d) (fun e=>u174_0_1 (K .ret) e) (fun e g=>u174_0_2 (K (.exit 0)) a b c e g):=r174_0_0g f245_0 α K Kn a b c d
theorem t174_0_0 (α:Type)(K:KT α):∀ (n:Nat) (a:Int) (b:Rows) (c d:Int),R174_0_0 α a b c (fun e=>u174_0_1 (K .ret) e) (fun e g=>u174_0_2 (K (.exit 0)) a b c e g) n d=u174_0_0 (loopT (runM Pg E174_0 sh174 c174_0_7) td174_7 K n) a b c d:=by
 intro n
 induction n with
 | zero=>intros;rfl
 | succ n ih=>intro a b c d;exact (congrArg (fun kn=>S174_0_0 α a b c d kn (fun e=>u174_0_1 (K .ret) e) (fun e g=>u174_0_2 (K (.exit 0)) a b c e g)) (funext fun d=>ih a b c d)).trans (r174_0_0 α K (loopT (runM Pg E174_0 sh174 c174_0_7) td174_7 K n) a b c d).symm
theorem m174_0_0:∀ (α:Type) (K:KT α),F174_0_0 L174_0_0 α K=p174_0_0.unc fun σ=>loopT (runM Pg E174_0 sh174 c174_0_7) td174_7 K fuel σ:=fun α K=>by funext a b c d;exact t174_0_0 α K fuel a b c d
abbrev Tf174_0:Type 1:=(α:Type)->Int->Rows->(Int->Op α)->Op α
def f174_0g (b:TL174_0_0)(α:Type)(c:Int)(a:Rows)(k1:Int->Op α):Op α:=
 b α c a ((List.length a:Nat):Int)
 (fun d=>k1 d)
 (fun e g=>k1 0) 0
def f174_0 (α:Type)(a:Int)(b:Rows)(k1:Int->Op α):Op α:=f174_0g L174_0_0 α a b k1
def pa174_0:PT (List DV):=pA [vI,pV false [dL]]
def Fn174_0 (v:Tf174_0)(α:Type)(k:RT α):Int->Rows->Op α:=fun a b=>v α a b (fun c=>ur174_0_0 k c)
def cm174_0g (a:TL174_0_0):MCode:=(.seq (.region r174_2 [] (tO [0,1])) (.seq (.seq (.region r174_5 [] (tO [0,8,9,10])) (.block 0 (.loop td174_7 [⟨p174_0_0,F174_0_0 a⟩] c174_0_7))) (.seq (.region r174_25 [] (tO [4])) .ret)))
def cm174_0:MCode:=cm174_0g L174_0_0
theorem gm174_0:cm174_0.Good Pg E174_0 sh174:=⟨TT,⟨TT,g174_0_7,m174_0_0,TT⟩,TT,TT⟩
theorem fm174_0g (b:Tf245_0)(a:TL174_0_0)(α:Type)(k:RT α):Fn174_0 (f174_0g a) α k=pa174_0.unc fun ds=>fnM Pg (E174_0g b) sh174 (cm174_0g a) rs174 k ds:=by kernel_rfl
theorem fm174_0:∀ (α:Type) (k:RT α),Fn174_0 f174_0 α k=pa174_0.unc fun ds=>fnM Pg E174_0 sh174 cm174_0 rs174 k ds:=fm174_0g f245_0 L174_0_0
theorem is174:FnIs Pg 174 nt174 tr174 tl174 cm174_0.erase rs174:=⟨Tryz.f174,Tryz.func174,rfl,by kernel_rfl,by kernel_rfl,by kernel_rfl⟩
theorem io174_0:InstOk Pg 174 nt174 ⟨pa174_0,Fn174_0 f174_0⟩:=inst_ok eo174_0 followsTry is174 ⟨⟨sh174,cm174_0,by kernel_rfl,gm174_0,fm174_0⟩⟩
abbrev nt26:Nat:=89
def sh26:SG:=[(31,[.str]),(32,[.str]),(38,[.str]),(39,[.str]),(48,[.str]),(49,[.str]),(73,[.str,.int .i64,.int .i64,.int .i64,.int .i64,.int .i64,.int .i64,.int .i64,.int .i64,.int .i64]),(82,[.str,.int .i64,.int .i64,.int .i64,.int .i64,.int .i64,.int .i64,.int .i64,.int .i64,.int .i64])]
def r26_2:LA:=[oO 2 (.mv (.const (.slice none 0 0))),mK 3 0,mK 4 0]
def r26_5:LA:=[oM 13 0,oO 14 (.pure (oB (ln9 13) 3)),bK 15 .gtr 14 60000]
def r26_8:LA:=[oO 2 (.mv (.const (.slice none 0 0))),mK 3 0,mK 4 8]
def r26_10:LA:=[oO 5 (.mv (.const (.slice none 0 0)))]
def r26_12:LA:=[oM 16 0,oO 17 (.call 67 [(.tmp 16),(.const (.int .u8 10))]),oM 6 17]
def r26_15:LA:=[mK 7 0]
def td26_17:OT:=(some ⟨[5,6,7],true,[⟨false,5,0,20005,10⟩,⟨false,6,0,20006,1⟩],[]⟩)
def r26_20:LA:=[oM 18 7,oM 19 6,oO 20 (.len (.tmp 19)),bT 21 .lss 18 20]
def r26_26:LA:=[oM 24 7,oM 25 6,oO 26 (.len (.tmp 25)),bK 27 .sub 26 1,bT 28 .eql 24 27]
def r26_30:LA:=[oM 29 6,oM 30 7,oO 31 (.iaddr 1 none (.tmp 29) (.tmp 30)),lD 32 31,⟨(some 33),(.bin .neq 9 (.tmp 32) (.const (.string ⟨#[]⟩))),none⟩]
def r26_33:LA:=[oM 34 7,bK 35 .add 34 1,oO 2 (.mv (.const (.slice none 0 0))),oM 3 35,mK 4 4]
def r26_35:LA:=[oM 36 6,oM 37 7,oO 38 (.iaddr 1 none (.tmp 36) (.tmp 37)),lD 39 38,oO 40 (.call 67 [(.tmp 39),(.const (.int .u8 32))]),oM 8 40]
def r26_38:LA:=[oM 41 8,oO 42 (.len (.tmp 41)),bK 43 .neq 42 11]
def r26_41:LA:=[oM 44 7,bK 45 .add 44 1,oO 2 (.mv (.const (.slice none 0 0))),oM 3 45,mK 4 4]
def r26_43:LA:=[oM 47 8,oO 48 (.iaddr 1 none (.tmp 47) (kI 10)),lD 49 48,oO 50 (.call 68 [(.tmp 49),(kI 7)]),oM 46 50,oO 51 (.extract 0 (.tmp 46)),oO 52 (.extract 1 (.tmp 46)),oM 9 51,oM 10 52]
def r26_45:LA:=[oM 54 8,oO 55 (.slice 1 false (.tmp 54) none (some (kI 10))),oO 56 (.call 83 [.tmp 55]),oM 53 56,oO 57 (.extract 0 (.tmp 53)),oO 58 (.extract 1 (.tmp 53)),⟨(some 11),(.alloc [(.d (.v (.string ⟨#[]⟩))),(cI 0),(cI 0),(cI 0),(cI 0),(cI 0),(cI 0),(cI 0),(cI 0),(cI 0)]),none⟩,sD 10 11 57,oM 12 58]
def r26_48:LA:=[oM 59 10,oO 60 (.pure (oB (.unOp .not 4 (.tmp 59)) 4)),oM 61 60,oG 62 (.mv (.tmp 12)) 61 false,oG 63 (.bin .eql 3 (.tmp 62) (kI 4)) 61 false,oO 64 (.pick (.tmp 61) (.const (.bool true)) (.tmp 63))]
def r26_51:LA:=[oM 65 7,bK 66 .add 65 1,oO 2 (.mv (.const (.slice none 0 0))),oM 3 66,mK 4 4]
def r26_54:LA:=[oM 67 12,bK 68 .neq 67 0]
def r26_57:LA:=[oM 69 7,bK 70 .add 69 1,oM 71 12,oO 2 (.mv (.const (.slice none 0 0))),oM 3 70,oM 4 71]
def r26_60:LA:=[oM 72 9,lA 73 10 11,oO 74 (.call 17 [.tmp 73]),oM 75 7,bK 76 .add 75 1,oO 77 (.call 89 [(.tmp 74),(.tmp 76)]),bT 78 .neq 72 77]
def r26_63:LA:=[oM 79 7,bK 80 .add 79 1,oO 2 (.mv (.const (.slice none 0 0))),oM 3 80,mK 4 21]
def r26_64:LA:=[oM 81 5,lA 82 10 11,⟨(some 83),(.bslice 10 1 [(.v (.string ⟨#[]⟩)),(.v (.int .i64 0)),(.v (.int .i64 0)),(.v (.int .i64 0)),(.v (.int .i64 0)),(.v (.int .i64 0)),(.v (.int .i64 0)),(.v (.int .i64 0)),(.v (.int .i64 0)),(.v (.int .i64 0))] [(0,(.tmp 82))]),none⟩,oO 84 (.append 10 88 (.tmp 81) (.tmp 83)),oM 5 84]
def r26_65:LA:=[oM 22 7,bK 23 .add 22 1,oM 7 23]
def r26_68:LA:=[oM 85 5,oO 86 (.len (.tmp 85)),bK 87 .gtr 86 20]
def r26_71:LA:=[oO 2 (.mv (.const (.slice none 0 0))),mK 3 0,mK 4 8]
def r26_73:LA:=[oM 88 5,oM 2 88,mK 3 0,mK 4 0]
def tr26:TG:=[tT 0 [0],tT 1 [0,15],(2,⟨[2,3,4],true,[⟨false,2,0,20002,10⟩],[]⟩),tT 3 [0,5],tT 4 [5,6],tT 5 [5,6,7],tT 6 [5,6,7,21],tT 8 [5,6,7,28],tT 9 [5,7,33],(10,⟨[2,3,4],true,[⟨false,2,0,20002,10⟩],[]⟩),tT 11 [5,6,7,8],tT 12 [5,6,7,8,43],(13,⟨[2,3,4],true,[⟨false,2,0,20002,10⟩],[]⟩),tT 14 [5,6,7,8,9,10],tT 15 [5,6,7,9,10,11,12],tT 16 [5,6,7,9,11,12,64],(17,⟨[2,3,4],true,[⟨false,2,0,20002,10⟩],[]⟩),tT 18 [5,6,7,9,11,12,68],(19,⟨[2,3,4],true,[⟨false,2,0,20002,10⟩],[]⟩),tT 20 [5,6,7,11,78],(21,⟨[2,3,4],true,[⟨false,2,0,20002,10⟩],[]⟩),tT 22 [5,6,7],tT 7 [5,6,7],tT 23 [5,87],(24,⟨[2,3,4],true,[⟨false,2,0,20002,10⟩],[]⟩),(25,⟨[2,3,4],true,[⟨false,2,0,20002,10⟩],[]⟩)]
def tl26:TG:=[(6,⟨[5,6,7],true,[⟨false,5,0,20005,10⟩,⟨false,6,0,20006,1⟩],[]⟩)]
def rs26:List AResV:=[.tmp 2,.tmp 3,.tmp 4]
def p26_0_0:PT St:=pS [sl 5 (aV false [(cRef 20005)]),sl 6 (aV false [(cRef 20006)]),sI 7] [eOwn 20005 10,eOwn 20006 1]
def u26_0_0 {β:Type}(g:St->β):Int->Rows->Rows->β:=p26_0_0.unc g
def p26_0_1:PT St:=pS [sl 2 (aV false [(cRef 20002)]),sI 3,sI 4] [eOwn 20002 10]
def u26_0_1 {β:Type}(g:St->β):Int->Int->Rows->β:=p26_0_1.unc g
def p26_0_2:PT St:=pS [sl 5 (aV false [(cRef 20005)]),sI 7,sY 33 dB] [eOwn 20005 10]
def u26_0_2 {β:Type}(g:St->β):Int->Bool->Rows->β:=p26_0_2.unc g
def p26_0_3:PT St:=pS [sl 5 (aV false [(cRef 20005)]),sl 6 (aV false [(cRef 20006)]),sI 7,sY 21 dB] [eOwn 20005 10,eOwn 20006 1]
def u26_0_3 {β:Type}(g:St->β):Int->Bool->Rows->Rows->β:=p26_0_3.unc g
def pr26_0_0:PT (List RV):=pRs [pR false [rO 10],wI,wI]
def ur26_0_0 {β:Type}(g:List RV->β):Rows->Int->Int->β:=pr26_0_0.unc g
def E26_0g (a:Tf67_0)(b:Tf68_0)(c:Tf83_0)(d:Tf17_0)(e:Tf89_0):EnvK:=EnvK.of [⟨67,nt67,[⟨pa67_0,Fn67_0 a⟩]⟩,⟨68,nt68,[⟨pa68_0,Fn68_0 b⟩]⟩,⟨83,nt83,[⟨pa83_0,Fn83_0 c⟩]⟩,⟨17,nt17,[⟨pa17_0,Fn17_0 d⟩]⟩,⟨89,nt89,[⟨pa89_0,Fn89_0 e⟩]⟩] noSeq
def E26_0:EnvK:=E26_0g f67_0 f68_0 f83_0 f17_0 f89_0
theorem eo26_0:E26_0.Ok Pg:=EnvK.of_ok noSeq_ok ⟨⟨io67_0,TT⟩,⟨io68_0,TT⟩,⟨io83_0,TT⟩,⟨io17_0,TT⟩,⟨io89_0,TT⟩,TT⟩
def c26_0_17g:MCode:=(.seq (.seq (.region r26_20 [] (tO [5,6,7,21])) (.cond (.tmp 21) .skip (.exit 0))) (.seq (.block 1 (.seq (.seq (.region r26_26 [] (tO [5,6,7,28])) (.cond (.tmp 28) (.seq (.seq (.region r26_30 [] (tO [5,7,33])) (.cond (.tmp 33) (.seq (.region r26_33 [] (some ⟨[2,3,4],true,[⟨false,2,0,20002,10⟩],[]⟩)) .ret) .skip)) (.exit 0)) .skip)) (.seq (.region r26_35 [] (tO [5,6,7,8])) (.seq (.seq (.region r26_38 [] (tO [5,6,7,8,43])) (.cond (.tmp 43) (.seq (.region r26_41 [] (some ⟨[2,3,4],true,[⟨false,2,0,20002,10⟩],[]⟩)) .ret) .skip)) (.seq (.region r26_43 [] (tO [5,6,7,8,9,10])) (.seq (.region r26_45 [] (tO [5,6,7,9,10,11,12])) (.seq (.seq (.region r26_48 [] (tO [5,6,7,9,11,12,64])) (.cond (.tmp 64) (.seq (.region r26_51 [] (some ⟨[2,3,4],true,[⟨false,2,0,20002,10⟩],[]⟩)) .ret) .skip)) (.seq (.seq (.region r26_54 [] (tO [5,6,7,9,11,12,68])) (.cond (.tmp 68) (.seq (.region r26_57 [] (some ⟨[2,3,4],true,[⟨false,2,0,20002,10⟩],[]⟩)) .ret) .skip)) (.seq (.seq (.region r26_60 [] (tO [5,6,7,11,78])) (.cond (.tmp 78) (.seq (.region r26_63 [] (some ⟨[2,3,4],true,[⟨false,2,0,20002,10⟩],[]⟩)) .ret) .skip)) (.region r26_64 [] (tO [5,6,7]))))))))))) (.region r26_65 [] (tO [5,6,7]))))
def c26_0_17:MCode:=c26_0_17g
theorem g26_0_17:c26_0_17.Good Pg E26_0 sh26:=⟨⟨TT,TT,TT⟩,⟨⟨TT,⟨⟨TT,⟨TT,TT⟩,TT⟩,TT⟩,TT⟩,TT,⟨TT,⟨TT,TT⟩,TT⟩,TT,TT,⟨TT,⟨TT,TT⟩,TT⟩,⟨TT,⟨TT,TT⟩,TT⟩,⟨TT,⟨TT,TT⟩,TT⟩,TT⟩,TT⟩
def S26_0_0g (t:Tf17_0)(w:Tf67_0)(z:Tf68_0)(A:Tf83_0)(B:Tf89_0)(α:Type)(b:Rows)(a:Int)(d:Rows)(kn:Int->Rows->Op α)(k1:Int->Int->Op α)(k2:Int->Bool->Rows->Op α)(k3:Int->Bool->Rows->Op α):Op α:=
 cK (decide (a < ((List.length b:Nat):Int)))
 (cK (a == (w64 (((List.length b:Nat):Int) - 1)))
 (ixK b a 1
 (ldK b (Int.toNat a) 0 [.str]
 (fun s=>cK (!(s.toList == (⟨#[]⟩:BA).toList))
 (k1 (w64 (a+1)) 4)
 (k2 a (!(s.toList == (⟨#[]⟩:BA).toList)) d))))
 (ixK b a 1
 (ldK b (Int.toNat a) 0 [.str]
 (fun C=>w α C 32
 (fun c=>cK (((List.length c:Nat):Int) != 11)
 (k1 (w64 (a+1)) 4)
 (ixK c 10 1
 (ldK c 10 0 [.str]
 (fun D=>z α D 7
 (fun F G=>gK (decide ((0:Int)<=0/\0<=(10:Int)/\(10:Int)<=((List.length c:Nat):Int))) (A α (List.drop 0 (List.take 10 c))
 (fun e g h i j l m o p q r=>cK (!G)
 (k1 (w64 (a+1)) 4)
 (cK (r == 4)
 (k1 (w64 (a+1)) 4)
 (cK (r != 0)
 (k1 (w64 (a+1)) r)
 (t α e g h i j l m o p q
 (fun H=>B α H (w64 (a+1))
 (fun I=>cK (F != I)
 (k1 (w64 (a+1)) 21)
 (gK (apOk 10 88 d [[DC.v (.string e),DC.v (.int .i64 g),DC.v (.int .i64 h),DC.v (.int .i64 i),DC.v (.int .i64 j),DC.v (.int .i64 l),DC.v (.int .i64 m),DC.v (.int .i64 o),DC.v (.int .i64 p),DC.v (.int .i64 q)]]) (kn (w64 (a+1)) (d++[[DC.v (.string e),DC.v (.int .i64 g),DC.v (.int .i64 h),DC.v (.int .i64 i),DC.v (.int .i64 j),DC.v (.int .i64 l),DC.v (.int .i64 m),DC.v (.int .i64 o),DC.v (.int .i64 p),DC.v (.int .i64 q)]])))))))))))))))))))
 (k3 a (decide (a < ((List.length b:Nat):Int))) d)
def S26_0_0 (α:Type)(a:Rows)(b:Int)(c:Rows)(kn:Int->Rows->Op α)(k1:Int->Int->Op α)(k2:Int->Bool->Rows->Op α)(k3:Int->Bool->Rows->Op α):Op α:=S26_0_0g f17_0 f67_0 f68_0 f83_0 f89_0 α a b c kn k1 k2 k3
def R26_0_0 (α:Type)(a:Rows)(k1:Int->Int->Op α)(k2:Int->Bool->Rows->Op α)(k3:Int->Bool->Rows->Op α):Nat->Int->Rows->Op α
 | 0,_,_=>none
 | n+1,b,c=>S26_0_0 α a b c (R26_0_0 α a k1 k2 k3 n) k1 k2 k3
def L26_0_0 (α:Type)(a:Rows)(k1:Int->Int->Op α)(k2:Int->Bool->Rows->Op α)(k3:Int->Bool->Rows->Op α)(b:Int)(c:Rows):Op α:=R26_0_0 α a k1 k2 k3 fuel b c
abbrev TL26_0_0:Type 1:=(α:Type)->Rows->(Int->Int->Op α)->(Int->Bool->Rows->Op α)->(Int->Bool->Rows->Op α)->Int->Rows->Op α
def F26_0_0 (v:TL26_0_0)(α:Type)(K:KT α):Int->Rows->Rows->Op α:=fun e g d=>v α d (fun a b=>u26_0_1 (K .ret) a b ([]:Rows)) (fun a b c=>u26_0_2 (K (.exit 0)) a b c) (fun a b c=>u26_0_3 (K (.exit 0)) a b c d) e g
theorem r26_0_0g (h:Tf67_0)(i:Tf68_0)(j:Tf83_0)(l:Tf17_0)(m:Tf89_0)(α:Type)(K:KT α)(Kn:SK α)(c:Int)(d e:Rows):u26_0_0 (fun σ=>runM Pg (E26_0g h i j l m) sh26 (c26_0_17g ) (thenK (fun σ=>tidyK td26_17 σ Kn) K) σ) c d e=S26_0_0g l h i j m α e c d (fun c d=>u26_0_0 Kn c d e) (fun a b=>u26_0_1 (K .ret) a b ([]:Rows)) (fun a b g=>u26_0_2 (K (.exit 0)) a b g) (fun a b g=>u26_0_3 (K (.exit 0)) a b g e):=by kernel_rfl
theorem r26_0_0 (α:Type)(K:KT α)(Kn:SK α)(a:Int)(b c:Rows):u26_0_0 (fun σ=>runM Pg E26_0 sh26 c26_0_17 (thenK (fun σ=>tidyK td26_17 σ Kn) K) σ) a b c=S26_0_0 α c a b (fun a b=>u26_0_0 Kn a b c) (fun d e=>u26_0_1 (K .ret) d e ([]:Rows)) (fun d e g=>u26_0_2 (K (.exit 0)) d e g) (fun d e g=>u26_0_3 (K (.exit 0)) d e g c):=r26_0_0g f67_0 f68_0 f83_0 f17_0 f89_0 α K Kn a b c
theorem t26_0_0 (α:Type)(K:KT α):∀ (n:Nat) (d:Int) (e c:Rows),R26_0_0 α c (fun a b=>u26_0_1 (K .ret) a b ([]:Rows)) (fun a b g=>u26_0_2 (K (.exit 0)) a b g) (fun a b g=>u26_0_3 (K (.exit 0)) a b g c) n d e=u26_0_0 (loopT (runM Pg E26_0 sh26 c26_0_17) td26_17 K n) d e c:=by
 intro n
 induction n with
 | zero=>intros;rfl
 | succ n ih=>intro d e c;exact (congrArg (fun kn=>S26_0_0 α c d e kn (fun a b=>u26_0_1 (K .ret) a b ([]:Rows)) (fun a b g=>u26_0_2 (K (.exit 0)) a b g) (fun a b g=>u26_0_3 (K (.exit 0)) a b g c)) (funext fun d=>funext fun e=>ih d e c)).trans (r26_0_0 α K (loopT (runM Pg E26_0 sh26 c26_0_17) td26_17 K n) d e c).symm
theorem m26_0_0:∀ (α:Type) (K:KT α),F26_0_0 L26_0_0 α K=p26_0_0.unc fun σ=>loopT (runM Pg E26_0 sh26 c26_0_17) td26_17 K fuel σ:=fun α K=>by funext a b c;exact t26_0_0 α K fuel a b c
abbrev Tf26_0:Type 1:=(α:Type)->BA->(Rows->Int->Int->Op α)->Op α
def f26_0g (d:TL26_0_0)(e:Tf67_0)(α:Type)(a:BA)(k1:Rows->Int->Int->Op α):Op α:=
 cK (decide (60000 < ((ByteArray.size a:Nat):Int)))
 (k1 ([]:Rows) 0 8)
 (e α a 10
 (fun g=>d α g
 (fun h i=>k1 ([]:Rows) h i)
 (fun j l b=>cK (decide (20 < ((List.length b:Nat):Int)))
 (k1 ([]:Rows) 0 8)
 (k1 b 0 0))
 (fun m o c=>cK (decide (20 < ((List.length c:Nat):Int)))
 (k1 ([]:Rows) 0 8)
 (k1 c 0 0)) 0 ([]:Rows)))
def f26_0 (α:Type)(a:BA)(k1:Rows->Int->Int->Op α):Op α:=f26_0g L26_0_0 f67_0 α a k1
def pa26_0:PT (List DV):=pA [pV false [dS]]
def Fn26_0 (v:Tf26_0)(α:Type)(k:RT α):BA->Op α:=fun a=>v α a (fun b c d=>ur26_0_0 k b c d)
def cm26_0g (a:TL26_0_0):MCode:=(.seq (.region r26_2 [] (tO [0])) (.seq (.seq (.region r26_5 [] (tO [0,15])) (.cond (.tmp 15) (.seq (.region r26_8 [] (some ⟨[2,3,4],true,[⟨false,2,0,20002,10⟩],[]⟩)) .ret) .skip)) (.seq (.region r26_10 [] (tO [0,5])) (.seq (.region r26_12 [] (tO [5,6])) (.seq (.seq (.region r26_15 [] (tO [5,6,7])) (.block 0 (.loop td26_17 [⟨p26_0_0,F26_0_0 a⟩] c26_0_17))) (.seq (.seq (.region r26_68 [] (tO [5,87])) (.cond (.tmp 87) (.seq (.region r26_71 [] (some ⟨[2,3,4],true,[⟨false,2,0,20002,10⟩],[]⟩)) .ret) .skip)) (.seq (.region r26_73 [] (some ⟨[2,3,4],true,[⟨false,2,0,20002,10⟩],[]⟩)) .ret)))))))
def cm26_0:MCode:=cm26_0g L26_0_0
theorem gm26_0:cm26_0.Good Pg E26_0 sh26:=⟨TT,⟨TT,⟨TT,TT⟩,TT⟩,TT,TT,⟨TT,g26_0_17,m26_0_0,TT⟩,⟨TT,⟨TT,TT⟩,TT⟩,TT,TT⟩
theorem fm26_0g (a:Tf67_0)(c:Tf68_0)(d:Tf83_0)(e:Tf17_0)(g:Tf89_0)(b:TL26_0_0)(α:Type)(k:RT α):Fn26_0 (f26_0g b a) α k=pa26_0.unc fun ds=>fnM Pg (E26_0g a c d e g) sh26 (cm26_0g b) rs26 k ds:=by kernel_rfl
theorem fm26_0:∀ (α:Type) (k:RT α),Fn26_0 f26_0 α k=pa26_0.unc fun ds=>fnM Pg E26_0 sh26 cm26_0 rs26 k ds:=fm26_0g f67_0 f68_0 f83_0 f17_0 f89_0 L26_0_0
theorem is26:FnIs Pg 26 nt26 tr26 tl26 cm26_0.erase rs26:=⟨Tryz.f26,Tryz.func26,rfl,by kernel_rfl,by kernel_rfl,by kernel_rfl⟩
theorem io26_0:InstOk Pg 26 nt26 ⟨pa26_0,Fn26_0 f26_0⟩:=inst_ok eo26_0 followsTry is26 ⟨⟨sh26,cm26_0,by kernel_rfl,gm26_0,fm26_0⟩⟩
abbrev nt20:Nat:=14
def sh20:SG:=[]
def r20_2:LA:=[⟨(some 2),(.alloc [(.d (.v (.string ⟨#[]⟩))),(cI 0),(cI 0),(cI 0),(cI 0),(cI 0),(cI 0),(cI 0),(cI 0),(cI 0)]),none⟩,mK 3 0]
def r20_5:LA:=[oM 4 0,oO 5 (.call 67 [(.tmp 4),(.const (.int .u8 10))]),oO 6 (.len (.tmp 5)),bK 7 .gtr 6 1]
def r20_8:LA:=[⟨(some 8),(.build [(.d (.v (.string ⟨#[]⟩))),(cI 0),(cI 0),(cI 0),(cI 0),(cI 0),(cI 0),(cI 0),(cI 0),(cI 0)] []),none⟩,sD 10 2 8,mK 3 4]
def r20_10:LA:=[oM 9 0,oO 10 (.call 67 [(.tmp 9),(.const (.int .u8 32))]),oO 11 (.call 83 [.tmp 10]),oO 12 (.extract 0 (.tmp 11)),oO 13 (.extract 1 (.tmp 11)),sD 10 2 12,oM 3 13]
def tr20:TG:=[tT 0 [0,2],tT 1 [0,2,7],tT 2 [2,3],tT 3 [2,3]]
def tl20:TG:=[]
def rs20:List AResV:=[.cell 2 true 10,.tmp 3]
def pr20_0_0:PT (List RV):=pRs [pR true [rD dS,rD (dI .i64),rD (dI .i64),rD (dI .i64),rD (dI .i64),rD (dI .i64),rD (dI .i64),rD (dI .i64),rD (dI .i64),rD (dI .i64)],wI]
def ur20_0_0 {β:Type}(g:List RV->β):BA->I10 β:=pr20_0_0.unc g
def E20_0g (a:Tf67_0)(b:Tf83_0):EnvK:=EnvK.of [⟨67,nt67,[⟨pa67_0,Fn67_0 a⟩]⟩,⟨83,nt83,[⟨pa83_0,Fn83_0 b⟩]⟩] noSeq
def E20_0:EnvK:=E20_0g f67_0 f83_0
theorem eo20_0:E20_0.Ok Pg:=EnvK.of_ok noSeq_ok ⟨⟨io67_0,TT⟩,⟨io83_0,TT⟩,TT⟩
abbrev Tf20_0:Type 1:=(α:Type)->BA->(BA->I10 (Op α))->Op α
def f20_0g (a:Tf67_0)(c:Tf83_0)(α:Type)(b:BA)(k1:BA->I10 (Op α)):Op α:=
 a α b 10
 (fun d=>cK (decide (1 < ((List.length d:Nat):Int)))
 (k1 (⟨#[]⟩:BA) 0 0 0 0 0 0 0 0 0 4)
 (a α b 32
 (fun e=>c α e
 (fun g h i j l m o p q r s=>k1 g h i j l m o p q r s))))
def f20_0 (α:Type)(a:BA)(k1:BA->I10 (Op α)):Op α:=f20_0g f67_0 f83_0 α a k1
def pa20_0:PT (List DV):=pA [pV false [dS]]
def Fn20_0 (v:Tf20_0)(α:Type)(k:RT α):BA->Op α:=fun a=>v α a (fun b c d e g h i j l m o=>ur20_0_0 k b c d e g h i j l m o)
def cm20_0g:MCode:=(.seq (.region r20_2 [] (tO [0,2])) (.seq (.seq (.region r20_5 [] (tO [0,2,7])) (.cond (.tmp 7) (.seq (.region r20_8 [] (tO [2,3])) .ret) .skip)) (.seq (.region r20_10 [] (tO [2,3])) .ret)))
def cm20_0:MCode:=cm20_0g
theorem gm20_0:cm20_0.Good Pg E20_0 sh20:=⟨TT,⟨TT,⟨TT,TT⟩,TT⟩,TT,TT⟩
theorem fm20_0g (a:Tf67_0)(b:Tf83_0)(α:Type)(k:RT α):Fn20_0 (f20_0g a b) α k=pa20_0.unc fun ds=>fnM Pg (E20_0g a b) sh20 (cm20_0g ) rs20 k ds:=by kernel_rfl
theorem fm20_0:∀ (α:Type) (k:RT α),Fn20_0 f20_0 α k=pa20_0.unc fun ds=>fnM Pg E20_0 sh20 cm20_0 rs20 k ds:=fm20_0g f67_0 f83_0
theorem is20:FnIs Pg 20 nt20 tr20 tl20 cm20_0.erase rs20:=⟨Tryz.f20,Tryz.func20,rfl,by kernel_rfl,by kernel_rfl,by kernel_rfl⟩
theorem io20_0:InstOk Pg 20 nt20 ⟨pa20_0,Fn20_0 f20_0⟩:=inst_ok eo20_0 followsTry is20 ⟨⟨sh20,cm20_0,by kernel_rfl,gm20_0,fm20_0⟩⟩
abbrev nt82:Nat:=22
def sh82:SG:=[(5,[.str]),(7,iT),(9,iS 2),(15,iS 2),(17,iS 2),(19,iS 2)]
def r82_2:LA:=[oO 1 (.box (.tmp 0)),mK 2 0]
def r82_5:LA:=[fA 4 0 1,lD 5 4,fA 6 1 1,lD 7 6,fA 8 2 1,lA 9 2 8,oO 10 (.call 124 [(.tmp 5),(.tmp 7),(.tmp 9)]),oM 3 10]
def r82_7:LA:=[oM 11 3,oO 12 (.bin .neq 28 (.tmp 11) (kI 0))]
def r82_10:LA:=[oM 13 3,oM 2 13]
def r82_12:LA:=[fA 14 4 1,lA 15 2 14,fA 16 6 1,lA 17 2 16,fA 18 8 1,lA 19 2 18,oO 20 (.bslice 2 3 [(.v (.int .i64 0)),(.v (.int .i64 0))] [(0,(.tmp 15)),(1,(.tmp 17)),(2,(.tmp 19))]),oO 21 (.call 174 [(kI 1048576),(.tmp 20)]),oM 2 21]
def tr82:TG:=[tT 0 [1],tT 1 [1,3],tT 2 [1,3,12],tT 3 [2],tT 4 [2]]
def tl82:TG:=[]
def rs82:List AResV:=[.tmp 2]
def pr82_0_0:PT (List RV):=pRs [wI]
def ur82_0_0 {β:Type}(g:List RV->β):Int->β:=pr82_0_0.unc g
def E82_0g (a:Tf124_0)(b:Tf174_0):EnvK:=EnvK.of [⟨124,nt124,[⟨pa124_0,Fn124_0 a⟩]⟩,⟨174,nt174,[⟨pa174_0,Fn174_0 b⟩]⟩] noSeq
def E82_0:EnvK:=E82_0g f124_0 f174_0
theorem eo82_0:E82_0.Ok Pg:=EnvK.of_ok noSeq_ok ⟨⟨io124_0,TT⟩,⟨io174_0,TT⟩,TT⟩
abbrev Tf82_0:Type 1:=(α:Type)->BA->Int->Int->Int->Int->Int->Int->Int->Int->Int->(Int->Op α)->Op α
def f82_0g (b:Tf124_0)(c:Tf174_0)(α:Type)(d:BA)(e g h i j l m o p:Int)(k1:Int->Op α):Op α:=
 b α d e g h
 (fun a=>cK (a != 0)
 (k1 a)
 (c α 1048576 [[DC.v (.int .i64 i),DC.v (.int .i64 j)],[DC.v (.int .i64 l),DC.v (.int .i64 m)],[DC.v (.int .i64 o),DC.v (.int .i64 p)]]
 (fun q=>k1 q)))
def f82_0 (α:Type)(a:BA)(b c d e g h i j l:Int)(k1:Int->Op α):Op α:=f82_0g f124_0 f174_0 α a b c d e g h i j l k1
def pa82_0:PT (List DV):=pA [pV true [dS,(dI .i64),(dI .i64),(dI .i64),(dI .i64),(dI .i64),(dI .i64),(dI .i64),(dI .i64),(dI .i64)]]
def Fn82_0 (v:Tf82_0)(α:Type)(k:RT α):BA->I9 (Op α):=fun a b c d e g h i j l=>v α a b c d e g h i j l (fun m=>ur82_0_0 k m)
def cm82_0g:MCode:=(.seq (.region r82_2 [] (tO [1])) (.seq (.seq (.region r82_5 [] (tO [1,3])) (.seq (.region r82_7 [] (tO [1,3,12])) (.cond (.tmp 12) (.seq (.region r82_10 [] (tO [2])) .ret) .skip))) (.seq (.region r82_12 [] (tO [2])) .ret)))
def cm82_0:MCode:=cm82_0g
theorem gm82_0:cm82_0.Good Pg E82_0 sh82:=⟨TT,⟨TT,TT,⟨TT,TT⟩,TT⟩,TT,TT⟩
theorem fm82_0g (a:Tf124_0)(b:Tf174_0)(α:Type)(k:RT α):Fn82_0 (f82_0g a b) α k=pa82_0.unc fun ds=>fnM Pg (E82_0g a b) sh82 (cm82_0g ) rs82 k ds:=by kernel_rfl
theorem fm82_0:∀ (α:Type) (k:RT α),Fn82_0 f82_0 α k=pa82_0.unc fun ds=>fnM Pg E82_0 sh82 cm82_0 rs82 k ds:=fm82_0g f124_0 f174_0
theorem is82:FnIs Pg 82 nt82 tr82 tl82 cm82_0.erase rs82:=⟨Tryz.f82,Tryz.func82,rfl,by kernel_rfl,by kernel_rfl,by kernel_rfl⟩
theorem io82_0:InstOk Pg 82 nt82 ⟨pa82_0,Fn82_0 f82_0⟩:=inst_ok eo82_0 followsTry is82 ⟨⟨sh82,cm82_0,by kernel_rfl,gm82_0,fm82_0⟩⟩
abbrev nt23:Nat:=63
def sh23:SG:=[(20,[.sl]),(42,[.str,.int .i64,.int .i64,.int .i64,.int .i64,.int .i64,.int .i64,.int .i64,.int .i64,.int .i64]),(49,[.str,.int .i64,.int .i64,.int .i64,.int .i64,.int .i64,.int .i64,.int .i64,.int .i64,.int .i64]),(52,iT),(55,[.sl]),(56,[.str,.int .i64,.int .i64,.int .i64,.int .i64,.int .i64,.int .i64,.int .i64,.int .i64,.int .i64]),(59,[.sl]),(62,[.sl])]
def r23_2:LA:=[oO 2 (.alloc [.nils]),oO 3 (.alloc [(cI 0)]),oO 4 (.alloc [(cI 0)])]
def r23_5:LA:=[oM 14 0,oO 15 (.pure (oB (ln9 14) 3)),bK 16 .gtr 15 60000]
def r23_8:LA:=[oD (.store 1 (.tmp 2) (.const (.slice none 0 0))),oD (.store 1 (.tmp 3) (kI 0)),oD (.store 1 (.tmp 4) (kI 8))]
def r23_10:LA:=[oO 5 (.alloc [.nils])]
def r23_13:LA:=[oM 17 0,oO 18 (.call 87 [.tmp 17])]
def td23_15:OT:=(some ⟨[2,3,4,5,18],true,[⟨true,2,0,30200,10⟩,⟨true,5,0,30500,10⟩],[]⟩)
def r23_16:LA:=[oM 6 19]
def r23_19:LA:=[lD 20 5,oO 21 (.len (.tmp 20)),bK 22 .add 21 1,oM 7 22]
def r23_21:LA:=[oM 24 6,⟨(some 25),(.call 88 [(.tmp 24),(.const (.string ⟨#[10]⟩))]),none⟩,oM 23 25,oO 26 (.extract 0 (.tmp 23)),oO 27 (.extract 1 (.tmp 23)),oM 8 26,oM 9 27]
def r23_23:LA:=[oO 10 (.alloc [(cI 0)]),oD (.store 1 (.tmp 10) (kI 0))]
def r23_25:LA:=[oM 29 8,⟨(some 30),(.call 62 [(.tmp 29),(.const (.string ⟨#[32]⟩))]),none⟩,oO 31 (.bslice 1 1 [(.v (.pointer none))] [(0,(.tmp 10))]),oO 32 (.call 81 [(.tmp 30),(.tmp 31)]),oM 28 32,oO 33 (.extract 0 (.tmp 28)),oO 34 (.extract 1 (.tmp 28)),⟨(some 11),(.alloc [(.d (.v (.string ⟨#[]⟩))),(cI 0),(cI 0),(cI 0),(cI 0),(cI 0),(cI 0),(cI 0),(cI 0),(cI 0)]),none⟩,sD 10 11 33,oM 12 34]
def r23_28:LA:=[oM 35 9,oO 36 (.pure (oB (.unOp .not 4 (.tmp 35)) 4)),oM 37 36,oG 38 (.mv (.tmp 12)) 37 false,oG 39 (.pure (oB (.unOp .not 4 (.tmp 38)) 4)) 37 false,oO 40 (.pick (.tmp 37) (.const (.bool true)) (.tmp 39))]
def r23_31:LA:=[oM 41 7,oD (.store 1 (.tmp 2) (.const (.slice none 0 0))),sD 1 3 41,oD (.store 1 (.tmp 4) (kI 4))]
def r23_34:LA:=[lA 42 10 11,oO 43 (.call 82 [.tmp 42]),oM 13 43]
def r23_36:LA:=[oM 44 13,oO 45 (.bin .neq 28 (.tmp 44) (kI 0))]
def r23_39:LA:=[oM 46 7,oM 47 13,oD (.store 1 (.tmp 2) (.const (.slice none 0 0))),sD 1 3 46,sD 1 4 47]
def r23_42:LA:=[oM 48 7,lA 49 10 11,oO 50 (.call 16 [.tmp 49]),oO 51 (.call 85 [(.tmp 48),(.tmp 50)]),lD 52 10,bT 53 .neq 51 52]
def r23_45:LA:=[oM 54 7,oD (.store 1 (.tmp 2) (.const (.slice none 0 0))),sD 1 3 54,oD (.store 1 (.tmp 4) (kI 21))]
def r23_46:LA:=[lD 55 5,lA 56 10 11,⟨(some 57),(.bslice 10 1 [(.v (.string ⟨#[]⟩)),(.v (.int .i64 0)),(.v (.int .i64 0)),(.v (.int .i64 0)),(.v (.int .i64 0)),(.v (.int .i64 0)),(.v (.int .i64 0)),(.v (.int .i64 0)),(.v (.int .i64 0)),(.v (.int .i64 0))] [(0,(.tmp 56))]),none⟩,oO 58 (.append 10 88 (.tmp 55) (.tmp 57)),sD 1 5 58]
def r23_49:LA:=[lD 59 5,oO 60 (.len (.tmp 59)),bK 61 .gtr 60 20]
def r23_52:LA:=[oD (.store 1 (.tmp 2) (.const (.slice none 0 0))),oD (.store 1 (.tmp 3) (kI 0)),oD (.store 1 (.tmp 4) (kI 8))]
def r23_54:LA:=[lD 62 5,sD 1 2 62,oD (.store 1 (.tmp 3) (kI 0)),oD (.store 1 (.tmp 4) (kI 0))]
def tr23:TG:=[(0,⟨[0,2,3,4],true,[⟨true,2,0,30200,10⟩],[]⟩),(1,⟨[0,2,3,4,16],true,[⟨true,2,0,30200,10⟩],[]⟩),(2,⟨[2,3,4],true,[⟨true,2,0,30200,10⟩],[]⟩),(3,⟨[0,2,3,4,5],true,[⟨true,2,0,30200,10⟩],[]⟩),(4,⟨[2,3,4,5,18],true,[⟨true,2,0,30200,10⟩,⟨true,5,0,30500,10⟩],[]⟩),(5,⟨[2,3,4,5,6],true,[⟨true,2,0,30200,10⟩],[]⟩),(6,⟨[2,3,4,5,6,7],true,[⟨true,2,0,30200,10⟩],[]⟩),(7,⟨[2,3,4,5,7,8,9],true,[⟨true,2,0,30200,10⟩],[]⟩),(8,⟨[2,3,4,5,7,8,9,10],true,[⟨true,2,0,30200,10⟩],[]⟩),(9,⟨[2,3,4,5,7,9,10,11,12],true,[⟨true,2,0,30200,10⟩],[]⟩),(10,⟨[2,3,4,5,7,10,11,40],true,[⟨true,2,0,30200,10⟩],[]⟩),(11,⟨[2,3,4],true,[⟨true,2,0,30200,10⟩],[]⟩),(12,⟨[2,3,4,5,7,10,11,13],true,[⟨true,2,0,30200,10⟩],[]⟩),(13,⟨[2,3,4,5,7,10,11,13,45],true,[⟨true,2,0,30200,10⟩],[]⟩),(14,⟨[2,3,4],true,[⟨true,2,0,30200,10⟩],[]⟩),(15,⟨[2,3,4,5,7,11,53],true,[⟨true,2,0,30200,10⟩],[]⟩),(16,⟨[2,3,4],true,[⟨true,2,0,30200,10⟩],[]⟩),(17,⟨[2,3,4,5],true,[⟨true,2,0,30200,10⟩],[]⟩),(18,⟨[2,3,4,5,61],true,[⟨true,2,0,30200,10⟩],[]⟩),(19,⟨[2,3,4],true,[⟨true,2,0,30200,10⟩],[]⟩),(20,⟨[2,3,4],true,[⟨true,2,0,30200,10⟩],[]⟩)]
def tl23:TG:=[(6,⟨[2,3,4,5,18],true,[⟨true,2,0,30200,10⟩,⟨true,5,0,30500,10⟩],[]⟩)]
def rs23:List AResV:=[.cell 2 false 1,.cell 3 false 1,.cell 4 false 1]
def p23_0_0:PT St:=pS [sP 2,sP 3,sP 4,sP 5,sl 18 (aV false [(cFn 176 [(pCp 18)])])] [eBox 2 [(cRef 30200)],eOwn 30200 10,eBox 3 [xI],eBox 4 [xI],eBox 5 [(cRef 30500)],eOwn 30500 10,eDead 18]
def u23_0_0 {β:Type}(g:St->β):Rows->Int->Int->Rows->β:=p23_0_0.unc g
def pr23_0_0:PT (List RV):=pRs [pR false [rO 10],wI,wI]
def ur23_0_0 {β:Type}(g:List RV->β):Rows->Int->Int->β:=pr23_0_0.unc g
def E23_0g (a:Tf88_0)(b:Tf62_0)(c:Tf81_1)(d:Tf82_0)(e:Tf16_0)(g:Tf85_0)(vq176:Tq176):EnvK:=EnvK.ofP (EnvK.ofIO [⟨88,nt88,[⟨pa88_0,Fn88_0 a⟩]⟩,⟨62,nt62,[⟨pa62_0,Fn62_0 b⟩]⟩,⟨81,nt81,[⟨pa81_1,Fn81_1 c⟩]⟩,⟨82,nt82,[⟨pa82_0,Fn82_0 d⟩]⟩,⟨16,nt16,[⟨pa16_0,Fn16_0 e⟩]⟩,⟨85,nt85,[⟨pa85_0,Fn85_0 g⟩]⟩] (seqE [⟨176,pq176,vq176⟩]) [(81,[1])]) [(87,[1000176])]
def E23_0:EnvK:=E23_0g f88_0 f62_0 f81_1 f82_0 f16_0 f85_0 q176
theorem eo23_0:E23_0.Ok Pg:=EnvK.ofP_ok (EnvK.ofIO_ok (seqE_ok (l:=[⟨176,pq176,q176⟩]) ⟨sqok176,TT⟩) ⟨⟨io88_0,TT⟩,⟨io62_0,TT⟩,⟨io81_1,TT⟩,⟨io82_0,TT⟩,⟨io16_0,TT⟩,⟨io85_0,TT⟩,TT⟩) ⟨ptr87,TT⟩
def ca23_0_15:MCode:=(.region r23_16 [] (some ⟨[2,3,4,5,6],true,[⟨true,2,0,30200,10⟩],[]⟩))
theorem ga23_0_15:ca23_0_15.Good Pg E23_0 sh23:=TT
def c23_0_15g:MCode:=(.block 1 (.seq (.region r23_19 [] (some ⟨[2,3,4,5,6,7],true,[⟨true,2,0,30200,10⟩],[]⟩)) (.seq (.region r23_21 [] (some ⟨[2,3,4,5,7,8,9],true,[⟨true,2,0,30200,10⟩],[]⟩)) (.seq (.region r23_23 [] (some ⟨[2,3,4,5,7,8,9,10],true,[⟨true,2,0,30200,10⟩],[]⟩)) (.seq (.region r23_25 [] (some ⟨[2,3,4,5,7,9,10,11,12],true,[⟨true,2,0,30200,10⟩],[]⟩)) (.seq (.seq (.region r23_28 [] (some ⟨[2,3,4,5,7,10,11,40],true,[⟨true,2,0,30200,10⟩],[]⟩)) (.cond (.tmp 40) (.seq (.region r23_31 [] (some ⟨[2,3,4],true,[⟨true,2,0,30200,10⟩],[]⟩)) .ret) .skip)) (.seq (.seq (.region r23_34 [] (some ⟨[2,3,4,5,7,10,11,13],true,[⟨true,2,0,30200,10⟩],[]⟩)) (.seq (.region r23_36 [] (some ⟨[2,3,4,5,7,10,11,13,45],true,[⟨true,2,0,30200,10⟩],[]⟩)) (.cond (.tmp 45) (.seq (.region r23_39 [] (some ⟨[2,3,4],true,[⟨true,2,0,30200,10⟩],[]⟩)) .ret) .skip))) (.seq (.seq (.region r23_42 [(2,4),(3,4)] (some ⟨[2,3,4,5,7,11,53],true,[⟨true,2,0,30200,10⟩],[]⟩)) (.cond (.tmp 53) (.seq (.region r23_45 [] (some ⟨[2,3,4],true,[⟨true,2,0,30200,10⟩],[]⟩)) .ret) .skip)) (.region r23_46 [] (some ⟨[2,3,4,5],true,[⟨true,2,0,30200,10⟩],[]⟩))))))))))
def c23_0_15:MCode:=c23_0_15g
theorem g23_0_15:c23_0_15.Good Pg E23_0 sh23:=⟨TT,TT,TT,TT,⟨TT,⟨TT,TT⟩,TT⟩,⟨TT,TT,⟨TT,TT⟩,TT⟩,⟨TT,⟨TT,TT⟩,TT⟩,TT⟩
def S23_0_0g (p:Tf16_0)(q:Tf62_0)(r:Tf81_1)(s:Tf82_0)(t:Tf85_0)(w:Tf88_0)(α:Type)(z:BA)(a:Rows)(kn:Rows->Op α)(k1:Rows->Op α)(k2:Int->Int->Rows->Op α):Op α:=
 w α z (⟨#[10]⟩:BA)
 (fun A B=>q α A (⟨#[32]⟩:BA)
 (fun C=>r α C
 (fun b c d e g h i j l m D F=>cK (!B)
 (k2 (w64 (((List.length a:Nat):Int)+1)) 4 a)
 (cK (!D)
 (k2 (w64 (((List.length a:Nat):Int)+1)) 4 a)
 (s α b c d e g h i j l m
 (fun o=>cK (o != 0)
 (k2 (w64 (((List.length a:Nat):Int)+1)) o a)
 (p α b c d e g h i j l m
 (fun G=>t α (w64 (((List.length a:Nat):Int)+1)) G
 (fun H=>cK (H != F)
 (k2 (w64 (((List.length a:Nat):Int)+1)) 21 a)
 (gK (apOk 10 88 a [[DC.v (.string b),DC.v (.int .i64 c),DC.v (.int .i64 d),DC.v (.int .i64 e),DC.v (.int .i64 g),DC.v (.int .i64 h),DC.v (.int .i64 i),DC.v (.int .i64 j),DC.v (.int .i64 l),DC.v (.int .i64 m)]]) (kn (a++[[DC.v (.string b),DC.v (.int .i64 c),DC.v (.int .i64 d),DC.v (.int .i64 e),DC.v (.int .i64 g),DC.v (.int .i64 h),DC.v (.int .i64 i),DC.v (.int .i64 j),DC.v (.int .i64 l),DC.v (.int .i64 m)]]))))))))))))
def S23_0_0 (α:Type)(a:BA)(b:Rows)(kn:Rows->Op α)(k1:Rows->Op α)(k2:Int->Int->Rows->Op α):Op α:=S23_0_0g f16_0 f62_0 f81_1 f82_0 f85_0 f88_0 α a b kn k1 k2
def V23_0_0 (α:Type)(k1:Rows->Op α)(k2:Int->Int->Rows->Op α):List BA->Rows->Op α
 | [],a=>k1 a
 | b::ys,a=>S23_0_0 α b a (V23_0_0 α k1 k2 ys) k1 k2
abbrev TV23_0_0:Type 1:=(α:Type)->(Rows->Op α)->(Int->Int->Rows->Op α)->List BA->Rows->Op α
def F23_0_0 (v:TV23_0_0)(α:Type)(K:KT α)(ys:List ByteArray):Rows->Int->Int->Rows->Op α:=fun b c d e=>v α (fun a=>u23_0_0 (K .normal) b c d a) (fun a g h=>u23_0_0 (K .ret) ([]:Rows) a g h) ys e
theorem r23_0_0g (b:Tf88_0)(c:Tf62_0)(d:Tf81_1)(e:Tf82_0)(g:Tf16_0)(h:Tf85_0)(vq176:Tq176)(α:Type)(K:KT α)(Kn:SK α)(o:BA)(i:Rows)(j l:Int)(a:Rows):u23_0_0 (fun σ=>roundT (runM Pg (E23_0g b c d e g h vq176) sh23 ca23_0_15) (runM Pg (E23_0g b c d e g h vq176) sh23 c23_0_15) [19] td23_15 Kn K (xS.ex o) σ) i j l a=S23_0_0g g c d e h b α o a (fun a=>u23_0_0 Kn i j l a) (fun m=>u23_0_0 (K .normal) i j l m) (fun m p q=>u23_0_0 (K .ret) ([]:Rows) m p q):=by kernel_rfl
theorem r23_0_0 (α:Type)(K:KT α)(Kn:SK α)(e:BA)(b:Rows)(c d:Int)(a:Rows):u23_0_0 (fun σ=>roundT (runM Pg E23_0 sh23 ca23_0_15) (runM Pg E23_0 sh23 c23_0_15) [19] td23_15 Kn K (xS.ex e) σ) b c d a=S23_0_0 α e a (fun a=>u23_0_0 Kn b c d a) (fun g=>u23_0_0 (K .normal) b c d g) (fun g h i=>u23_0_0 (K .ret) ([]:Rows) g h i):=r23_0_0g f88_0 f62_0 f81_1 f82_0 f16_0 f85_0 q176 α K Kn e b c d a
theorem t23_0_0 (α:Type)(K:KT α):∀ (ys:List ByteArray) (c:Rows) (d e:Int) (a:Rows),V23_0_0 α (fun b=>u23_0_0 (K .normal) c d e b) (fun b g h=>u23_0_0 (K .ret) ([]:Rows) b g h) ys a=u23_0_0 (roundsK (runM Pg E23_0 sh23 ca23_0_15) (runM Pg E23_0 sh23 c23_0_15) [19] td23_15 K (ys.map xS.ex)) c d e a:=by
 intro ys
 induction ys with
 | nil=>intros;rfl
 | cons i ys ih=>intro c d e a;exact (congrArg (fun kn=>S23_0_0 α i a kn (fun b=>u23_0_0 (K .normal) c d e b) (fun b g h=>u23_0_0 (K .ret) ([]:Rows) b g h)) (funext fun a=>ih c d e a)).trans (r23_0_0 α K (roundsK (runM Pg E23_0 sh23 ca23_0_15) (runM Pg E23_0 sh23 c23_0_15) [19] td23_15 K (ys.map xS.ex)) i c d e a).symm
theorem m23_0_0:∀ (α:Type) (K:KT α) (ys:List ByteArray),F23_0_0 V23_0_0 α K ys=p23_0_0.unc fun σ=>roundsK (runM Pg E23_0 sh23 ca23_0_15) (runM Pg E23_0 sh23 c23_0_15) [19] td23_15 K (ys.map xS.ex) σ:=fun α K ys=>by funext a b c d;exact t23_0_0 α K ys a b c d
abbrev Tf23_0:Type 1:=(α:Type)->BA->(Rows->Int->Int->Op α)->Op α
def f23_0g (vV23_0_0:TV23_0_0)(vq176:Tq176)(α:Type)(a:BA)(k1:Rows->Int->Int->Op α):Op α:=
 cK (decide (60000 < ((ByteArray.size a:Nat):Int)))
 (k1 ([]:Rows) 0 8)
 (qK (vq176 a) xS fun c=>vV23_0_0 α
 (fun b=>cK (decide (20 < ((List.length b:Nat):Int)))
 (k1 ([]:Rows) 0 8)
 (k1 b 0 0))
 (fun d e g=>k1 ([]:Rows) d e) c ([]:Rows))
def f23_0 (α:Type)(a:BA)(k1:Rows->Int->Int->Op α):Op α:=f23_0g V23_0_0 q176 α a k1
def pa23_0:PT (List DV):=pA [pV false [dS]]
def Fn23_0 (v:Tf23_0)(α:Type)(k:RT α):BA->Op α:=fun a=>v α a (fun b c d=>ur23_0_0 k b c d)
def cm23_0g (vV23_0_0:TV23_0_0):MCode:=(.seq (.region r23_2 [] (some ⟨[0,2,3,4],true,[⟨true,2,0,30200,10⟩],[]⟩)) (.seq (.seq (.region r23_5 [] (some ⟨[0,2,3,4,16],true,[⟨true,2,0,30200,10⟩],[]⟩)) (.cond (.tmp 16) (.seq (.region r23_8 [] (some ⟨[2,3,4],true,[⟨true,2,0,30200,10⟩],[]⟩)) .ret) .skip)) (.seq (.region r23_10 [] (some ⟨[0,2,3,4,5],true,[⟨true,2,0,30200,10⟩],[]⟩)) (.seq (.seq (.region r23_13 [] (some ⟨[2,3,4,5,18],true,[⟨true,2,0,30200,10⟩,⟨true,5,0,30500,10⟩],[]⟩)) (.block 0 (.rangeF (.tmp 18) [19] td23_15 [⟨xS,p23_0_0,F23_0_0 vV23_0_0⟩] ca23_0_15 c23_0_15))) (.seq (.seq (.region r23_49 [] (some ⟨[2,3,4,5,61],true,[⟨true,2,0,30200,10⟩],[]⟩)) (.cond (.tmp 61) (.seq (.region r23_52 [] (some ⟨[2,3,4],true,[⟨true,2,0,30200,10⟩],[]⟩)) .ret) .skip)) (.seq (.region r23_54 [] (some ⟨[2,3,4],true,[⟨true,2,0,30200,10⟩],[]⟩)) .ret))))))
def cm23_0:MCode:=cm23_0g V23_0_0
theorem gm23_0:cm23_0.Good Pg E23_0 sh23:=⟨TT,⟨TT,⟨TT,TT⟩,TT⟩,TT,⟨TT,⟨ga23_0_15,g23_0_15⟩,m23_0_0,TT⟩,⟨TT,⟨TT,TT⟩,TT⟩,TT,TT⟩
theorem fm23_0g (a:Tf88_0)(b:Tf62_0)(c:Tf81_1)(d:Tf82_0)(e:Tf16_0)(g:Tf85_0)(vq176:Tq176)(vV23_0_0:TV23_0_0)(α:Type)(k:RT α):Fn23_0 (f23_0g vV23_0_0 vq176) α k=pa23_0.unc fun ds=>fnM Pg (E23_0g a b c d e g vq176) sh23 (cm23_0g vV23_0_0) rs23 k ds:=by kernel_rfl
theorem fm23_0:∀ (α:Type) (k:RT α),Fn23_0 f23_0 α k=pa23_0.unc fun ds=>fnM Pg E23_0 sh23 cm23_0 rs23 k ds:=fm23_0g f88_0 f62_0 f81_1 f82_0 f16_0 f85_0 q176 V23_0_0
theorem is23:FnIs Pg 23 nt23 tr23 tl23 cm23_0.erase rs23:=⟨Tryz.f23,Tryz.func23,rfl,by kernel_rfl,by kernel_rfl,by kernel_rfl⟩
theorem io23_0:InstOk Pg 23 nt23 ⟨pa23_0,Fn23_0 f23_0⟩:=inst_ok eo23_0 followsTry is23 ⟨⟨sh23,cm23_0,by kernel_rfl,gm23_0,fm23_0⟩⟩
abbrev nt19:Nat:=23
def sh19:SG:=[(16,[.str,.int .i64,.int .i64,.int .i64,.int .i64,.int .i64,.int .i64,.int .i64,.int .i64,.int .i64]),(22,[.str,.int .i64,.int .i64,.int .i64,.int .i64,.int .i64,.int .i64,.int .i64,.int .i64,.int .i64])]
def r19_2:LA:=[⟨(some 2),(.alloc [(.d (.v (.string ⟨#[]⟩))),(cI 0),(cI 0),(cI 0),(cI 0),(cI 0),(cI 0),(cI 0),(cI 0),(cI 0)]),none⟩,mK 3 0]
def r19_4:LA:=[oM 8 0,⟨(some 9),(.call 62 [(.tmp 8),(.const (.string ⟨#[32]⟩))]),none⟩,oO 10 (.call 81 [(.tmp 9),(.const (.slice none 0 0))]),oM 7 10,oO 11 (.extract 0 (.tmp 7)),oO 12 (.extract 1 (.tmp 7)),⟨(some 4),(.alloc [(.d (.v (.string ⟨#[]⟩))),(cI 0),(cI 0),(cI 0),(cI 0),(cI 0),(cI 0),(cI 0),(cI 0),(cI 0)]),none⟩,sD 10 4 11,oM 5 12]
def r19_7:LA:=[oM 13 5,oO 14 (.pure (oB (.unOp .not 4 (.tmp 13)) 4))]
def r19_10:LA:=[⟨(some 15),(.build [(.d (.v (.string ⟨#[]⟩))),(cI 0),(cI 0),(cI 0),(cI 0),(cI 0),(cI 0),(cI 0),(cI 0),(cI 0)] []),none⟩,sD 10 2 15,mK 3 4]
def r19_13:LA:=[lA 16 10 4,oO 17 (.call 82 [.tmp 16]),oM 6 17]
def r19_15:LA:=[oM 18 6,oO 19 (.bin .neq 28 (.tmp 18) (kI 0))]
def r19_18:LA:=[⟨(some 20),(.build [(.d (.v (.string ⟨#[]⟩))),(cI 0),(cI 0),(cI 0),(cI 0),(cI 0),(cI 0),(cI 0),(cI 0),(cI 0)] []),none⟩,oM 21 6,sD 10 2 20,oM 3 21]
def r19_20:LA:=[lA 22 10 4,sD 10 2 22,mK 3 0]
def tr19:TG:=[tT 0 [0,2],tT 1 [2,4,5],tT 2 [2,4,14],tT 3 [2,3],tT 4 [2,4,6],tT 5 [2,4,6,19],tT 6 [2,3],tT 7 [2,3]]
def tl19:TG:=[]
def rs19:List AResV:=[.cell 2 true 10,.tmp 3]
def pr19_0_0:PT (List RV):=pRs [pR true [rD dS,rD (dI .i64),rD (dI .i64),rD (dI .i64),rD (dI .i64),rD (dI .i64),rD (dI .i64),rD (dI .i64),rD (dI .i64),rD (dI .i64)],wI]
def ur19_0_0 {β:Type}(g:List RV->β):BA->I10 β:=pr19_0_0.unc g
def E19_0g (a:Tf62_0)(b:Tf81_0)(c:Tf82_0):EnvK:=EnvK.of [⟨62,nt62,[⟨pa62_0,Fn62_0 a⟩]⟩,⟨81,nt81,[⟨pa81_0,Fn81_0 b⟩]⟩,⟨82,nt82,[⟨pa82_0,Fn82_0 c⟩]⟩] noSeq
def E19_0:EnvK:=E19_0g f62_0 f81_0 f82_0
theorem eo19_0:E19_0.Ok Pg:=EnvK.of_ok noSeq_ok ⟨⟨io62_0,TT⟩,⟨io81_0,TT⟩,⟨io82_0,TT⟩,TT⟩
abbrev Tf19_0:Type 1:=(α:Type)->BA->(BA->I10 (Op α))->Op α
def f19_0g (o:Tf62_0)(p:Tf81_0)(q:Tf82_0)(α:Type)(r:BA)(k1:BA->I10 (Op α)):Op α:=
 o α r (⟨#[32]⟩:BA)
 (fun s=>p α s
 (fun a b c d e g h i j l t=>cK (!t)
 (k1 (⟨#[]⟩:BA) 0 0 0 0 0 0 0 0 0 4)
 (q α a b c d e g h i j l
 (fun m=>cK (m != 0)
 (k1 (⟨#[]⟩:BA) 0 0 0 0 0 0 0 0 0 m)
 (k1 a b c d e g h i j l 0)))))
def f19_0 (α:Type)(a:BA)(k1:BA->I10 (Op α)):Op α:=f19_0g f62_0 f81_0 f82_0 α a k1
def pa19_0:PT (List DV):=pA [pV false [dS]]
def Fn19_0 (v:Tf19_0)(α:Type)(k:RT α):BA->Op α:=fun a=>v α a (fun b c d e g h i j l m o=>ur19_0_0 k b c d e g h i j l m o)
def cm19_0g:MCode:=(.seq (.region r19_2 [] (tO [0,2])) (.seq (.region r19_4 [] (tO [2,4,5])) (.seq (.seq (.region r19_7 [] (tO [2,4,14])) (.cond (.tmp 14) (.seq (.region r19_10 [] (tO [2,3])) .ret) .skip)) (.seq (.seq (.region r19_13 [] (tO [2,4,6])) (.seq (.region r19_15 [] (tO [2,4,6,19])) (.cond (.tmp 19) (.seq (.region r19_18 [] (tO [2,3])) .ret) .skip))) (.seq (.region r19_20 [] (tO [2,3])) .ret)))))
def cm19_0:MCode:=cm19_0g
theorem gm19_0:cm19_0.Good Pg E19_0 sh19:=⟨TT,TT,⟨TT,⟨TT,TT⟩,TT⟩,⟨TT,TT,⟨TT,TT⟩,TT⟩,TT,TT⟩
theorem fm19_0g (a:Tf62_0)(b:Tf81_0)(c:Tf82_0)(α:Type)(k:RT α):Fn19_0 (f19_0g a b c) α k=pa19_0.unc fun ds=>fnM Pg (E19_0g a b c) sh19 (cm19_0g ) rs19 k ds:=by kernel_rfl
theorem fm19_0:∀ (α:Type) (k:RT α),Fn19_0 f19_0 α k=pa19_0.unc fun ds=>fnM Pg E19_0 sh19 cm19_0 rs19 k ds:=fm19_0g f62_0 f81_0 f82_0
theorem is19:FnIs Pg 19 nt19 tr19 tl19 cm19_0.erase rs19:=⟨Tryz.f19,Tryz.func19,rfl,by kernel_rfl,by kernel_rfl,by kernel_rfl⟩
theorem io19_0:InstOk Pg 19 nt19 ⟨pa19_0,Fn19_0 f19_0⟩:=inst_ok eo19_0 followsTry is19 ⟨⟨sh19,cm19_0,by kernel_rfl,gm19_0,fm19_0⟩⟩
end
end Go.AM.K
