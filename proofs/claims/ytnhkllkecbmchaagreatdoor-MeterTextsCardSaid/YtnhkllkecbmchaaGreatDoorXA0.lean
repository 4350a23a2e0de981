/- Printed by KGen. -/
import Derived.Test.YtnhkllkecbmchaaGreatDoorTLB
import Derived.Test.YtnhkllkecbmchaaGreatDoorTLq
import Derived.Test.YtnhkllkecbmchaaGreatDoorKMa
namespace Go.AM.K
open Go.Proofs
set_option maxRecDepth 100000
set_option linter.unusedVariables false
noncomputable section
theorem TT:True:=True.intro
abbrev sY (n:Nat)(x:_):=sl n (aV false [cD x])
abbrev ln9 (n:Nat):Go.Op:=.call { callee:=.builtin .len,args:=#[(.tmp n)],argTypes:=#[9] }
abbrev Pg:=Tryz.prog
theorem followsTry:Pg.follows .mixedOrders=true:=by kernel_rfl
abbrev nt25:Nat:=26
def sh25:SG:=[(19,[.str,.int .i64,.int .i64,.int .i64,.int .i64,.int .i64,.int .i64,.int .i64,.int .i64,.int .i64]),(20,[.str,.int .i64,.int .i64,.int .i64,.int .i64,.int .i64,.int .i64,.int .i64,.int .i64,.int .i64]),(23,[.str,.int .i64,.int .i64,.int .i64,.int .i64,.int .i64,.int .i64,.int .i64,.int .i64,.int .i64]),(24,[.str,.int .i64,.int .i64,.int .i64,.int .i64,.int .i64,.int .i64,.int .i64,.int .i64,.int .i64])]
def r25_2:LA:=[oO 4 (.mv (.const (.bool false)))]
def r25_5:LA:=[oM 6 0,oO 7 (.len (.tmp 6)),oM 8 1,oO 9 (.len (.tmp 8)),bT 10 .neq 7 9]
def r25_8:LA:=[oO 4 (.mv (.const (.bool false)))]
def r25_11:LA:=[mK 5 0]
def td25_13:OT:=(tO [0,1,5])
def r25_16:LA:=[oM 11 5,oM 12 0,oO 13 (.len (.tmp 12)),bT 14 .lss 11 13]
def r25_21:LA:=[oM 17 0,oM 18 5,oO 19 (.iaddr 10 none (.tmp 17) (.tmp 18)),lA 20 10 19,oM 21 1,oM 22 5,oO 23 (.iaddr 10 none (.tmp 21) (.tmp 22)),lA 24 10 23,oO 25 (.bin .neq 39 (.tmp 20) (.tmp 24))]
def r25_24:LA:=[oO 4 (.mv (.const (.bool false)))]
def r25_25:LA:=[oM 15 5,bK 16 .add 15 1,oM 5 16]
def r25_27:LA:=[oO 4 (.mv (.const (.bool true)))]
def tr25:TG:=[tT 0 [0,1],tT 1 [0,1,10],tT 2 [4],tT 3 [0,1,5],tT 4 [0,1,5,14],tT 6 [0,1,5,25],tT 7 [4],tT 5 [0,1,5],tT 8 [4]]
def tl25:TG:=[tT 4 [0,1,5]]
def rs25:List AResV:=[.tmp 4]
def p25_0_0:PT St:=pS [sY 0 dL,sY 1 dL,sI 5] []
def u25_0_0 {β:Type}(g:St->β):Rows->Rows->Int->β:=p25_0_0.unc g
def p25_0_1:PT St:=pS [sY 4 dB] []
def u25_0_1 {β:Type}(g:St->β):Bool->β:=p25_0_1.unc g
def p25_0_2:PT St:=pS [sY 0 dL,sY 1 dL,sI 5,sY 14 dB] []
def u25_0_2 {β:Type}(g:St->β):Rows->Rows->Int->Bool->β:=p25_0_2.unc g
def pr25_0_0:PT (List RV):=pRs [pR false [rD dB]]
def ur25_0_0 {β:Type}(g:List RV->β):Bool->β:=pr25_0_0.unc g
def E25_0g:EnvK:=EnvK.of [] noSeq
def E25_0:EnvK:=E25_0g
theorem eo25_0:E25_0.Ok Pg:=EnvK.of_ok noSeq_ok TT
def c25_0_13g:MCode:=(.seq (.seq (.region r25_16 [] (tO [0,1,5,14])) (.cond (.tmp 14) .skip (.exit 0))) (.seq (.block 1 (.seq (.region r25_21 [] (tO [0,1,5,25])) (.cond (.tmp 25) (.seq (.region r25_24 [] (tO [4])) .ret) .skip))) (.region r25_25 [] (tO [0,1,5]))))
def c25_0_13:MCode:=c25_0_13g
theorem g25_0_13:c25_0_13.Good Pg E25_0 sh25:=⟨⟨TT,TT,TT⟩,⟨TT,⟨TT,TT⟩,TT⟩,TT⟩
def S25_0_0g (α:Type)(b c:Rows)(a:Int)(kn:Int->Op α)(k1:Op α)(k2:Int->Bool->Op α):Op α:=
 cK (decide (a < ((List.length b:Nat):Int)))
 (rowK b a [.str,.int .i64,.int .i64,.int .i64,.int .i64,.int .i64,.int .i64,.int .i64,.int .i64,.int .i64]
 (fun d e g h i j l m o p=>rowK c a [.str,.int .i64,.int .i64,.int .i64,.int .i64,.int .i64,.int .i64,.int .i64,.int .i64,.int .i64]
 (fun q r s t w z A B C D=>cK (!((d == q) && ((e == r) && (((g == s) && ((h == t) && true)) && (((i == w) && ((j == z) && true)) && (((l == A) && ((m == B) && true)) && (((o == C) && ((p == D) && true)) && true)))))))
 (k1)
 (kn (w64 (a+1))))))
 (k2 a (decide (a < ((List.length b:Nat):Int))))
def S25_0_0 (α:Type)(a b:Rows)(c:Int)(kn:Int->Op α)(k1:Op α)(k2:Int->Bool->Op α):Op α:=S25_0_0g α a b c kn k1 k2
def R25_0_0 (α:Type)(a b:Rows)(k1:Op α)(k2:Int->Bool->Op α):Nat->Int->Op α
 | 0,_=>none
 | n+1,c=>S25_0_0 α a b c (R25_0_0 α a b k1 k2 n) k1 k2
def L25_0_0 (α:Type)(a b:Rows)(k1:Op α)(k2:Int->Bool->Op α)(c:Int):Op α:=R25_0_0 α a b k1 k2 fuel c
abbrev TL25_0_0:Type 1:=(α:Type)->Rows->Rows->(Op α)->(Int->Bool->Op α)->Int->Op α
def F25_0_0 (v:TL25_0_0)(α:Type)(K:KT α):Rows->Rows->Int->Op α:=fun a b c=>v α a b (u25_0_1 (K .ret) false) (fun d e=>u25_0_2 (K (.exit 0)) a b d e) c
theorem r25_0_0g (α:Type)(K:KT α)(Kn:SK α)(a b:Rows)(c:Int):u25_0_0 (fun σ=>runM Pg (E25_0g ) sh25 (c25_0_13g ) (thenK (fun σ=>tidyK td25_13 σ Kn) K) σ) a b c=S25_0_0g α a b c (fun c=>u25_0_0 Kn a b c) (u25_0_1 (K .ret) false) (fun d e=>u25_0_2 (K (.exit 0)) a b d e):=by kernel_rfl
theorem r25_0_0 (α:Type)(K:KT α)(Kn:SK α)(a b:Rows)(c:Int):u25_0_0 (fun σ=>runM Pg E25_0 sh25 c25_0_13 (thenK (fun σ=>tidyK td25_13 σ Kn) K) σ) a b c=S25_0_0 α a b c (fun c=>u25_0_0 Kn a b c) (u25_0_1 (K .ret) false) (fun d e=>u25_0_2 (K (.exit 0)) a b d e):=r25_0_0g α K Kn a b c
theorem t25_0_0 (α:Type)(K:KT α):∀ (n:Nat) (a b:Rows) (c:Int),R25_0_0 α a b (u25_0_1 (K .ret) false) (fun d e=>u25_0_2 (K (.exit 0)) a b d e) n c=u25_0_0 (loopT (runM Pg E25_0 sh25 c25_0_13) td25_13 K n) a b c:=by
 intro n
 induction n with
 | zero=>intros;rfl
 | succ n ih=>intro a b c;exact (congrArg (fun kn=>S25_0_0 α a b c kn (u25_0_1 (K .ret) false) (fun d e=>u25_0_2 (K (.exit 0)) a b d e)) (funext fun c=>ih a b c)).trans (r25_0_0 α K (loopT (runM Pg E25_0 sh25 c25_0_13) td25_13 K n) a b c).symm
theorem m25_0_0:∀ (α:Type) (K:KT α),F25_0_0 L25_0_0 α K=p25_0_0.unc fun σ=>loopT (runM Pg E25_0 sh25 c25_0_13) td25_13 K fuel σ:=fun α K=>by funext a b c;exact t25_0_0 α K fuel a b c
abbrev Tf25_0:Type 1:=(α:Type)->Rows->Rows->(Bool->Op α)->Op α
def f25_0g (c:TL25_0_0)(α:Type)(a b:Rows)(k1:Bool->Op α):Op α:=
 cK (((List.length a:Nat):Int) != ((List.length b:Nat):Int))
 (k1 false)
 (c α a b
 (k1 false)
 (fun d e=>k1 true) 0)
def f25_0 (α:Type)(a b:Rows)(k1:Bool->Op α):Op α:=f25_0g L25_0_0 α a b k1
def pa25_0:PT (List DV):=pA [pV false [dL],pV false [dL]]
def Fn25_0 (v:Tf25_0)(α:Type)(k:RT α):Rows->Rows->Op α:=fun a b=>v α a b (fun c=>ur25_0_0 k c)
def cm25_0g (a:TL25_0_0):MCode:=(.seq (.region r25_2 [] (tO [0,1])) (.seq (.seq (.region r25_5 [] (tO [0,1,10])) (.cond (.tmp 10) (.seq (.region r25_8 [] (tO [4])) .ret) .skip)) (.seq (.seq (.region r25_11 [] (tO [0,1,5])) (.block 0 (.loop td25_13 [⟨p25_0_0,F25_0_0 a⟩] c25_0_13))) (.seq (.region r25_27 [] (tO [4])) .ret))))
def cm25_0:MCode:=cm25_0g L25_0_0
theorem gm25_0:cm25_0.Good Pg E25_0 sh25:=⟨TT,⟨TT,⟨TT,TT⟩,TT⟩,⟨TT,g25_0_13,m25_0_0,TT⟩,TT,TT⟩
theorem fm25_0g (a:TL25_0_0)(α:Type)(k:RT α):Fn25_0 (f25_0g a) α k=pa25_0.unc fun ds=>fnM Pg (E25_0g ) sh25 (cm25_0g a) rs25 k ds:=by kernel_rfl
theorem fm25_0:∀ (α:Type) (k:RT α),Fn25_0 f25_0 α k=pa25_0.unc fun ds=>fnM Pg E25_0 sh25 cm25_0 rs25 k ds:=fm25_0g L25_0_0
theorem is25:FnIs Pg 25 nt25 tr25 tl25 cm25_0.erase rs25:=⟨Tryz.f25,Tryz.func25,rfl,by kernel_rfl,by kernel_rfl,by kernel_rfl⟩
theorem io25_0:InstOk Pg 25 nt25 ⟨pa25_0,Fn25_0 f25_0⟩:=inst_ok eo25_0 followsTry is25 ⟨⟨sh25,cm25_0,by kernel_rfl,gm25_0,fm25_0⟩⟩
abbrev nt89:Nat:=23
def sh89:SG:=[]
def r89_2:LA:=[mK 4 0]
def r89_4:LA:=[oM 7 1,oM 5 7]
def r89_7:LA:=[mK 6 0]
def td89_9:OT:=(tO [0,5,6])
def r89_12:LA:=[oM 8 6,oM 9 0,oO 10 (.pure (oB (ln9 9) 3)),bT 11 .lss 8 10]
def r89_16:LA:=[oM 14 5,oO 15 (.bin .mul 3 (kI 31) (.tmp 14)),oM 16 0,oM 17 6,oO 18 (.pure (oB (.index 9 (.tmp 16) (.tmp 17)) 5)),oO 19 (.pure (oB (.convert 5 3 (.tmp 18)) 3)),bT 20 .add 15 19,bK 21 .rem 20 65521,oM 5 21]
def r89_17:LA:=[oM 12 6,bK 13 .add 12 1,oM 6 13]
def r89_19:LA:=[oM 22 5,oM 4 22]
def tr89:TG:=[tT 0 [0,1],tT 1 [0,5],tT 2 [0,5,6],tT 3 [0,5,6,11],tT 5 [0,5,6],tT 4 [0,5,6],tT 6 [4]]
def tl89:TG:=[tT 3 [0,5,6]]
def rs89:List AResV:=[.tmp 4]
def p89_0_0:PT St:=pS [sY 0 dS,sI 5,sI 6] []
def u89_0_0 {β:Type}(g:St->β):BA->Int->Int->β:=p89_0_0.unc g
def p89_0_1:PT St:=pS [sY 0 dS,sI 5,sI 6,sY 11 dB] []
def u89_0_1 {β:Type}(g:St->β):BA->Int->Int->Bool->β:=p89_0_1.unc g
def pr89_0_0:PT (List RV):=pRs [wI]
def ur89_0_0 {β:Type}(g:List RV->β):Int->β:=pr89_0_0.unc g
def E89_0g:EnvK:=EnvK.of [] noSeq
def E89_0:EnvK:=E89_0g
theorem eo89_0:E89_0.Ok Pg:=EnvK.of_ok noSeq_ok TT
def c89_0_9g:MCode:=(.seq (.seq (.region r89_12 [] (tO [0,5,6,11])) (.cond (.tmp 11) .skip (.exit 0))) (.seq (.block 1 (.region r89_16 [] (tO [0,5,6]))) (.region r89_17 [] (tO [0,5,6]))))
def c89_0_9:MCode:=c89_0_9g
theorem g89_0_9:c89_0_9.Good Pg E89_0 sh89:=⟨⟨TT,TT,TT⟩,TT,TT⟩
def S89_0_0g (α:Type)(b:BA)(c a:Int)(kn:Int->Int->Op α)(k1:Int->Int->Bool->Op α):Op α:=
 cK (decide (a < ((ByteArray.size b:Nat):Int)))
 (sixK b a
 (fun d=>kn (Int.tmod (w64 ((w64 (31*c))+(w64 (((UInt8.toNat d:Nat):Int))))) 65521) (w64 (a+1))))
 (k1 c a (decide (a < ((ByteArray.size b:Nat):Int))))
def S89_0_0 (α:Type)(a:BA)(b c:Int)(kn:Int->Int->Op α)(k1:Int->Int->Bool->Op α):Op α:=S89_0_0g α a b c kn k1
def R89_0_0 (α:Type)(a:BA)(k1:Int->Int->Bool->Op α):Nat->Int->Int->Op α
 | 0,_,_=>none
 | n+1,b,c=>S89_0_0 α a b c (R89_0_0 α a k1 n) k1
def L89_0_0 (α:Type)(a:BA)(k1:Int->Int->Bool->Op α)(b c:Int):Op α:=R89_0_0 α a k1 fuel b c
abbrev TL89_0_0:Type 1:=(α:Type)->BA->(Int->Int->Bool->Op α)->Int->Int->Op α
def F89_0_0 (v:TL89_0_0)(α:Type)(K:KT α):BA->Int->Int->Op α:=fun a b c=>v α a (fun d e g=>u89_0_1 (K (.exit 0)) a d e g) b c
theorem r89_0_0g (α:Type)(K:KT α)(Kn:SK α)(a:BA)(b c:Int):u89_0_0 (fun σ=>runM Pg (E89_0g ) sh89 (c89_0_9g ) (thenK (fun σ=>tidyK td89_9 σ Kn) K) σ) a b c=S89_0_0g α a b c (fun b c=>u89_0_0 Kn a b c) (fun d e g=>u89_0_1 (K (.exit 0)) a d e g):=by kernel_rfl
theorem r89_0_0 (α:Type)(K:KT α)(Kn:SK α)(a:BA)(b c:Int):u89_0_0 (fun σ=>runM Pg E89_0 sh89 c89_0_9 (thenK (fun σ=>tidyK td89_9 σ Kn) K) σ) a b c=S89_0_0 α a b c (fun b c=>u89_0_0 Kn a b c) (fun d e g=>u89_0_1 (K (.exit 0)) a d e g):=r89_0_0g α K Kn a b c
theorem t89_0_0 (α:Type)(K:KT α):∀ (n:Nat) (a:BA) (b c:Int),R89_0_0 α a (fun d e g=>u89_0_1 (K (.exit 0)) a d e g) n b c=u89_0_0 (loopT (runM Pg E89_0 sh89 c89_0_9) td89_9 K n) a b c:=by
 intro n
 induction n with
 | zero=>intros;rfl
 | succ n ih=>intro a b c;exact (congrArg (fun kn=>S89_0_0 α a b c kn (fun d e g=>u89_0_1 (K (.exit 0)) a d e g)) (funext fun b=>funext fun c=>ih a b c)).trans (r89_0_0 α K (loopT (runM Pg E89_0 sh89 c89_0_9) td89_9 K n) a b c).symm
theorem m89_0_0:∀ (α:Type) (K:KT α),F89_0_0 L89_0_0 α K=p89_0_0.unc fun σ=>loopT (runM Pg E89_0 sh89 c89_0_9) td89_9 K fuel σ:=fun α K=>by funext a b c;exact t89_0_0 α K fuel a b c
abbrev Tf89_0:Type 1:=(α:Type)->BA->Int->(Int->Op α)->Op α
def f89_0g (a:TL89_0_0)(α:Type)(b:BA)(c:Int)(k1:Int->Op α):Op α:=
 a α b
 (fun d e g=>k1 d) c 0
def f89_0 (α:Type)(a:BA)(b:Int)(k1:Int->Op α):Op α:=f89_0g L89_0_0 α a b k1
def pa89_0:PT (List DV):=pA [pV false [dS],vI]
def Fn89_0 (v:Tf89_0)(α:Type)(k:RT α):BA->Int->Op α:=fun a b=>v α a b (fun c=>ur89_0_0 k c)
def cm89_0g (a:TL89_0_0):MCode:=(.seq (.region r89_2 [] (tO [0,1])) (.seq (.region r89_4 [] (tO [0,5])) (.seq (.seq (.region r89_7 [] (tO [0,5,6])) (.block 0 (.loop td89_9 [⟨p89_0_0,F89_0_0 a⟩] c89_0_9))) (.seq (.region r89_19 [] (tO [4])) .ret))))
def cm89_0:MCode:=cm89_0g L89_0_0
theorem gm89_0:cm89_0.Good Pg E89_0 sh89:=⟨TT,TT,⟨TT,g89_0_9,m89_0_0,TT⟩,TT,TT⟩
theorem fm89_0g (a:TL89_0_0)(α:Type)(k:RT α):Fn89_0 (f89_0g a) α k=pa89_0.unc fun ds=>fnM Pg (E89_0g ) sh89 (cm89_0g a) rs89 k ds:=by kernel_rfl
theorem fm89_0:∀ (α:Type) (k:RT α),Fn89_0 f89_0 α k=pa89_0.unc fun ds=>fnM Pg E89_0 sh89 cm89_0 rs89 k ds:=fm89_0g L89_0_0
theorem is89:FnIs Pg 89 nt89 tr89 tl89 cm89_0.erase rs89:=⟨Tryz.f89,Tryz.func89,rfl,by kernel_rfl,by kernel_rfl,by kernel_rfl⟩
theorem io89_0:InstOk Pg 89 nt89 ⟨pa89_0,Fn89_0 f89_0⟩:=inst_ok eo89_0 followsTry is89 ⟨⟨sh89,cm89_0,by kernel_rfl,gm89_0,fm89_0⟩⟩
abbrev nt85:Nat:=22
def sh85:SG:=[(12,[.int .u8]),(13,[.int .u8])]
def r85_2:LA:=[mK 4 0]
def r85_5:LA:=[oM 7 1,oO 8 (.bytes (.tmp 7)),oO 9 (.len (.tmp 8)),mK 10 0]
def td85_7:OT:=(some ⟨[0,8,9,10],true,[⟨false,8,0,20008,1⟩],[]⟩)
def r85_9:LA:=[bT 11 .lss 10 9]
def r85_15:LA:=[oO 12 (.iaddr 1 none (.tmp 8) (.tmp 10)),lD 13 12,oM 6 13]
def r85_16:LA:=[oM 14 0,oO 15 (.bin .mul 3 (kI 31) (.tmp 14)),oM 16 6,oO 17 (.pure (oB (.convert 5 3 (.tmp 16)) 3)),bT 18 .add 15 17,bK 19 .rem 18 65521,oM 0 19]
def r85_17:LA:=[bK 20 .add 10 1,oM 10 20]
def r85_19:LA:=[oM 21 0,oM 4 21]
def tr85:TG:=[tT 0 [0,1],tT 1 [0,8,9,10],tT 2 [0,8,9,10,11],tT 3 [0,6,8,9,10],tT 4 [0,8,9,10],tT 5 [0,8,9,10],tT 6 [4]]
def tl85:TG:=[(2,⟨[0,8,9,10],true,[⟨false,8,0,20008,1⟩],[]⟩)]
def rs85:List AResV:=[.tmp 4]
def p85_0_0:PT St:=pS [sI 0,sl 8 (aV false [(cRef 20008)]),sI 9,sI 10] [eOwn 20008 1]
def u85_0_0 {β:Type}(g:St->β):Int->Int->Int->Rows->β:=p85_0_0.unc g
def p85_0_1:PT St:=pS [sI 0,sl 8 (aV false [(cRef 20008)]),sI 9,sI 10,sY 11 dB] [eOwn 20008 1]
def u85_0_1 {β:Type}(g:St->β):Int->Int->Int->Bool->Rows->β:=p85_0_1.unc g
def pr85_0_0:PT (List RV):=pRs [wI]
def ur85_0_0 {β:Type}(g:List RV->β):Int->β:=pr85_0_0.unc g
def E85_0g:EnvK:=EnvK.of [] noSeq
def E85_0:EnvK:=E85_0g
theorem eo85_0:E85_0.Ok Pg:=EnvK.of_ok noSeq_ok TT
def c85_0_7g:MCode:=(.seq (.region r85_9 [] (tO [0,8,9,10,11])) (.seq (.cond (.tmp 11) .skip (.exit 0)) (.seq (.block 1 (.seq (.region r85_15 [] (tO [0,6,8,9,10])) (.region r85_16 [] (tO [0,8,9,10])))) (.region r85_17 [] (tO [0,8,9,10])))))
def c85_0_7:MCode:=c85_0_7g
theorem g85_0_7:c85_0_7.Good Pg E85_0 sh85:=⟨TT,⟨TT,TT⟩,⟨TT,TT⟩,TT⟩
def S85_0_0g (α:Type)(b:Int)(c:Rows)(d a:Int)(kn:Int->Int->Op α)(k1:Int->Int->Bool->Op α):Op α:=
 cK (decide (a < b))
 (ixK c a 1
 (ldK c (Int.toNat a) 0 [.int .u8]
 (fun e=>kn (Int.tmod (w64 ((w64 (31*d))+(w64 (e)))) 65521) (w64 (a+1)))))
 (k1 d a (decide (a < b)))
def S85_0_0 (α:Type)(a:Int)(b:Rows)(c d:Int)(kn:Int->Int->Op α)(k1:Int->Int->Bool->Op α):Op α:=S85_0_0g α a b c d kn k1
def R85_0_0 (α:Type)(a:Int)(b:Rows)(k1:Int->Int->Bool->Op α):Nat->Int->Int->Op α
 | 0,_,_=>none
 | n+1,c,d=>S85_0_0 α a b c d (R85_0_0 α a b k1 n) k1
def L85_0_0 (α:Type)(a:Int)(b:Rows)(k1:Int->Int->Bool->Op α)(c d:Int):Op α:=R85_0_0 α a b k1 fuel c d
abbrev TL85_0_0:Type 1:=(α:Type)->Int->Rows->(Int->Int->Bool->Op α)->Int->Int->Op α
def F85_0_0 (v:TL85_0_0)(α:Type)(K:KT α):Int->Int->Int->Rows->Op α:=fun c a d b=>v α a b (fun e g h=>u85_0_1 (K (.exit 0)) e a g h b) c d
theorem r85_0_0g (α:Type)(K:KT α)(Kn:SK α)(a b c:Int)(d:Rows):u85_0_0 (fun σ=>runM Pg (E85_0g ) sh85 (c85_0_7g ) (thenK (fun σ=>tidyK td85_7 σ Kn) K) σ) a b c d=S85_0_0g α b d a c (fun a c=>u85_0_0 Kn a b c d) (fun e g h=>u85_0_1 (K (.exit 0)) e b g h d):=by kernel_rfl
theorem r85_0_0 (α:Type)(K:KT α)(Kn:SK α)(a b c:Int)(d:Rows):u85_0_0 (fun σ=>runM Pg E85_0 sh85 c85_0_7 (thenK (fun σ=>tidyK td85_7 σ Kn) K) σ) a b c d=S85_0_0 α b d a c (fun a c=>u85_0_0 Kn a b c d) (fun e g h=>u85_0_1 (K (.exit 0)) e b g h d):=r85_0_0g α K Kn a b c d
theorem t85_0_0 (α:Type)(K:KT α):∀ (n:Nat) (c a d:Int) (b:Rows),R85_0_0 α a b (fun e g h=>u85_0_1 (K (.exit 0)) e a g h b) n c d=u85_0_0 (loopT (runM Pg E85_0 sh85 c85_0_7) td85_7 K n) c a d b:=by
 intro n
 induction n with
 | zero=>intros;rfl
 | succ n ih=>intro c a d b;exact (congrArg (fun kn=>S85_0_0 α a b c d kn (fun e g h=>u85_0_1 (K (.exit 0)) e a g h b)) (funext fun c=>funext fun d=>ih c a d b)).trans (r85_0_0 α K (loopT (runM Pg E85_0 sh85 c85_0_7) td85_7 K n) c a d b).symm
theorem m85_0_0:∀ (α:Type) (K:KT α),F85_0_0 L85_0_0 α K=p85_0_0.unc fun σ=>loopT (runM Pg E85_0 sh85 c85_0_7) td85_7 K fuel σ:=fun α K=>by funext a b c d;exact t85_0_0 α K fuel a b c d
abbrev Tf85_0:Type 1:=(α:Type)->Int->BA->(Int->Op α)->Op α
def f85_0g (b:TL85_0_0)(α:Type)(c:Int)(a:BA)(k1:Int->Op α):Op α:=
 gK (decide (ByteArray.size a<=9223372036854775807)) (b α ((List.length (bytesR a):Nat):Int) (bytesR a)
 (fun d e g=>k1 d) c 0)
def f85_0 (α:Type)(a:Int)(b:BA)(k1:Int->Op α):Op α:=f85_0g L85_0_0 α a b k1
def pa85_0:PT (List DV):=pA [vI,pV false [dS]]
def Fn85_0 (v:Tf85_0)(α:Type)(k:RT α):Int->BA->Op α:=fun a b=>v α a b (fun c=>ur85_0_0 k c)
def cm85_0g (a:TL85_0_0):MCode:=(.seq (.region r85_2 [] (tO [0,1])) (.seq (.seq (.region r85_5 [] (tO [0,8,9,10])) (.block 0 (.loop td85_7 [⟨p85_0_0,F85_0_0 a⟩] c85_0_7))) (.seq (.region r85_19 [] (tO [4])) .ret)))
def cm85_0:MCode:=cm85_0g L85_0_0
theorem gm85_0:cm85_0.Good Pg E85_0 sh85:=⟨TT,⟨TT,g85_0_7,m85_0_0,TT⟩,TT,TT⟩
theorem fm85_0g (a:TL85_0_0)(α:Type)(k:RT α):Fn85_0 (f85_0g a) α k=pa85_0.unc fun ds=>fnM Pg (E85_0g ) sh85 (cm85_0g a) rs85 k ds:=by kernel_rfl
theorem fm85_0:∀ (α:Type) (k:RT α),Fn85_0 f85_0 α k=pa85_0.unc fun ds=>fnM Pg E85_0 sh85 cm85_0 rs85 k ds:=fm85_0g L85_0_0
theorem is85:FnIs Pg 85 nt85 tr85 tl85 cm85_0.erase rs85:=⟨Tryz.f85,Tryz.func85,rfl,by kernel_rfl,by kernel_rfl,by kernel_rfl⟩
theorem io85_0:InstOk Pg 85 nt85 ⟨pa85_0,Fn85_0 f85_0⟩:=inst_ok eo85_0 followsTry is85 ⟨⟨sh85,cm85_0,by kernel_rfl,gm85_0,fm85_0⟩⟩
abbrev nt81:Nat:=69
def sh81:SG:=[(14,[.str]),(15,[.str]),(28,[.str]),(31,[.str,.int .i64,.int .i64,.int .i64,.int .i64,.int .i64,.int .i64,.int .i64,.int .i64,.int .i64]),(42,[.str]),(43,[.str]),(63,[.str,.int .i64,.int .i64,.int .i64,.int .i64,.int .i64,.int .i64,.int .i64,.int .i64,.int .i64]),(68,[.str,.int .i64,.int .i64,.int .i64,.int .i64,.int .i64,.int .i64,.int .i64,.int .i64,.int .i64])]
def r81_2:LA:=[⟨(some 4),(.alloc [(.d (.v (.string ⟨#[]⟩))),(cI 0),(cI 0),(cI 0),(cI 0),(cI 0),(cI 0),(cI 0),(cI 0),(cI 0)]),none⟩,oO 5 (.mv (.const (.bool false)))]
def r81_4:LA:=[oM 13 0,oO 14 (.iaddr 1 none (.tmp 13) (kI 0)),lD 15 14,⟨(some 16),(.build [(.d (.v (.string ⟨#[]⟩))),(cI 0),(cI 0),(cI 0),(cI 0),(cI 0),(cI 0),(cI 0),(cI 0),(cI 0)] [(0,1,(.tmp 15))]),none⟩,⟨(some 6),(.alloc [(.d (.v (.string ⟨#[]⟩))),(cI 0),(cI 0),(cI 0),(cI 0),(cI 0),(cI 0),(cI 0),(cI 0),(cI 0)]),none⟩,sD 10 6 16]
def r81_6:LA:=[oO 17 (.call 77 [.tmp 6]),oM 18 1,oO 19 (.append 1 8 (.tmp 17) (.tmp 18)),oM 7 19]
def r81_9:LA:=[oM 20 0,oO 21 (.len (.tmp 20)),oM 22 7,oO 23 (.len (.tmp 22)),bK 24 .add 23 1,bT 25 .neq 21 24,oM 26 25,oG 27 (.faddr 0 (.tmp 6)) 26 false,oG 28 (.load false 1 (.tmp 27)) 26 false,⟨(some 29),(.call 173 [(.tmp 28),(.const (.string ⟨#[10]⟩))]),(some (26,false))⟩,oO 30 (.pick (.tmp 26) (.const (.bool true)) (.tmp 29))]
def r81_12:LA:=[lA 31 10 6,sD 10 4 31,oO 5 (.mv (.const (.bool false)))]
def r81_15:LA:=[oM 32 7,oO 33 (.len (.tmp 32)),mK 34 0]
def td81_17:OT:=(tO [0,1,4,6,32,33,34])
def r81_19:LA:=[bT 35 .lss 34 33]
def r81_25:LA:=[oM 36 34,oO 37 (.iaddr 1 none (.tmp 32) (.tmp 34)),lD 38 37,oM 8 36,oM 9 38]
def r81_27:LA:=[oM 39 0,oM 40 8,bK 41 .add 40 1,oO 42 (.iaddr 1 none (.tmp 39) (.tmp 41)),lD 43 42,oM 10 43]
def r81_29:LA:=[oM 45 10,oO 46 (.call 63 [.tmp 45]),oM 44 46,oO 47 (.extract 0 (.tmp 44)),oO 48 (.extract 1 (.tmp 44)),oM 11 47,oM 12 48]
def r81_32:LA:=[oM 49 12,oO 50 (.bin .neq 153 (.tmp 49) (.const .nilIface)),oM 51 50,oG 52 (.mv (.tmp 11)) 51 false,oG 53 (.call 61 [.tmp 52]) 51 false,oG 54 (.mv (.tmp 10)) 51 false,oG 55 (.bin .neq 9 (.tmp 53) (.tmp 54)) 51 false,oO 56 (.pick (.tmp 51) (.const (.bool true)) (.tmp 55)),oM 57 56,oG 58 (.mv (.tmp 10)) 57 false,⟨(some 59),(.call 64 [(.tmp 58),(.const (.string ⟨#[45]⟩))]),(some (57,false))⟩,oG 60 (.pure (oB (ln9 59) 3)) 57 false,oG 61 (.bin .gtr 3 (.tmp 60) (kI 7)) 57 false,oO 62 (.pick (.tmp 57) (.const (.bool true)) (.tmp 61))]
def r81_35:LA:=[lA 63 10 6,sD 10 4 63,oO 5 (.mv (.const (.bool false)))]
def r81_36:LA:=[oM 64 9,oM 65 11,oO 66 (.nilchk (.tmp 64)),sD 1 66 65]
def r81_37:LA:=[bK 67 .add 34 1,oM 34 67]
def r81_39:LA:=[lA 68 10 6,sD 10 4 68,oO 5 (.mv (.const (.bool true)))]
def tr81:TG:=[tT 0 [0,1,4],tT 1 [0,1,4,6],tT 2 [0,1,4,6,7],tT 3 [0,1,4,6,7,30],tT 4 [1,4,5],tT 5 [0,1,4,6,32,33,34],tT 6 [0,1,4,6,32,33,34,35],tT 7 [0,1,4,6,8,9,32,33,34],tT 8 [0,1,4,6,9,10,32,33,34],tT 9 [0,1,4,6,9,10,11,12,32,33,34],tT 10 [0,1,4,6,9,11,32,33,34,62],tT 11 [1,4,5],tT 12 [0,1,4,6,32,33,34],tT 13 [0,1,4,6,32,33,34],tT 14 [1,4,5]]
def tl81:TG:=[tT 6 [0,1,4,6,32,33,34]]
def rs81:List AResV:=[.cell 4 true 10,.tmp 5]
def p81_0_0:PT St:=pS [sY 0 dL,sY 1 dL,sP 4,sP 6,sl 9 (aV false [(cPtr 6 1)]),sY 10 dS,sl 32 (aV false [(cPsl [(6,1),(6,2),(6,3),(6,4),(6,5),(6,6),(6,7),(6,8),(6,9)])]),sI 33,sY 34 (dIc .i64 0)] [eBox 4 [(cD dS),xI,xI,xI,xI,xI,xI,xI,xI,xI],eBox 6 [(cD dS),xI,xI,xI,xI,xI,xI,xI,xI,xI]]
def u81_0_0 {β:Type}(g:St->β):Rows->Rows->BA->Int->BA->Int->Int->Int->Int->Int->Int->Int->Int->Int->BA->I9 β:=p81_0_0.unc g
def p81_0_1:PT St:=pS [sY 0 dL,sY 1 dL,sP 4,sP 6,sl 9 (aV false [(cPtr 6 1)]),sY 10 dS,sI 11,sY 12 dNIf,sl 32 (aV false [(cPsl [(6,1),(6,2),(6,3),(6,4),(6,5),(6,6),(6,7),(6,8),(6,9)])]),sI 33,sY 34 (dIc .i64 0)] [eBox 4 [(cD dS),xI,xI,xI,xI,xI,xI,xI,xI,xI],eBox 6 [(cD dS),xI,xI,xI,xI,xI,xI,xI,xI,xI]]
def u81_0_1 {β:Type}(g:St->β):Rows->Rows->BA->Int->Int->BA->Int->Int->Int->Int->Int->Int->Int->Int->Int->BA->I9 β:=p81_0_1.unc g
def p81_0_2:PT St:=pS [sY 0 dL,sY 1 dL,sP 4,sP 6,sl 9 (aV false [(cPtr 6 1)]),sY 10 dS,sI 11,sl 12 (aV false [(cD (dIf 362 false [(dP [] 0)]))]),sl 32 (aV false [(cPsl [(6,1),(6,2),(6,3),(6,4),(6,5),(6,6),(6,7),(6,8),(6,9)])]),sI 33,sY 34 (dIc .i64 0)] [eBox 4 [(cD dS),xI,xI,xI,xI,xI,xI,xI,xI,xI],eBox 6 [(cD dS),xI,xI,xI,xI,xI,xI,xI,xI,xI]]
def u81_0_2 {β:Type}(g:St->β):Rows->Rows->BA->Int->Int->BA->Int->Int->Int->Int->Int->Int->Int->Int->Int->BA->I9 β:=p81_0_2.unc g
def p81_0_3:PT St:=pS [sY 0 dL,sY 1 dL,sP 4,sP 6,sl 9 (aV false [(cPtr 6 2)]),sY 10 dS,sl 32 (aV false [(cPsl [(6,1),(6,2),(6,3),(6,4),(6,5),(6,6),(6,7),(6,8),(6,9)])]),sI 33,sY 34 (dIc .i64 1)] [eBox 4 [(cD dS),xI,xI,xI,xI,xI,xI,xI,xI,xI],eBox 6 [(cD dS),xI,xI,xI,xI,xI,xI,xI,xI,xI]]
def u81_0_3 {β:Type}(g:St->β):Rows->Rows->BA->Int->BA->Int->Int->Int->Int->Int->Int->Int->Int->Int->BA->I9 β:=p81_0_3.unc g
def p81_0_4:PT St:=pS [sY 0 dL,sY 1 dL,sP 4,sP 6,sl 9 (aV false [(cPtr 6 2)]),sY 10 dS,sI 11,sY 12 dNIf,sl 32 (aV false [(cPsl [(6,1),(6,2),(6,3),(6,4),(6,5),(6,6),(6,7),(6,8),(6,9)])]),sI 33,sY 34 (dIc .i64 1)] [eBox 4 [(cD dS),xI,xI,xI,xI,xI,xI,xI,xI,xI],eBox 6 [(cD dS),xI,xI,xI,xI,xI,xI,xI,xI,xI]]
def u81_0_4 {β:Type}(g:St->β):Rows->Rows->BA->Int->Int->BA->Int->Int->Int->Int->Int->Int->Int->Int->Int->BA->I9 β:=p81_0_4.unc g
def p81_0_5:PT St:=pS [sY 0 dL,sY 1 dL,sP 4,sP 6,sl 9 (aV false [(cPtr 6 2)]),sY 10 dS,sI 11,sl 12 (aV false [(cD (dIf 362 false [(dP [] 0)]))]),sl 32 (aV false [(cPsl [(6,1),(6,2),(6,3),(6,4),(6,5),(6,6),(6,7),(6,8),(6,9)])]),sI 33,sY 34 (dIc .i64 1)] [eBox 4 [(cD dS),xI,xI,xI,xI,xI,xI,xI,xI,xI],eBox 6 [(cD dS),xI,xI,xI,xI,xI,xI,xI,xI,xI]]
def u81_0_5 {β:Type}(g:St->β):Rows->Rows->BA->Int->Int->BA->Int->Int->Int->Int->Int->Int->Int->Int->Int->BA->I9 β:=p81_0_5.unc g
def p81_0_6:PT St:=pS [sY 0 dL,sY 1 dL,sP 4,sP 6,sl 9 (aV false [(cPtr 6 3)]),sY 10 dS,sl 32 (aV false [(cPsl [(6,1),(6,2),(6,3),(6,4),(6,5),(6,6),(6,7),(6,8),(6,9)])]),sI 33,sY 34 (dIc .i64 2)] [eBox 4 [(cD dS),xI,xI,xI,xI,xI,xI,xI,xI,xI],eBox 6 [(cD dS),xI,xI,xI,xI,xI,xI,xI,xI,xI]]
def u81_0_6 {β:Type}(g:St->β):Rows->Rows->BA->Int->BA->Int->Int->Int->Int->Int->Int->Int->Int->Int->BA->I9 β:=p81_0_6.unc g
def p81_0_7:PT St:=pS [sY 0 dL,sY 1 dL,sP 4,sP 6,sl 9 (aV false [(cPtr 6 3)]),sY 10 dS,sI 11,sY 12 dNIf,sl 32 (aV false [(cPsl [(6,1),(6,2),(6,3),(6,4),(6,5),(6,6),(6,7),(6,8),(6,9)])]),sI 33,sY 34 (dIc .i64 2)] [eBox 4 [(cD dS),xI,xI,xI,xI,xI,xI,xI,xI,xI],eBox 6 [(cD dS),xI,xI,xI,xI,xI,xI,xI,xI,xI]]
def u81_0_7 {β:Type}(g:St->β):Rows->Rows->BA->Int->Int->BA->Int->Int->Int->Int->Int->Int->Int->Int->Int->BA->I9 β:=p81_0_7.unc g
def p81_0_8:PT St:=pS [sY 0 dL,sY 1 dL,sP 4,sP 6,sl 9 (aV false [(cPtr 6 3)]),sY 10 dS,sI 11,sl 12 (aV false [(cD (dIf 362 false [(dP [] 0)]))]),sl 32 (aV false [(cPsl [(6,1),(6,2),(6,3),(6,4),(6,5),(6,6),(6,7),(6,8),(6,9)])]),sI 33,sY 34 (dIc .i64 2)] [eBox 4 [(cD dS),xI,xI,xI,xI,xI,xI,xI,xI,xI],eBox 6 [(cD dS),xI,xI,xI,xI,xI,xI,xI,xI,xI]]
def u81_0_8 {β:Type}(g:St->β):Rows->Rows->BA->Int->Int->BA->Int->Int->Int->Int->Int->Int->Int->Int->Int->BA->I9 β:=p81_0_8.unc g
def p81_0_9:PT St:=pS [sY 0 dL,sY 1 dL,sP 4,sP 6,sl 9 (aV false [(cPtr 6 4)]),sY 10 dS,sl 32 (aV false [(cPsl [(6,1),(6,2),(6,3),(6,4),(6,5),(6,6),(6,7),(6,8),(6,9)])]),sI 33,sY 34 (dIc .i64 3)] [eBox 4 [(cD dS),xI,xI,xI,xI,xI,xI,xI,xI,xI],eBox 6 [(cD dS),xI,xI,xI,xI,xI,xI,xI,xI,xI]]
def u81_0_9 {β:Type}(g:St->β):Rows->Rows->BA->Int->BA->Int->Int->Int->Int->Int->Int->Int->Int->Int->BA->I9 β:=p81_0_9.unc g
def p81_0_10:PT St:=pS [sY 0 dL,sY 1 dL,sP 4,sP 6,sl 9 (aV false [(cPtr 6 4)]),sY 10 dS,sI 11,sY 12 dNIf,sl 32 (aV false [(cPsl [(6,1),(6,2),(6,3),(6,4),(6,5),(6,6),(6,7),(6,8),(6,9)])]),sI 33,sY 34 (dIc .i64 3)] [eBox 4 [(cD dS),xI,xI,xI,xI,xI,xI,xI,xI,xI],eBox 6 [(cD dS),xI,xI,xI,xI,xI,xI,xI,xI,xI]]
def u81_0_10 {β:Type}(g:St->β):Rows->Rows->BA->Int->Int->BA->Int->Int->Int->Int->Int->Int->Int->Int->Int->BA->I9 β:=p81_0_10.unc g
def p81_0_11:PT St:=pS [sY 0 dL,sY 1 dL,sP 4,sP 6,sl 9 (aV false [(cPtr 6 4)]),sY 10 dS,sI 11,sl 12 (aV false [(cD (dIf 362 false [(dP [] 0)]))]),sl 32 (aV false [(cPsl [(6,1),(6,2),(6,3),(6,4),(6,5),(6,6),(6,7),(6,8),(6,9)])]),sI 33,sY 34 (dIc .i64 3)] [eBox 4 [(cD dS),xI,xI,xI,xI,xI,xI,xI,xI,xI],eBox 6 [(cD dS),xI,xI,xI,xI,xI,xI,xI,xI,xI]]
def u81_0_11 {β:Type}(g:St->β):Rows->Rows->BA->Int->Int->BA->Int->Int->Int->Int->Int->Int->Int->Int->Int->BA->I9 β:=p81_0_11.unc g
def p81_0_12:PT St:=pS [sY 0 dL,sY 1 dL,sP 4,sP 6,sl 9 (aV false [(cPtr 6 5)]),sY 10 dS,sl 32 (aV false [(cPsl [(6,1),(6,2),(6,3),(6,4),(6,5),(6,6),(6,7),(6,8),(6,9)])]),sI 33,sY 34 (dIc .i64 4)] [eBox 4 [(cD dS),xI,xI,xI,xI,xI,xI,xI,xI,xI],eBox 6 [(cD dS),xI,xI,xI,xI,xI,xI,xI,xI,xI]]
def u81_0_12 {β:Type}(g:St->β):Rows->Rows->BA->Int->BA->Int->Int->Int->Int->Int->Int->Int->Int->Int->BA->I9 β:=p81_0_12.unc g
def p81_0_13:PT St:=pS [sY 0 dL,sY 1 dL,sP 4,sP 6,sl 9 (aV false [(cPtr 6 5)]),sY 10 dS,sI 11,sY 12 dNIf,sl 32 (aV false [(cPsl [(6,1),(6,2),(6,3),(6,4),(6,5),(6,6),(6,7),(6,8),(6,9)])]),sI 33,sY 34 (dIc .i64 4)] [eBox 4 [(cD dS),xI,xI,xI,xI,xI,xI,xI,xI,xI],eBox 6 [(cD dS),xI,xI,xI,xI,xI,xI,xI,xI,xI]]
def u81_0_13 {β:Type}(g:St->β):Rows->Rows->BA->Int->Int->BA->Int->Int->Int->Int->Int->Int->Int->Int->Int->BA->I9 β:=p81_0_13.unc g
def p81_0_14:PT St:=pS [sY 0 dL,sY 1 dL,sP 4,sP 6,sl 9 (aV false [(cPtr 6 5)]),sY 10 dS,sI 11,sl 12 (aV false [(cD (dIf 362 false [(dP [] 0)]))]),sl 32 (aV false [(cPsl [(6,1),(6,2),(6,3),(6,4),(6,5),(6,6),(6,7),(6,8),(6,9)])]),sI 33,sY 34 (dIc .i64 4)] [eBox 4 [(cD dS),xI,xI,xI,xI,xI,xI,xI,xI,xI],eBox 6 [(cD dS),xI,xI,xI,xI,xI,xI,xI,xI,xI]]
def u81_0_14 {β:Type}(g:St->β):Rows->Rows->BA->Int->Int->BA->Int->Int->Int->Int->Int->Int->Int->Int->Int->BA->I9 β:=p81_0_14.unc g
def p81_0_15:PT St:=pS [sY 0 dL,sY 1 dL,sP 4,sP 6,sl 9 (aV false [(cPtr 6 6)]),sY 10 dS,sl 32 (aV false [(cPsl [(6,1),(6,2),(6,3),(6,4),(6,5),(6,6),(6,7),(6,8),(6,9)])]),sI 33,sY 34 (dIc .i64 5)] [eBox 4 [(cD dS),xI,xI,xI,xI,xI,xI,xI,xI,xI],eBox 6 [(cD dS),xI,xI,xI,xI,xI,xI,xI,xI,xI]]
def u81_0_15 {β:Type}(g:St->β):Rows->Rows->BA->Int->BA->Int->Int->Int->Int->Int->Int->Int->Int->Int->BA->I9 β:=p81_0_15.unc g
def p81_0_16:PT St:=pS [sY 0 dL,sY 1 dL,sP 4,sP 6,sl 9 (aV false [(cPtr 6 6)]),sY 10 dS,sI 11,sY 12 dNIf,sl 32 (aV false [(cPsl [(6,1),(6,2),(6,3),(6,4),(6,5),(6,6),(6,7),(6,8),(6,9)])]),sI 33,sY 34 (dIc .i64 5)] [eBox 4 [(cD dS),xI,xI,xI,xI,xI,xI,xI,xI,xI],eBox 6 [(cD dS),xI,xI,xI,xI,xI,xI,xI,xI,xI]]
def u81_0_16 {β:Type}(g:St->β):Rows->Rows->BA->Int->Int->BA->Int->Int->Int->Int->Int->Int->Int->Int->Int->BA->I9 β:=p81_0_16.unc g
def p81_0_17:PT St:=pS [sY 0 dL,sY 1 dL,sP 4,sP 6,sl 9 (aV false [(cPtr 6 6)]),sY 10 dS,sI 11,sl 12 (aV false [(cD (dIf 362 false [(dP [] 0)]))]),sl 32 (aV false [(cPsl [(6,1),(6,2),(6,3),(6,4),(6,5),(6,6),(6,7),(6,8),(6,9)])]),sI 33,sY 34 (dIc .i64 5)] [eBox 4 [(cD dS),xI,xI,xI,xI,xI,xI,xI,xI,xI],eBox 6 [(cD dS),xI,xI,xI,xI,xI,xI,xI,xI,xI]]
def u81_0_17 {β:Type}(g:St->β):Rows->Rows->BA->Int->Int->BA->Int->Int->Int->Int->Int->Int->Int->Int->Int->BA->I9 β:=p81_0_17.unc g
def p81_0_18:PT St:=pS [sY 0 dL,sY 1 dL,sP 4,sP 6,sl 9 (aV false [(cPtr 6 7)]),sY 10 dS,sl 32 (aV false [(cPsl [(6,1),(6,2),(6,3),(6,4),(6,5),(6,6),(6,7),(6,8),(6,9)])]),sI 33,sY 34 (dIc .i64 6)] [eBox 4 [(cD dS),xI,xI,xI,xI,xI,xI,xI,xI,xI],eBox 6 [(cD dS),xI,xI,xI,xI,xI,xI,xI,xI,xI]]
def u81_0_18 {β:Type}(g:St->β):Rows->Rows->BA->Int->BA->Int->Int->Int->Int->Int->Int->Int->Int->Int->BA->I9 β:=p81_0_18.unc g
def p81_0_19:PT St:=pS [sY 0 dL,sY 1 dL,sP 4,sP 6,sl 9 (aV false [(cPtr 6 7)]),sY 10 dS,sI 11,sY 12 dNIf,sl 32 (aV false [(cPsl [(6,1),(6,2),(6,3),(6,4),(6,5),(6,6),(6,7),(6,8),(6,9)])]),sI 33,sY 34 (dIc .i64 6)] [eBox 4 [(cD dS),xI,xI,xI,xI,xI,xI,xI,xI,xI],eBox 6 [(cD dS),xI,xI,xI,xI,xI,xI,xI,xI,xI]]
def u81_0_19 {β:Type}(g:St->β):Rows->Rows->BA->Int->Int->BA->Int->Int->Int->Int->Int->Int->Int->Int->Int->BA->I9 β:=p81_0_19.unc g
def p81_0_20:PT St:=pS [sY 0 dL,sY 1 dL,sP 4,sP 6,sl 9 (aV false [(cPtr 6 7)]),sY 10 dS,sI 11,sl 12 (aV false [(cD (dIf 362 false [(dP [] 0)]))]),sl 32 (aV false [(cPsl [(6,1),(6,2),(6,3),(6,4),(6,5),(6,6),(6,7),(6,8),(6,9)])]),sI 33,sY 34 (dIc .i64 6)] [eBox 4 [(cD dS),xI,xI,xI,xI,xI,xI,xI,xI,xI],eBox 6 [(cD dS),xI,xI,xI,xI,xI,xI,xI,xI,xI]]
def u81_0_20 {β:Type}(g:St->β):Rows->Rows->BA->Int->Int->BA->Int->Int->Int->Int->Int->Int->Int->Int->Int->BA->I9 β:=p81_0_20.unc g
def p81_0_21:PT St:=pS [sY 0 dL,sY 1 dL,sP 4,sP 6,sl 9 (aV false [(cPtr 6 8)]),sY 10 dS,sl 32 (aV false [(cPsl [(6,1),(6,2),(6,3),(6,4),(6,5),(6,6),(6,7),(6,8),(6,9)])]),sI 33,sY 34 (dIc .i64 7)] [eBox 4 [(cD dS),xI,xI,xI,xI,xI,xI,xI,xI,xI],eBox 6 [(cD dS),xI,xI,xI,xI,xI,xI,xI,xI,xI]]
def u81_0_21 {β:Type}(g:St->β):Rows->Rows->BA->Int->BA->Int->Int->Int->Int->Int->Int->Int->Int->Int->BA->I9 β:=p81_0_21.unc g
def p81_0_22:PT St:=pS [sY 0 dL,sY 1 dL,sP 4,sP 6,sl 9 (aV false [(cPtr 6 8)]),sY 10 dS,sI 11,sY 12 dNIf,sl 32 (aV false [(cPsl [(6,1),(6,2),(6,3),(6,4),(6,5),(6,6),(6,7),(6,8),(6,9)])]),sI 33,sY 34 (dIc .i64 7)] [eBox 4 [(cD dS),xI,xI,xI,xI,xI,xI,xI,xI,xI],eBox 6 [(cD dS),xI,xI,xI,xI,xI,xI,xI,xI,xI]]
def u81_0_22 {β:Type}(g:St->β):Rows->Rows->BA->Int->Int->BA->Int->Int->Int->Int->Int->Int->Int->Int->Int->BA->I9 β:=p81_0_22.unc g
def p81_0_23:PT St:=pS [sY 0 dL,sY 1 dL,sP 4,sP 6,sl 9 (aV false [(cPtr 6 8)]),sY 10 dS,sI 11,sl 12 (aV false [(cD (dIf 362 false [(dP [] 0)]))]),sl 32 (aV false [(cPsl [(6,1),(6,2),(6,3),(6,4),(6,5),(6,6),(6,7),(6,8),(6,9)])]),sI 33,sY 34 (dIc .i64 7)] [eBox 4 [(cD dS),xI,xI,xI,xI,xI,xI,xI,xI,xI],eBox 6 [(cD dS),xI,xI,xI,xI,xI,xI,xI,xI,xI]]
def u81_0_23 {β:Type}(g:St->β):Rows->Rows->BA->Int->Int->BA->Int->Int->Int->Int->Int->Int->Int->Int->Int->BA->I9 β:=p81_0_23.unc g
def p81_0_24:PT St:=pS [sY 0 dL,sY 1 dL,sP 4,sP 6,sl 9 (aV false [(cPtr 6 9)]),sY 10 dS,sl 32 (aV false [(cPsl [(6,1),(6,2),(6,3),(6,4),(6,5),(6,6),(6,7),(6,8),(6,9)])]),sI 33,sY 34 (dIc .i64 8)] [eBox 4 [(cD dS),xI,xI,xI,xI,xI,xI,xI,xI,xI],eBox 6 [(cD dS),xI,xI,xI,xI,xI,xI,xI,xI,xI]]
def u81_0_24 {β:Type}(g:St->β):Rows->Rows->BA->Int->BA->Int->Int->Int->Int->Int->Int->Int->Int->Int->BA->I9 β:=p81_0_24.unc g
def p81_0_25:PT St:=pS [sY 0 dL,sY 1 dL,sP 4,sP 6,sl 9 (aV false [(cPtr 6 9)]),sY 10 dS,sI 11,sY 12 dNIf,sl 32 (aV false [(cPsl [(6,1),(6,2),(6,3),(6,4),(6,5),(6,6),(6,7),(6,8),(6,9)])]),sI 33,sY 34 (dIc .i64 8)] [eBox 4 [(cD dS),xI,xI,xI,xI,xI,xI,xI,xI,xI],eBox 6 [(cD dS),xI,xI,xI,xI,xI,xI,xI,xI,xI]]
def u81_0_25 {β:Type}(g:St->β):Rows->Rows->BA->Int->Int->BA->Int->Int->Int->Int->Int->Int->Int->Int->Int->BA->I9 β:=p81_0_25.unc g
def p81_0_26:PT St:=pS [sY 0 dL,sY 1 dL,sP 4,sP 6,sl 9 (aV false [(cPtr 6 9)]),sY 10 dS,sI 11,sl 12 (aV false [(cD (dIf 362 false [(dP [] 0)]))]),sl 32 (aV false [(cPsl [(6,1),(6,2),(6,3),(6,4),(6,5),(6,6),(6,7),(6,8),(6,9)])]),sI 33,sY 34 (dIc .i64 8)] [eBox 4 [(cD dS),xI,xI,xI,xI,xI,xI,xI,xI,xI],eBox 6 [(cD dS),xI,xI,xI,xI,xI,xI,xI,xI,xI]]
def u81_0_26 {β:Type}(g:St->β):Rows->Rows->BA->Int->Int->BA->Int->Int->Int->Int->Int->Int->Int->Int->Int->BA->I9 β:=p81_0_26.unc g
def pr81_0_0:PT (List RV):=pRs [pR true [rD dS,rD (dI .i64),rD (dI .i64),rD (dI .i64),rD (dI .i64),rD (dI .i64),rD (dI .i64),rD (dI .i64),rD (dI .i64),rD (dI .i64)],pR false [rD dB]]
def ur81_0_0 {β:Type}(g:List RV->β):BA->Int->Int->Int->Int->Int->Int->Int->Int->Int->Bool->β:=pr81_0_0.unc g
def E81_0g (a:Tf173_0)(b:Tf63_0)(c:Tf61_0)(d:Tf64_0):EnvK:=EnvK.ofP (EnvK.of [⟨173,nt173,[⟨pa173_0,Fn173_0 a⟩]⟩,⟨63,nt63,[⟨pa63_0,Fn63_0 b⟩]⟩,⟨61,nt61,[⟨pa61_0,Fn61_0 c⟩]⟩,⟨64,nt64,[⟨pa64_0,Fn64_0 d⟩]⟩] noSeq) [(77,[1,2,3,4,5,6,7,8,9])]
def E81_0:EnvK:=E81_0g f173_0 f63_0 f61_0 f64_0
theorem eo81_0:E81_0.Ok Pg:=EnvK.ofP_ok (EnvK.of_ok noSeq_ok ⟨⟨io173_0,TT⟩,⟨io63_0,TT⟩,⟨io61_0,TT⟩,⟨io64_0,TT⟩,TT⟩) ⟨ptr77,TT⟩
def c81_0_28g:MCode:=(.region r81_29 [] (tO [0,1,4,6,9,10,11,12,32,33,34]))
def c81_0_28:MCode:=c81_0_28g
theorem g81_0_28:c81_0_28.Good Pg E81_0 sh81:=TT
abbrev TJ81_0_0:Type 1:=(α:Type)->BA->(Int->Op α)->(Int->Op α)->Op α
def J81_0_0g (a:Tf63_0)(α:Type)(b:BA)(k1:Int->Op α)(k2:Int->Op α):Op α:=
 a α b
 (fun c=>k1 c)
 (fun d=>k2 d)
def J81_0_0 (α:Type)(a:BA)(k1:Int->Op α)(k2:Int->Op α):Op α:=J81_0_0g f63_0 α a k1 k2
def F81_0_0 (v:TJ81_0_0)(α:Type)(K:KT α):Rows->Rows->BA->Int->BA->Int->Int->Int->Int->Int->Int->Int->Int->Int->BA->I9 (Op α):=fun c d a e g h i j l m o p q r s t w z A B C D F G=>v α a (fun b=>u81_0_1 (K .normal) c d a b e g h i j l m o p q r s t w z A B C D F G) (fun b=>u81_0_2 (K .normal) c d a b e g h i j l m o p q r s t w z A B C D F G)
theorem m81_0_0g (b:Tf173_0)(a:Tf63_0)(c:Tf61_0)(d:Tf64_0)(α:Type)(K:KT α):F81_0_0 (J81_0_0g a) α K=p81_0_0.unc fun σ=>runM Pg (E81_0g b a c d) sh81 (c81_0_28g ) K σ:=by kernel_rfl
theorem m81_0_0:∀ (α:Type) (K:KT α),F81_0_0 J81_0_0 α K=p81_0_0.unc fun σ=>runM Pg E81_0 sh81 c81_0_28 K σ:=m81_0_0g f173_0 f63_0 f61_0 f64_0
abbrev TJ81_0_1:Type 1:=(α:Type)->BA->(Int->Op α)->(Int->Op α)->Op α
def J81_0_1g (a:Tf63_0)(α:Type)(b:BA)(k1:Int->Op α)(k2:Int->Op α):Op α:=
 a α b
 (fun c=>k1 c)
 (fun d=>k2 d)
def J81_0_1 (α:Type)(a:BA)(k1:Int->Op α)(k2:Int->Op α):Op α:=J81_0_1g f63_0 α a k1 k2
def F81_0_1 (v:TJ81_0_1)(α:Type)(K:KT α):Rows->Rows->BA->Int->BA->Int->Int->Int->Int->Int->Int->Int->Int->Int->BA->I9 (Op α):=fun c d a e g h i j l m o p q r s t w z A B C D F G=>v α a (fun b=>u81_0_4 (K .normal) c d a b e g h i j l m o p q r s t w z A B C D F G) (fun b=>u81_0_5 (K .normal) c d a b e g h i j l m o p q r s t w z A B C D F G)
theorem m81_0_1g (b:Tf173_0)(a:Tf63_0)(c:Tf61_0)(d:Tf64_0)(α:Type)(K:KT α):F81_0_1 (J81_0_1g a) α K=p81_0_3.unc fun σ=>runM Pg (E81_0g b a c d) sh81 (c81_0_28g ) K σ:=by kernel_rfl
theorem m81_0_1:∀ (α:Type) (K:KT α),F81_0_1 J81_0_1 α K=p81_0_3.unc fun σ=>runM Pg E81_0 sh81 c81_0_28 K σ:=m81_0_1g f173_0 f63_0 f61_0 f64_0
abbrev TJ81_0_2:Type 1:=(α:Type)->BA->(Int->Op α)->(Int->Op α)->Op α
def J81_0_2g (a:Tf63_0)(α:Type)(b:BA)(k1:Int->Op α)(k2:Int->Op α):Op α:=
 a α b
 (fun c=>k1 c)
 (fun d=>k2 d)
def J81_0_2 (α:Type)(a:BA)(k1:Int->Op α)(k2:Int->Op α):Op α:=J81_0_2g f63_0 α a k1 k2
def F81_0_2 (v:TJ81_0_2)(α:Type)(K:KT α):Rows->Rows->BA->Int->BA->Int->Int->Int->Int->Int->Int->Int->Int->Int->BA->I9 (Op α):=fun c d a e g h i j l m o p q r s t w z A B C D F G=>v α a (fun b=>u81_0_7 (K .normal) c d a b e g h i j l m o p q r s t w z A B C D F G) (fun b=>u81_0_8 (K .normal) c d a b e g h i j l m o p q r s t w z A B C D F G)
theorem m81_0_2g (b:Tf173_0)(a:Tf63_0)(c:Tf61_0)(d:Tf64_0)(α:Type)(K:KT α):F81_0_2 (J81_0_2g a) α K=p81_0_6.unc fun σ=>runM Pg (E81_0g b a c d) sh81 (c81_0_28g ) K σ:=by kernel_rfl
theorem m81_0_2:∀ (α:Type) (K:KT α),F81_0_2 J81_0_2 α K=p81_0_6.unc fun σ=>runM Pg E81_0 sh81 c81_0_28 K σ:=m81_0_2g f173_0 f63_0 f61_0 f64_0
abbrev TJ81_0_3:Type 1:=(α:Type)->BA->(Int->Op α)->(Int->Op α)->Op α
def J81_0_3g (a:Tf63_0)(α:Type)(b:BA)(k1:Int->Op α)(k2:Int->Op α):Op α:=
 a α b
 (fun c=>k1 c)
 (fun d=>k2 d)
def J81_0_3 (α:Type)(a:BA)(k1:Int->Op α)(k2:Int->Op α):Op α:=J81_0_3g f63_0 α a k1 k2
def F81_0_3 (v:TJ81_0_3)(α:Type)(K:KT α):Rows->Rows->BA->Int->BA->Int->Int->Int->Int->Int->Int->Int->Int->Int->BA->I9 (Op α):=fun c d a e g h i j l m o p q r s t w z A B C D F G=>v α a (fun b=>u81_0_10 (K .normal) c d a b e g h i j l m o p q r s t w z A B C D F G) (fun b=>u81_0_11 (K .normal) c d a b e g h i j l m o p q r s t w z A B C D F G)
theorem m81_0_3g (b:Tf173_0)(a:Tf63_0)(c:Tf61_0)(d:Tf64_0)(α:Type)(K:KT α):F81_0_3 (J81_0_3g a) α K=p81_0_9.unc fun σ=>runM Pg (E81_0g b a c d) sh81 (c81_0_28g ) K σ:=by kernel_rfl
theorem m81_0_3:∀ (α:Type) (K:KT α),F81_0_3 J81_0_3 α K=p81_0_9.unc fun σ=>runM Pg E81_0 sh81 c81_0_28 K σ:=m81_0_3g f173_0 f63_0 f61_0 f64_0
abbrev TJ81_0_4:Type 1:=(α:Type)->BA->(Int->Op α)->(Int->Op α)->Op α
def J81_0_4g (a:Tf63_0)(α:Type)(b:BA)(k1:Int->Op α)(k2:Int->Op α):Op α:=
 a α b
 (fun c=>k1 c)
 (fun d=>k2 d)
def J81_0_4 (α:Type)(a:BA)(k1:Int->Op α)(k2:Int->Op α):Op α:=J81_0_4g f63_0 α a k1 k2
def F81_0_4 (v:TJ81_0_4)(α:Type)(K:KT α):Rows->Rows->BA->Int->BA->Int->Int->Int->Int->Int->Int->Int->Int->Int->BA->I9 (Op α):=fun c d a e g h i j l m o p q r s t w z A B C D F G=>v α a (fun b=>u81_0_13 (K .normal) c d a b e g h i j l m o p q r s t w z A B C D F G) (fun b=>u81_0_14 (K .normal) c d a b e g h i j l m o p q r s t w z A B C D F G)
theorem m81_0_4g (b:Tf173_0)(a:Tf63_0)(c:Tf61_0)(d:Tf64_0)(α:Type)(K:KT α):F81_0_4 (J81_0_4g a) α K=p81_0_12.unc fun σ=>runM Pg (E81_0g b a c d) sh81 (c81_0_28g ) K σ:=by kernel_rfl
theorem m81_0_4:∀ (α:Type) (K:KT α),F81_0_4 J81_0_4 α K=p81_0_12.unc fun σ=>runM Pg E81_0 sh81 c81_0_28 K σ:=m81_0_4g f173_0 f63_0 f61_0 f64_0
abbrev TJ81_0_5:Type 1:=(α:Type)->BA->(Int->Op α)->(Int->Op α)->Op α
def J81_0_5g (a:Tf63_0)(α:Type)(b:BA)(k1:Int->Op α)(k2:Int->Op α):Op α:=
 a α b
 (fun c=>k1 c)
 (fun d=>k2 d)
def J81_0_5 (α:Type)(a:BA)(k1:Int->Op α)(k2:Int->Op α):Op α:=J81_0_5g f63_0 α a k1 k2
def F81_0_5 (v:TJ81_0_5)(α:Type)(K:KT α):Rows->Rows->BA->Int->BA->Int->Int->Int->Int->Int->Int->Int->Int->Int->BA->I9 (Op α):=fun c d a e g h i j l m o p q r s t w z A B C D F G=>v α a (fun b=>u81_0_16 (K .normal) c d a b e g h i j l m o p q r s t w z A B C D F G) (fun b=>u81_0_17 (K .normal) c d a b e g h i j l m o p q r s t w z A B C D F G)
theorem m81_0_5g (b:Tf173_0)(a:Tf63_0)(c:Tf61_0)(d:Tf64_0)(α:Type)(K:KT α):F81_0_5 (J81_0_5g a) α K=p81_0_15.unc fun σ=>runM Pg (E81_0g b a c d) sh81 (c81_0_28g ) K σ:=by kernel_rfl
theorem m81_0_5:∀ (α:Type) (K:KT α),F81_0_5 J81_0_5 α K=p81_0_15.unc fun σ=>runM Pg E81_0 sh81 c81_0_28 K σ:=m81_0_5g f173_0 f63_0 f61_0 f64_0
abbrev TJ81_0_6:Type 1:=(α:Type)->BA->(Int->Op α)->(Int->Op α)->Op α
def J81_0_6g (a:Tf63_0)(α:Type)(b:BA)(k1:Int->Op α)(k2:Int->Op α):Op α:=
 a α b
 (fun c=>k1 c)
 (fun d=>k2 d)
def J81_0_6 (α:Type)(a:BA)(k1:Int->Op α)(k2:Int->Op α):Op α:=J81_0_6g f63_0 α a k1 k2
def F81_0_6 (v:TJ81_0_6)(α:Type)(K:KT α):Rows->Rows->BA->Int->BA->Int->Int->Int->Int->Int->Int->Int->Int->Int->BA->I9 (Op α):=fun c d a e g h i j l m o p q r s t w z A B C D F G=>v α a (fun b=>u81_0_19 (K .normal) c d a b e g h i j l m o p q r s t w z A B C D F G) (fun b=>u81_0_20 (K .normal) c d a b e g h i j l m o p q r s t w z A B C D F G)
theorem m81_0_6g (b:Tf173_0)(a:Tf63_0)(c:Tf61_0)(d:Tf64_0)(α:Type)(K:KT α):F81_0_6 (J81_0_6g a) α K=p81_0_18.unc fun σ=>runM Pg (E81_0g b a c d) sh81 (c81_0_28g ) K σ:=by kernel_rfl
theorem m81_0_6:∀ (α:Type) (K:KT α),F81_0_6 J81_0_6 α K=p81_0_18.unc fun σ=>runM Pg E81_0 sh81 c81_0_28 K σ:=m81_0_6g f173_0 f63_0 f61_0 f64_0
abbrev TJ81_0_7:Type 1:=(α:Type)->BA->(Int->Op α)->(Int->Op α)->Op α
def J81_0_7g (a:Tf63_0)(α:Type)(b:BA)(k1:Int->Op α)(k2:Int->Op α):Op α:=
 a α b
 (fun c=>k1 c)
 (fun d=>k2 d)
def J81_0_7 (α:Type)(a:BA)(k1:Int->Op α)(k2:Int->Op α):Op α:=J81_0_7g f63_0 α a k1 k2
def F81_0_7 (v:TJ81_0_7)(α:Type)(K:KT α):Rows->Rows->BA->Int->BA->Int->Int->Int->Int->Int->Int->Int->Int->Int->BA->I9 (Op α):=fun c d a e g h i j l m o p q r s t w z A B C D F G=>v α a (fun b=>u81_0_22 (K .normal) c d a b e g h i j l m o p q r s t w z A B C D F G) (fun b=>u81_0_23 (K .normal) c d a b e g h i j l m o p q r s t w z A B C D F G)
theorem m81_0_7g (b:Tf173_0)(a:Tf63_0)(c:Tf61_0)(d:Tf64_0)(α:Type)(K:KT α):F81_0_7 (J81_0_7g a) α K=p81_0_21.unc fun σ=>runM Pg (E81_0g b a c d) sh81 (c81_0_28g ) K σ:=by kernel_rfl
theorem m81_0_7:∀ (α:Type) (K:KT α),F81_0_7 J81_0_7 α K=p81_0_21.unc fun σ=>runM Pg E81_0 sh81 c81_0_28 K σ:=m81_0_7g f173_0 f63_0 f61_0 f64_0
abbrev TJ81_0_8:Type 1:=(α:Type)->BA->(Int->Op α)->(Int->Op α)->Op α
def J81_0_8g (a:Tf63_0)(α:Type)(b:BA)(k1:Int->Op α)(k2:Int->Op α):Op α:=
 a α b
 (fun c=>k1 c)
 (fun d=>k2 d)
def J81_0_8 (α:Type)(a:BA)(k1:Int->Op α)(k2:Int->Op α):Op α:=J81_0_8g f63_0 α a k1 k2
def F81_0_8 (v:TJ81_0_8)(α:Type)(K:KT α):Rows->Rows->BA->Int->BA->Int->Int->Int->Int->Int->Int->Int->Int->Int->BA->I9 (Op α):=fun c d a e g h i j l m o p q r s t w z A B C D F G=>v α a (fun b=>u81_0_25 (K .normal) c d a b e g h i j l m o p q r s t w z A B C D F G) (fun b=>u81_0_26 (K .normal) c d a b e g h i j l m o p q r s t w z A B C D F G)
theorem m81_0_8g (b:Tf173_0)(a:Tf63_0)(c:Tf61_0)(d:Tf64_0)(α:Type)(K:KT α):F81_0_8 (J81_0_8g a) α K=p81_0_24.unc fun σ=>runM Pg (E81_0g b a c d) sh81 (c81_0_28g ) K σ:=by kernel_rfl
theorem m81_0_8:∀ (α:Type) (K:KT α),F81_0_8 J81_0_8 α K=p81_0_24.unc fun σ=>runM Pg E81_0 sh81 c81_0_28 K σ:=m81_0_8g f173_0 f63_0 f61_0 f64_0
abbrev Tf81_0:Type 1:=(α:Type)->Rows->(BA->I9 (Bool->Op α))->Op α
def f81_0g (D:TJ81_0_0)(F:TJ81_0_1)(G:TJ81_0_2)(H:TJ81_0_3)(I:TJ81_0_4)(J:TJ81_0_5)(L:TJ81_0_6)(M:TJ81_0_7)(N:TJ81_0_8)(O:Tf173_0)(j:Tf61_0)(l:Tf64_0)(α:Type)(h:Rows)(k1:BA->I9 (Bool->Op α)):Op α:=
 rowK h 0 [.str]
 (fun a=>cK (((List.length h:Nat):Int) != 10)
 (k1 a 0 0 0 0 0 0 0 0 0 false)
 (O α a (⟨#[10]⟩:BA)
 (fun P=>cK P
 (k1 a 0 0 0 0 0 0 0 0 0 false)
 (rowK h 1 [.str]
 (fun p=>D α p
 (fun b=>j α b
 (fun Q=>cK (!(Q.toList == p.toList))
 (k1 a 0 0 0 0 0 0 0 0 0 false)
 (l α p (⟨#[45]⟩:BA)
 (fun R=>cK (decide (7 < ((ByteArray.size R:Nat):Int)))
 (k1 a 0 0 0 0 0 0 0 0 0 false)
 (rowK h 2 [.str]
 (fun q=>F α q
 (fun c=>j α c
 (fun T=>cK (!(T.toList == q.toList))
 (k1 a b 0 0 0 0 0 0 0 0 false)
 (l α q (⟨#[45]⟩:BA)
 (fun U=>cK (decide (7 < ((ByteArray.size U:Nat):Int)))
 (k1 a b 0 0 0 0 0 0 0 0 false)
 (rowK h 3 [.str]
 (fun r=>G α r
 (fun d=>j α d
 (fun V=>cK (!(V.toList == r.toList))
 (k1 a b c 0 0 0 0 0 0 0 false)
 (l α r (⟨#[45]⟩:BA)
 (fun W=>cK (decide (7 < ((ByteArray.size W:Nat):Int)))
 (k1 a b c 0 0 0 0 0 0 0 false)
 (rowK h 4 [.str]
 (fun s=>H α s
 (fun e=>j α e
 (fun X=>cK (!(X.toList == s.toList))
 (k1 a b c d 0 0 0 0 0 0 false)
 (l α s (⟨#[45]⟩:BA)
 (fun Y=>cK (decide (7 < ((ByteArray.size Y:Nat):Int)))
 (k1 a b c d 0 0 0 0 0 0 false)
 (rowK h 5 [.str]
 (fun t=>I α t
 (fun g=>j α g
 (fun Z=>cK (!(Z.toList == t.toList))
 (k1 a b c d e 0 0 0 0 0 false)
 (l α t (⟨#[45]⟩:BA)
 (fun a0=>cK (decide (7 < ((ByteArray.size a0:Nat):Int)))
 (k1 a b c d e 0 0 0 0 0 false)
 (rowK h 6 [.str]
 (fun w=>J α w
 (fun i=>j α i
 (fun a1=>cK (!(a1.toList == w.toList))
 (k1 a b c d e g 0 0 0 0 false)
 (l α w (⟨#[45]⟩:BA)
 (fun a2=>cK (decide (7 < ((ByteArray.size a2:Nat):Int)))
 (k1 a b c d e g 0 0 0 0 false)
 (rowK h 7 [.str]
 (fun z=>L α z
 (fun m=>j α m
 (fun a3=>cK (!(a3.toList == z.toList))
 (k1 a b c d e g i 0 0 0 false)
 (l α z (⟨#[45]⟩:BA)
 (fun a4=>cK (decide (7 < ((ByteArray.size a4:Nat):Int)))
 (k1 a b c d e g i 0 0 0 false)
 (rowK h 8 [.str]
 (fun A=>M α A
 (fun o=>j α o
 (fun a5=>cK (!(a5.toList == A.toList))
 (k1 a b c d e g i m 0 0 false)
 (l α A (⟨#[45]⟩:BA)
 (fun a6=>cK (decide (7 < ((ByteArray.size a6:Nat):Int)))
 (k1 a b c d e g i m 0 0 false)
 (rowK h 9 [.str]
 (fun B=>N α B
 (fun C=>j α C
 (fun a7=>cK (!(a7.toList == B.toList))
 (k1 a b c d e g i m o 0 false)
 (l α B (⟨#[45]⟩:BA)
 (fun a8=>cK (decide (7 < ((ByteArray.size a8:Nat):Int)))
 (k1 a b c d e g i m o 0 false)
 (k1 a b c d e g i m o C true)))))
 (fun a9=>k1 a b c d e g i m o 0 false)))))))
 (fun b0=>k1 a b c d e g i m 0 0 false)))))))
 (fun b1=>k1 a b c d e g i 0 0 0 false)))))))
 (fun b2=>k1 a b c d e g 0 0 0 0 false)))))))
 (fun b3=>k1 a b c d e 0 0 0 0 0 false)))))))
 (fun b4=>k1 a b c d 0 0 0 0 0 0 false)))))))
 (fun b5=>k1 a b c 0 0 0 0 0 0 0 false)))))))
 (fun b6=>k1 a b 0 0 0 0 0 0 0 0 false)))))))
 (fun b7=>k1 a 0 0 0 0 0 0 0 0 0 false))))))
def f81_0 (α:Type)(a:Rows)(k1:BA->I9 (Bool->Op α)):Op α:=f81_0g J81_0_0 J81_0_1 J81_0_2 J81_0_3 J81_0_4 J81_0_5 J81_0_6 J81_0_7 J81_0_8 f173_0 f61_0 f64_0 α a k1
def pa81_0:PT (List DV):=pA [pV false [dL],pV false [dLz]]
def Fn81_0 (v:Tf81_0)(α:Type)(k:RT α):Rows->Op α:=fun a=>v α a (fun b c d e g h i j l m o=>ur81_0_0 k b c d e g h i j l m o)
def cm81_0g (a:TJ81_0_0)(b:TJ81_0_1)(c:TJ81_0_2)(d:TJ81_0_3)(e:TJ81_0_4)(g:TJ81_0_5)(h:TJ81_0_6)(i:TJ81_0_7)(j:TJ81_0_8):MCode:=(.seq (.region r81_2 [] (tO [0,1,4])) (.seq (.region r81_4 [] (tO [0,1,4,6])) (.seq (.region r81_6 [] (tO [0,1,4,6,7])) (.seq (.seq (.region r81_9 [] (tO [0,1,4,6,7,30])) (.cond (.tmp 30) (.seq (.region r81_12 [] (tO [1,4,5])) .ret) .skip)) (.seq (.seq (.region r81_15 [] (tO [0,1,4,6,32,33,34])) (.block 0 (.loopU 11 td81_17 (.seq (.region r81_19 [] (tO [0,1,4,6,32,33,34,35])) (.seq (.cond (.tmp 35) .skip (.exit 0)) (.seq (.block 1 (.seq (.region r81_25 [] (tO [0,1,4,6,8,9,32,33,34])) (.seq (.region r81_27 [] (tO [0,1,4,6,9,10,32,33,34])) (.seq (.mark [⟨p81_0_0,F81_0_0 a⟩,⟨p81_0_3,F81_0_1 b⟩,⟨p81_0_6,F81_0_2 c⟩,⟨p81_0_9,F81_0_3 d⟩,⟨p81_0_12,F81_0_4 e⟩,⟨p81_0_15,F81_0_5 g⟩,⟨p81_0_18,F81_0_6 h⟩,⟨p81_0_21,F81_0_7 i⟩,⟨p81_0_24,F81_0_8 j⟩] c81_0_28) (.seq (.seq (.region r81_32 [] (tO [0,1,4,6,9,11,32,33,34,62])) (.cond (.tmp 62) (.seq (.region r81_35 [] (tO [1,4,5])) .ret) .skip)) (.region r81_36 [] (tO [0,1,4,6,32,33,34]))))))) (.region r81_37 [] (tO [0,1,4,6,32,33,34])))))))) (.seq (.region r81_39 [] (tO [1,4,5])) .ret))))))
def cm81_0:MCode:=cm81_0g J81_0_0 J81_0_1 J81_0_2 J81_0_3 J81_0_4 J81_0_5 J81_0_6 J81_0_7 J81_0_8
theorem gm81_0:cm81_0.Good Pg E81_0 sh81:=⟨TT,TT,TT,⟨TT,⟨TT,TT⟩,TT⟩,⟨TT,⟨TT,⟨TT,TT⟩,⟨TT,TT,⟨g81_0_28,m81_0_0,m81_0_1,m81_0_2,m81_0_3,m81_0_4,m81_0_5,m81_0_6,m81_0_7,m81_0_8,TT⟩,⟨TT,⟨TT,TT⟩,TT⟩,TT⟩,TT⟩,by decide⟩,TT,TT⟩
theorem fm81_0g (a:Tf173_0)(p:Tf63_0)(b:Tf61_0)(c:Tf64_0)(d:TJ81_0_0)(e:TJ81_0_1)(g:TJ81_0_2)(h:TJ81_0_3)(i:TJ81_0_4)(j:TJ81_0_5)(l:TJ81_0_6)(m:TJ81_0_7)(o:TJ81_0_8)(α:Type)(k:RT α):Fn81_0 (f81_0g d e g h i j l m o a b c) α k=pa81_0.unc fun ds=>fnM Pg (E81_0g a p b c) sh81 (cm81_0g d e g h i j l m o) rs81 k ds:=by kernel_rfl
theorem fm81_0:∀ (α:Type) (k:RT α),Fn81_0 f81_0 α k=pa81_0.unc fun ds=>fnM Pg E81_0 sh81 cm81_0 rs81 k ds:=fm81_0g f173_0 f63_0 f61_0 f64_0 J81_0_0 J81_0_1 J81_0_2 J81_0_3 J81_0_4 J81_0_5 J81_0_6 J81_0_7 J81_0_8
theorem is81:FnIs Pg 81 nt81 tr81 tl81 cm81_0.erase rs81:=⟨Tryz.f81,Tryz.func81,rfl,by kernel_rfl,by kernel_rfl,by kernel_rfl⟩
theorem io81_0:InstOk Pg 81 nt81 ⟨pa81_0,Fn81_0 f81_0⟩:=inst_ok eo81_0 followsTry is81 ⟨⟨sh81,cm81_0,by kernel_rfl,gm81_0,fm81_0⟩⟩
def p81_1_0:PT St:=pSv [(1,500001001,1000000)] [sY 0 dL,sl 1 (aV false [(cPsl [(500001001,0)])]),sP 4,sP 6,sl 9 (aV false [(cPtr 6 1)]),sY 10 dS,sl 32 (aV false [(cPsl [(6,1),(6,2),(6,3),(6,4),(6,5),(6,6),(6,7),(6,8),(6,9),(500001001,0)])]),sI 33,sY 34 (dIc .i64 0)] [eBox 500001001 [xI],eBox 4 [(cD dS),xI,xI,xI,xI,xI,xI,xI,xI,xI],eBox 6 [(cD dS),xI,xI,xI,xI,xI,xI,xI,xI,xI]]
def u81_1_0 {β:Type}(g:St->β):Rows->BA->Int->Int->BA->Int->Int->Int->Int->Int->Int->Int->Int->Int->BA->I9 β:=p81_1_0.unc g
def p81_1_1:PT St:=pSv [(1,500001001,1000000)] [sY 0 dL,sl 1 (aV false [(cPsl [(500001001,0)])]),sP 4,sP 6,sl 9 (aV false [(cPtr 6 1)]),sY 10 dS,sI 11,sY 12 dNIf,sl 32 (aV false [(cPsl [(6,1),(6,2),(6,3),(6,4),(6,5),(6,6),(6,7),(6,8),(6,9),(500001001,0)])]),sI 33,sY 34 (dIc .i64 0)] [eBox 500001001 [xI],eBox 4 [(cD dS),xI,xI,xI,xI,xI,xI,xI,xI,xI],eBox 6 [(cD dS),xI,xI,xI,xI,xI,xI,xI,xI,xI]]
def u81_1_1 {β:Type}(g:St->β):Rows->BA->Int->Int->Int->BA->Int->Int->Int->Int->Int->Int->Int->Int->Int->BA->I9 β:=p81_1_1.unc g
def p81_1_2:PT St:=pSv [(1,500001001,1000000)] [sY 0 dL,sl 1 (aV false [(cPsl [(500001001,0)])]),sP 4,sP 6,sl 9 (aV false [(cPtr 6 1)]),sY 10 dS,sI 11,sl 12 (aV false [(cD (dIf 362 false [(dP [] 0)]))]),sl 32 (aV false [(cPsl [(6,1),(6,2),(6,3),(6,4),(6,5),(6,6),(6,7),(6,8),(6,9),(500001001,0)])]),sI 33,sY 34 (dIc .i64 0)] [eBox 500001001 [xI],eBox 4 [(cD dS),xI,xI,xI,xI,xI,xI,xI,xI,xI],eBox 6 [(cD dS),xI,xI,xI,xI,xI,xI,xI,xI,xI]]
def u81_1_2 {β:Type}(g:St->β):Rows->BA->Int->Int->Int->BA->Int->Int->Int->Int->Int->Int->Int->Int->Int->BA->I9 β:=p81_1_2.unc g
def p81_1_3:PT St:=pSv [(1,500001001,1000000)] [sY 0 dL,sl 1 (aV false [(cPsl [(500001001,0)])]),sP 4,sP 6,sl 9 (aV false [(cPtr 6 2)]),sY 10 dS,sl 32 (aV false [(cPsl [(6,1),(6,2),(6,3),(6,4),(6,5),(6,6),(6,7),(6,8),(6,9),(500001001,0)])]),sI 33,sY 34 (dIc .i64 1)] [eBox 500001001 [xI],eBox 4 [(cD dS),xI,xI,xI,xI,xI,xI,xI,xI,xI],eBox 6 [(cD dS),xI,xI,xI,xI,xI,xI,xI,xI,xI]]
def u81_1_3 {β:Type}(g:St->β):Rows->BA->Int->Int->BA->Int->Int->Int->Int->Int->Int->Int->Int->Int->BA->I9 β:=p81_1_3.unc g
def p81_1_4:PT St:=pSv [(1,500001001,1000000)] [sY 0 dL,sl 1 (aV false [(cPsl [(500001001,0)])]),sP 4,sP 6,sl 9 (aV false [(cPtr 6 2)]),sY 10 dS,sI 11,sY 12 dNIf,sl 32 (aV false [(cPsl [(6,1),(6,2),(6,3),(6,4),(6,5),(6,6),(6,7),(6,8),(6,9),(500001001,0)])]),sI 33,sY 34 (dIc .i64 1)] [eBox 500001001 [xI],eBox 4 [(cD dS),xI,xI,xI,xI,xI,xI,xI,xI,xI],eBox 6 [(cD dS),xI,xI,xI,xI,xI,xI,xI,xI,xI]]
def u81_1_4 {β:Type}(g:St->β):Rows->BA->Int->Int->Int->BA->Int->Int->Int->Int->Int->Int->Int->Int->Int->BA->I9 β:=p81_1_4.unc g
def p81_1_5:PT St:=pSv [(1,500001001,1000000)] [sY 0 dL,sl 1 (aV false [(cPsl [(500001001,0)])]),sP 4,sP 6,sl 9 (aV false [(cPtr 6 2)]),sY 10 dS,sI 11,sl 12 (aV false [(cD (dIf 362 false [(dP [] 0)]))]),sl 32 (aV false [(cPsl [(6,1),(6,2),(6,3),(6,4),(6,5),(6,6),(6,7),(6,8),(6,9),(500001001,0)])]),sI 33,sY 34 (dIc .i64 1)] [eBox 500001001 [xI],eBox 4 [(cD dS),xI,xI,xI,xI,xI,xI,xI,xI,xI],eBox 6 [(cD dS),xI,xI,xI,xI,xI,xI,xI,xI,xI]]
def u81_1_5 {β:Type}(g:St->β):Rows->BA->Int->Int->Int->BA->Int->Int->Int->Int->Int->Int->Int->Int->Int->BA->I9 β:=p81_1_5.unc g
def p81_1_6:PT St:=pSv [(1,500001001,1000000)] [sY 0 dL,sl 1 (aV false [(cPsl [(500001001,0)])]),sP 4,sP 6,sl 9 (aV false [(cPtr 6 3)]),sY 10 dS,sl 32 (aV false [(cPsl [(6,1),(6,2),(6,3),(6,4),(6,5),(6,6),(6,7),(6,8),(6,9),(500001001,0)])]),sI 33,sY 34 (dIc .i64 2)] [eBox 500001001 [xI],eBox 4 [(cD dS),xI,xI,xI,xI,xI,xI,xI,xI,xI],eBox 6 [(cD dS),xI,xI,xI,xI,xI,xI,xI,xI,xI]]
def u81_1_6 {β:Type}(g:St->β):Rows->BA->Int->Int->BA->Int->Int->Int->Int->Int->Int->Int->Int->Int->BA->I9 β:=p81_1_6.unc g
def p81_1_7:PT St:=pSv [(1,500001001,1000000)] [sY 0 dL,sl 1 (aV false [(cPsl [(500001001,0)])]),sP 4,sP 6,sl 9 (aV false [(cPtr 6 3)]),sY 10 dS,sI 11,sY 12 dNIf,sl 32 (aV false [(cPsl [(6,1),(6,2),(6,3),(6,4),(6,5),(6,6),(6,7),(6,8),(6,9),(500001001,0)])]),sI 33,sY 34 (dIc .i64 2)] [eBox 500001001 [xI],eBox 4 [(cD dS),xI,xI,xI,xI,xI,xI,xI,xI,xI],eBox 6 [(cD dS),xI,xI,xI,xI,xI,xI,xI,xI,xI]]
def u81_1_7 {β:Type}(g:St->β):Rows->BA->Int->Int->Int->BA->Int->Int->Int->Int->Int->Int->Int->Int->Int->BA->I9 β:=p81_1_7.unc g
def p81_1_8:PT St:=pSv [(1,500001001,1000000)] [sY 0 dL,sl 1 (aV false [(cPsl [(500001001,0)])]),sP 4,sP 6,sl 9 (aV false [(cPtr 6 3)]),sY 10 dS,sI 11,sl 12 (aV false [(cD (dIf 362 false [(dP [] 0)]))]),sl 32 (aV false [(cPsl [(6,1),(6,2),(6,3),(6,4),(6,5),(6,6),(6,7),(6,8),(6,9),(500001001,0)])]),sI 33,sY 34 (dIc .i64 2)] [eBox 500001001 [xI],eBox 4 [(cD dS),xI,xI,xI,xI,xI,xI,xI,xI,xI],eBox 6 [(cD dS),xI,xI,xI,xI,xI,xI,xI,xI,xI]]
def u81_1_8 {β:Type}(g:St->β):Rows->BA->Int->Int->Int->BA->Int->Int->Int->Int->Int->Int->Int->Int->Int->BA->I9 β:=p81_1_8.unc g
def p81_1_9:PT St:=pSv [(1,500001001,1000000)] [sY 0 dL,sl 1 (aV false [(cPsl [(500001001,0)])]),sP 4,sP 6,sl 9 (aV false [(cPtr 6 4)]),sY 10 dS,sl 32 (aV false [(cPsl [(6,1),(6,2),(6,3),(6,4),(6,5),(6,6),(6,7),(6,8),(6,9),(500001001,0)])]),sI 33,sY 34 (dIc .i64 3)] [eBox 500001001 [xI],eBox 4 [(cD dS),xI,xI,xI,xI,xI,xI,xI,xI,xI],eBox 6 [(cD dS),xI,xI,xI,xI,xI,xI,xI,xI,xI]]
def u81_1_9 {β:Type}(g:St->β):Rows->BA->Int->Int->BA->Int->Int->Int->Int->Int->Int->Int->Int->Int->BA->I9 β:=p81_1_9.unc g
def p81_1_10:PT St:=pSv [(1,500001001,1000000)] [sY 0 dL,sl 1 (aV false [(cPsl [(500001001,0)])]),sP 4,sP 6,sl 9 (aV false [(cPtr 6 4)]),sY 10 dS,sI 11,sY 12 dNIf,sl 32 (aV false [(cPsl [(6,1),(6,2),(6,3),(6,4),(6,5),(6,6),(6,7),(6,8),(6,9),(500001001,0)])]),sI 33,sY 34 (dIc .i64 3)] [eBox 500001001 [xI],eBox 4 [(cD dS),xI,xI,xI,xI,xI,xI,xI,xI,xI],eBox 6 [(cD dS),xI,xI,xI,xI,xI,xI,xI,xI,xI]]
def u81_1_10 {β:Type}(g:St->β):Rows->BA->Int->Int->Int->BA->Int->Int->Int->Int->Int->Int->Int->Int->Int->BA->I9 β:=p81_1_10.unc g
def p81_1_11:PT St:=pSv [(1,500001001,1000000)] [sY 0 dL,sl 1 (aV false [(cPsl [(500001001,0)])]),sP 4,sP 6,sl 9 (aV false [(cPtr 6 4)]),sY 10 dS,sI 11,sl 12 (aV false [(cD (dIf 362 false [(dP [] 0)]))]),sl 32 (aV false [(cPsl [(6,1),(6,2),(6,3),(6,4),(6,5),(6,6),(6,7),(6,8),(6,9),(500001001,0)])]),sI 33,sY 34 (dIc .i64 3)] [eBox 500001001 [xI],eBox 4 [(cD dS),xI,xI,xI,xI,xI,xI,xI,xI,xI],eBox 6 [(cD dS),xI,xI,xI,xI,xI,xI,xI,xI,xI]]
def u81_1_11 {β:Type}(g:St->β):Rows->BA->Int->Int->Int->BA->Int->Int->Int->Int->Int->Int->Int->Int->Int->BA->I9 β:=p81_1_11.unc g
def p81_1_12:PT St:=pSv [(1,500001001,1000000)] [sY 0 dL,sl 1 (aV false [(cPsl [(500001001,0)])]),sP 4,sP 6,sl 9 (aV false [(cPtr 6 5)]),sY 10 dS,sl 32 (aV false [(cPsl [(6,1),(6,2),(6,3),(6,4),(6,5),(6,6),(6,7),(6,8),(6,9),(500001001,0)])]),sI 33,sY 34 (dIc .i64 4)] [eBox 500001001 [xI],eBox 4 [(cD dS),xI,xI,xI,xI,xI,xI,xI,xI,xI],eBox 6 [(cD dS),xI,xI,xI,xI,xI,xI,xI,xI,xI]]
def u81_1_12 {β:Type}(g:St->β):Rows->BA->Int->Int->BA->Int->Int->Int->Int->Int->Int->Int->Int->Int->BA->I9 β:=p81_1_12.unc g
def p81_1_13:PT St:=pSv [(1,500001001,1000000)] [sY 0 dL,sl 1 (aV false [(cPsl [(500001001,0)])]),sP 4,sP 6,sl 9 (aV false [(cPtr 6 5)]),sY 10 dS,sI 11,sY 12 dNIf,sl 32 (aV false [(cPsl [(6,1),(6,2),(6,3),(6,4),(6,5),(6,6),(6,7),(6,8),(6,9),(500001001,0)])]),sI 33,sY 34 (dIc .i64 4)] [eBox 500001001 [xI],eBox 4 [(cD dS),xI,xI,xI,xI,xI,xI,xI,xI,xI],eBox 6 [(cD dS),xI,xI,xI,xI,xI,xI,xI,xI,xI]]
def u81_1_13 {β:Type}(g:St->β):Rows->BA->Int->Int->Int->BA->Int->Int->Int->Int->Int->Int->Int->Int->Int->BA->I9 β:=p81_1_13.unc g
def p81_1_14:PT St:=pSv [(1,500001001,1000000)] [sY 0 dL,sl 1 (aV false [(cPsl [(500001001,0)])]),sP 4,sP 6,sl 9 (aV false [(cPtr 6 5)]),sY 10 dS,sI 11,sl 12 (aV false [(cD (dIf 362 false [(dP [] 0)]))]),sl 32 (aV false [(cPsl [(6,1),(6,2),(6,3),(6,4),(6,5),(6,6),(6,7),(6,8),(6,9),(500001001,0)])]),sI 33,sY 34 (dIc .i64 4)] [eBox 500001001 [xI],eBox 4 [(cD dS),xI,xI,xI,xI,xI,xI,xI,xI,xI],eBox 6 [(cD dS),xI,xI,xI,xI,xI,xI,xI,xI,xI]]
def u81_1_14 {β:Type}(g:St->β):Rows->BA->Int->Int->Int->BA->Int->Int->Int->Int->Int->Int->Int->Int->Int->BA->I9 β:=p81_1_14.unc g
def p81_1_15:PT St:=pSv [(1,500001001,1000000)] [sY 0 dL,sl 1 (aV false [(cPsl [(500001001,0)])]),sP 4,sP 6,sl 9 (aV false [(cPtr 6 6)]),sY 10 dS,sl 32 (aV false [(cPsl [(6,1),(6,2),(6,3),(6,4),(6,5),(6,6),(6,7),(6,8),(6,9),(500001001,0)])]),sI 33,sY 34 (dIc .i64 5)] [eBox 500001001 [xI],eBox 4 [(cD dS),xI,xI,xI,xI,xI,xI,xI,xI,xI],eBox 6 [(cD dS),xI,xI,xI,xI,xI,xI,xI,xI,xI]]
def u81_1_15 {β:Type}(g:St->β):Rows->BA->Int->Int->BA->Int->Int->Int->Int->Int->Int->Int->Int->Int->BA->I9 β:=p81_1_15.unc g
def p81_1_16:PT St:=pSv [(1,500001001,1000000)] [sY 0 dL,sl 1 (aV false [(cPsl [(500001001,0)])]),sP 4,sP 6,sl 9 (aV false [(cPtr 6 6)]),sY 10 dS,sI 11,sY 12 dNIf,sl 32 (aV false [(cPsl [(6,1),(6,2),(6,3),(6,4),(6,5),(6,6),(6,7),(6,8),(6,9),(500001001,0)])]),sI 33,sY 34 (dIc .i64 5)] [eBox 500001001 [xI],eBox 4 [(cD dS),xI,xI,xI,xI,xI,xI,xI,xI,xI],eBox 6 [(cD dS),xI,xI,xI,xI,xI,xI,xI,xI,xI]]
def u81_1_16 {β:Type}(g:St->β):Rows->BA->Int->Int->Int->BA->Int->Int->Int->Int->Int->Int->Int->Int->Int->BA->I9 β:=p81_1_16.unc g
def p81_1_17:PT St:=pSv [(1,500001001,1000000)] [sY 0 dL,sl 1 (aV false [(cPsl [(500001001,0)])]),sP 4,sP 6,sl 9 (aV false [(cPtr 6 6)]),sY 10 dS,sI 11,sl 12 (aV false [(cD (dIf 362 false [(dP [] 0)]))]),sl 32 (aV false [(cPsl [(6,1),(6,2),(6,3),(6,4),(6,5),(6,6),(6,7),(6,8),(6,9),(500001001,0)])]),sI 33,sY 34 (dIc .i64 5)] [eBox 500001001 [xI],eBox 4 [(cD dS),xI,xI,xI,xI,xI,xI,xI,xI,xI],eBox 6 [(cD dS),xI,xI,xI,xI,xI,xI,xI,xI,xI]]
def u81_1_17 {β:Type}(g:St->β):Rows->BA->Int->Int->Int->BA->Int->Int->Int->Int->Int->Int->Int->Int->Int->BA->I9 β:=p81_1_17.unc g
def p81_1_18:PT St:=pSv [(1,500001001,1000000)] [sY 0 dL,sl 1 (aV false [(cPsl [(500001001,0)])]),sP 4,sP 6,sl 9 (aV false [(cPtr 6 7)]),sY 10 dS,sl 32 (aV false [(cPsl [(6,1),(6,2),(6,3),(6,4),(6,5),(6,6),(6,7),(6,8),(6,9),(500001001,0)])]),sI 33,sY 34 (dIc .i64 6)] [eBox 500001001 [xI],eBox 4 [(cD dS),xI,xI,xI,xI,xI,xI,xI,xI,xI],eBox 6 [(cD dS),xI,xI,xI,xI,xI,xI,xI,xI,xI]]
def u81_1_18 {β:Type}(g:St->β):Rows->BA->Int->Int->BA->Int->Int->Int->Int->Int->Int->Int->Int->Int->BA->I9 β:=p81_1_18.unc g
def p81_1_19:PT St:=pSv [(1,500001001,1000000)] [sY 0 dL,sl 1 (aV false [(cPsl [(500001001,0)])]),sP 4,sP 6,sl 9 (aV false [(cPtr 6 7)]),sY 10 dS,sI 11,sY 12 dNIf,sl 32 (aV false [(cPsl [(6,1),(6,2),(6,3),(6,4),(6,5),(6,6),(6,7),(6,8),(6,9),(500001001,0)])]),sI 33,sY 34 (dIc .i64 6)] [eBox 500001001 [xI],eBox 4 [(cD dS),xI,xI,xI,xI,xI,xI,xI,xI,xI],eBox 6 [(cD dS),xI,xI,xI,xI,xI,xI,xI,xI,xI]]
def u81_1_19 {β:Type}(g:St->β):Rows->BA->Int->Int->Int->BA->Int->Int->Int->Int->Int->Int->Int->Int->Int->BA->I9 β:=p81_1_19.unc g
def p81_1_20:PT St:=pSv [(1,500001001,1000000)] [sY 0 dL,sl 1 (aV false [(cPsl [(500001001,0)])]),sP 4,sP 6,sl 9 (aV false [(cPtr 6 7)]),sY 10 dS,sI 11,sl 12 (aV false [(cD (dIf 362 false [(dP [] 0)]))]),sl 32 (aV false [(cPsl [(6,1),(6,2),(6,3),(6,4),(6,5),(6,6),(6,7),(6,8),(6,9),(500001001,0)])]),sI 33,sY 34 (dIc .i64 6)] [eBox 500001001 [xI],eBox 4 [(cD dS),xI,xI,xI,xI,xI,xI,xI,xI,xI],eBox 6 [(cD dS),xI,xI,xI,xI,xI,xI,xI,xI,xI]]
def u81_1_20 {β:Type}(g:St->β):Rows->BA->Int->Int->Int->BA->Int->Int->Int->Int->Int->Int->Int->Int->Int->BA->I9 β:=p81_1_20.unc g
def p81_1_21:PT St:=pSv [(1,500001001,1000000)] [sY 0 dL,sl 1 (aV false [(cPsl [(500001001,0)])]),sP 4,sP 6,sl 9 (aV false [(cPtr 6 8)]),sY 10 dS,sl 32 (aV false [(cPsl [(6,1),(6,2),(6,3),(6,4),(6,5),(6,6),(6,7),(6,8),(6,9),(500001001,0)])]),sI 33,sY 34 (dIc .i64 7)] [eBox 500001001 [xI],eBox 4 [(cD dS),xI,xI,xI,xI,xI,xI,xI,xI,xI],eBox 6 [(cD dS),xI,xI,xI,xI,xI,xI,xI,xI,xI]]
def u81_1_21 {β:Type}(g:St->β):Rows->BA->Int->Int->BA->Int->Int->Int->Int->Int->Int->Int->Int->Int->BA->I9 β:=p81_1_21.unc g
def p81_1_22:PT St:=pSv [(1,500001001,1000000)] [sY 0 dL,sl 1 (aV false [(cPsl [(500001001,0)])]),sP 4,sP 6,sl 9 (aV false [(cPtr 6 8)]),sY 10 dS,sI 11,sY 12 dNIf,sl 32 (aV false [(cPsl [(6,1),(6,2),(6,3),(6,4),(6,5),(6,6),(6,7),(6,8),(6,9),(500001001,0)])]),sI 33,sY 34 (dIc .i64 7)] [eBox 500001001 [xI],eBox 4 [(cD dS),xI,xI,xI,xI,xI,xI,xI,xI,xI],eBox 6 [(cD dS),xI,xI,xI,xI,xI,xI,xI,xI,xI]]
def u81_1_22 {β:Type}(g:St->β):Rows->BA->Int->Int->Int->BA->Int->Int->Int->Int->Int->Int->Int->Int->Int->BA->I9 β:=p81_1_22.unc g
def p81_1_23:PT St:=pSv [(1,500001001,1000000)] [sY 0 dL,sl 1 (aV false [(cPsl [(500001001,0)])]),sP 4,sP 6,sl 9 (aV false [(cPtr 6 8)]),sY 10 dS,sI 11,sl 12 (aV false [(cD (dIf 362 false [(dP [] 0)]))]),sl 32 (aV false [(cPsl [(6,1),(6,2),(6,3),(6,4),(6,5),(6,6),(6,7),(6,8),(6,9),(500001001,0)])]),sI 33,sY 34 (dIc .i64 7)] [eBox 500001001 [xI],eBox 4 [(cD dS),xI,xI,xI,xI,xI,xI,xI,xI,xI],eBox 6 [(cD dS),xI,xI,xI,xI,xI,xI,xI,xI,xI]]
def u81_1_23 {β:Type}(g:St->β):Rows->BA->Int->Int->Int->BA->Int->Int->Int->Int->Int->Int->Int->Int->Int->BA->I9 β:=p81_1_23.unc g
def p81_1_24:PT St:=pSv [(1,500001001,1000000)] [sY 0 dL,sl 1 (aV false [(cPsl [(500001001,0)])]),sP 4,sP 6,sl 9 (aV false [(cPtr 6 9)]),sY 10 dS,sl 32 (aV false [(cPsl [(6,1),(6,2),(6,3),(6,4),(6,5),(6,6),(6,7),(6,8),(6,9),(500001001,0)])]),sI 33,sY 34 (dIc .i64 8)] [eBox 500001001 [xI],eBox 4 [(cD dS),xI,xI,xI,xI,xI,xI,xI,xI,xI],eBox 6 [(cD dS),xI,xI,xI,xI,xI,xI,xI,xI,xI]]
def u81_1_24 {β:Type}(g:St->β):Rows->BA->Int->Int->BA->Int->Int->Int->Int->Int->Int->Int->Int->Int->BA->I9 β:=p81_1_24.unc g
def p81_1_25:PT St:=pSv [(1,500001001,1000000)] [sY 0 dL,sl 1 (aV false [(cPsl [(500001001,0)])]),sP 4,sP 6,sl 9 (aV false [(cPtr 6 9)]),sY 10 dS,sI 11,sY 12 dNIf,sl 32 (aV false [(cPsl [(6,1),(6,2),(6,3),(6,4),(6,5),(6,6),(6,7),(6,8),(6,9),(500001001,0)])]),sI 33,sY 34 (dIc .i64 8)] [eBox 500001001 [xI],eBox 4 [(cD dS),xI,xI,xI,xI,xI,xI,xI,xI,xI],eBox 6 [(cD dS),xI,xI,xI,xI,xI,xI,xI,xI,xI]]
def u81_1_25 {β:Type}(g:St->β):Rows->BA->Int->Int->Int->BA->Int->Int->Int->Int->Int->Int->Int->Int->Int->BA->I9 β:=p81_1_25.unc g
def p81_1_26:PT St:=pSv [(1,500001001,1000000)] [sY 0 dL,sl 1 (aV false [(cPsl [(500001001,0)])]),sP 4,sP 6,sl 9 (aV false [(cPtr 6 9)]),sY 10 dS,sI 11,sl 12 (aV false [(cD (dIf 362 false [(dP [] 0)]))]),sl 32 (aV false [(cPsl [(6,1),(6,2),(6,3),(6,4),(6,5),(6,6),(6,7),(6,8),(6,9),(500001001,0)])]),sI 33,sY 34 (dIc .i64 8)] [eBox 500001001 [xI],eBox 4 [(cD dS),xI,xI,xI,xI,xI,xI,xI,xI,xI],eBox 6 [(cD dS),xI,xI,xI,xI,xI,xI,xI,xI,xI]]
def u81_1_26 {β:Type}(g:St->β):Rows->BA->Int->Int->Int->BA->Int->Int->Int->Int->Int->Int->Int->Int->Int->BA->I9 β:=p81_1_26.unc g
def p81_1_27:PT St:=pSv [(1,500001001,1000000)] [sY 0 dL,sl 1 (aV false [(cPsl [(500001001,0)])]),sP 4,sP 6,sl 9 (aV false [(cPtr 500001001 0)]),sY 10 dS,sl 32 (aV false [(cPsl [(6,1),(6,2),(6,3),(6,4),(6,5),(6,6),(6,7),(6,8),(6,9),(500001001,0)])]),sI 33,sY 34 (dIc .i64 9)] [eBox 500001001 [xI],eBox 4 [(cD dS),xI,xI,xI,xI,xI,xI,xI,xI,xI],eBox 6 [(cD dS),xI,xI,xI,xI,xI,xI,xI,xI,xI]]
def u81_1_27 {β:Type}(g:St->β):Rows->BA->Int->Int->BA->Int->Int->Int->Int->Int->Int->Int->Int->Int->BA->I9 β:=p81_1_27.unc g
def p81_1_28:PT St:=pSv [(1,500001001,1000000)] [sY 0 dL,sl 1 (aV false [(cPsl [(500001001,0)])]),sP 4,sP 6,sl 9 (aV false [(cPtr 500001001 0)]),sY 10 dS,sI 11,sY 12 dNIf,sl 32 (aV false [(cPsl [(6,1),(6,2),(6,3),(6,4),(6,5),(6,6),(6,7),(6,8),(6,9),(500001001,0)])]),sI 33,sY 34 (dIc .i64 9)] [eBox 500001001 [xI],eBox 4 [(cD dS),xI,xI,xI,xI,xI,xI,xI,xI,xI],eBox 6 [(cD dS),xI,xI,xI,xI,xI,xI,xI,xI,xI]]
def u81_1_28 {β:Type}(g:St->β):Rows->BA->Int->Int->Int->BA->Int->Int->Int->Int->Int->Int->Int->Int->Int->BA->I9 β:=p81_1_28.unc g
def p81_1_29:PT St:=pSv [(1,500001001,1000000)] [sY 0 dL,sl 1 (aV false [(cPsl [(500001001,0)])]),sP 4,sP 6,sl 9 (aV false [(cPtr 500001001 0)]),sY 10 dS,sI 11,sl 12 (aV false [(cD (dIf 362 false [(dP [] 0)]))]),sl 32 (aV false [(cPsl [(6,1),(6,2),(6,3),(6,4),(6,5),(6,6),(6,7),(6,8),(6,9),(500001001,0)])]),sI 33,sY 34 (dIc .i64 9)] [eBox 500001001 [xI],eBox 4 [(cD dS),xI,xI,xI,xI,xI,xI,xI,xI,xI],eBox 6 [(cD dS),xI,xI,xI,xI,xI,xI,xI,xI,xI]]
def u81_1_29 {β:Type}(g:St->β):Rows->BA->Int->Int->Int->BA->Int->Int->Int->Int->Int->Int->Int->Int->Int->BA->I9 β:=p81_1_29.unc g
def pr81_1_0:PT (List RV):=pRs [pR true [rD dS,rD (dI .i64),rD (dI .i64),rD (dI .i64),rD (dI .i64),rD (dI .i64),rD (dI .i64),rD (dI .i64),rD (dI .i64),rD (dI .i64)],pR false [rD dB],pR true [rD (dI .i64)]]
def ur81_1_0 {β:Type}(g:List RV->β):BA->Int->Int->Int->Int->Int->Int->Int->Int->Int->Bool->Int->β:=pr81_1_0.unc g
def E81_1g (a:Tf173_0)(b:Tf63_0)(c:Tf61_0)(d:Tf64_0):EnvK:=EnvK.ofP (EnvK.of [⟨173,nt173,[⟨pa173_0,Fn173_0 a⟩]⟩,⟨63,nt63,[⟨pa63_0,Fn63_0 b⟩]⟩,⟨61,nt61,[⟨pa61_0,Fn61_0 c⟩]⟩,⟨64,nt64,[⟨pa64_0,Fn64_0 d⟩]⟩] noSeq) [(77,[1,2,3,4,5,6,7,8,9])]
def E81_1:EnvK:=E81_1g f173_0 f63_0 f61_0 f64_0
theorem eo81_1:E81_1.Ok Pg:=EnvK.ofP_ok (EnvK.of_ok noSeq_ok ⟨⟨io173_0,TT⟩,⟨io63_0,TT⟩,⟨io61_0,TT⟩,⟨io64_0,TT⟩,TT⟩) ⟨ptr77,TT⟩
def c81_1_28g:MCode:=(.region r81_29 [] (tO [0,1,4,6,9,10,11,12,32,33,34]))
def c81_1_28:MCode:=c81_1_28g
theorem g81_1_28:c81_1_28.Good Pg E81_1 sh81:=TT
abbrev TJ81_1_0:Type 1:=(α:Type)->BA->(Int->Op α)->(Int->Op α)->Op α
def J81_1_0g (a:Tf63_0)(α:Type)(b:BA)(k1:Int->Op α)(k2:Int->Op α):Op α:=
 a α b
 (fun c=>k1 c)
 (fun d=>k2 d)
def J81_1_0 (α:Type)(a:BA)(k1:Int->Op α)(k2:Int->Op α):Op α:=J81_1_0g f63_0 α a k1 k2
def F81_1_0 (v:TJ81_1_0)(α:Type)(K:KT α):Rows->BA->Int->Int->BA->Int->Int->Int->Int->Int->Int->Int->Int->Int->BA->I9 (Op α):=fun c a d e g h i j l m o p q r s t w z A B C D F G=>v α a (fun b=>u81_1_1 (K .normal) c a b d e g h i j l m o p q r s t w z A B C D F G) (fun b=>u81_1_2 (K .normal) c a b d e g h i j l m o p q r s t w z A B C D F G)
theorem m81_1_0g (b:Tf173_0)(a:Tf63_0)(c:Tf61_0)(d:Tf64_0)(α:Type)(K:KT α):F81_1_0 (J81_1_0g a) α K=p81_1_0.unc fun σ=>runM Pg (E81_1g b a c d) sh81 (c81_1_28g ) K σ:=by kernel_rfl
theorem m81_1_0:∀ (α:Type) (K:KT α),F81_1_0 J81_1_0 α K=p81_1_0.unc fun σ=>runM Pg E81_1 sh81 c81_1_28 K σ:=m81_1_0g f173_0 f63_0 f61_0 f64_0
abbrev TJ81_1_1:Type 1:=(α:Type)->BA->(Int->Op α)->(Int->Op α)->Op α
def J81_1_1g (a:Tf63_0)(α:Type)(b:BA)(k1:Int->Op α)(k2:Int->Op α):Op α:=
 a α b
 (fun c=>k1 c)
 (fun d=>k2 d)
def J81_1_1 (α:Type)(a:BA)(k1:Int->Op α)(k2:Int->Op α):Op α:=J81_1_1g f63_0 α a k1 k2
def F81_1_1 (v:TJ81_1_1)(α:Type)(K:KT α):Rows->BA->Int->Int->BA->Int->Int->Int->Int->Int->Int->Int->Int->Int->BA->I9 (Op α):=fun c a d e g h i j l m o p q r s t w z A B C D F G=>v α a (fun b=>u81_1_4 (K .normal) c a b d e g h i j l m o p q r s t w z A B C D F G) (fun b=>u81_1_5 (K .normal) c a b d e g h i j l m o p q r s t w z A B C D F G)
theorem m81_1_1g (b:Tf173_0)(a:Tf63_0)(c:Tf61_0)(d:Tf64_0)(α:Type)(K:KT α):F81_1_1 (J81_1_1g a) α K=p81_1_3.unc fun σ=>runM Pg (E81_1g b a c d) sh81 (c81_1_28g ) K σ:=by kernel_rfl
theorem m81_1_1:∀ (α:Type) (K:KT α),F81_1_1 J81_1_1 α K=p81_1_3.unc fun σ=>runM Pg E81_1 sh81 c81_1_28 K σ:=m81_1_1g f173_0 f63_0 f61_0 f64_0
abbrev TJ81_1_2:Type 1:=(α:Type)->BA->(Int->Op α)->(Int->Op α)->Op α
def J81_1_2g (a:Tf63_0)(α:Type)(b:BA)(k1:Int->Op α)(k2:Int->Op α):Op α:=
 a α b
 (fun c=>k1 c)
 (fun d=>k2 d)
def J81_1_2 (α:Type)(a:BA)(k1:Int->Op α)(k2:Int->Op α):Op α:=J81_1_2g f63_0 α a k1 k2
def F81_1_2 (v:TJ81_1_2)(α:Type)(K:KT α):Rows->BA->Int->Int->BA->Int->Int->Int->Int->Int->Int->Int->Int->Int->BA->I9 (Op α):=fun c a d e g h i j l m o p q r s t w z A B C D F G=>v α a (fun b=>u81_1_7 (K .normal) c a b d e g h i j l m o p q r s t w z A B C D F G) (fun b=>u81_1_8 (K .normal) c a b d e g h i j l m o p q r s t w z A B C D F G)
theorem m81_1_2g (b:Tf173_0)(a:Tf63_0)(c:Tf61_0)(d:Tf64_0)(α:Type)(K:KT α):F81_1_2 (J81_1_2g a) α K=p81_1_6.unc fun σ=>runM Pg (E81_1g b a c d) sh81 (c81_1_28g ) K σ:=by kernel_rfl
theorem m81_1_2:∀ (α:Type) (K:KT α),F81_1_2 J81_1_2 α K=p81_1_6.unc fun σ=>runM Pg E81_1 sh81 c81_1_28 K σ:=m81_1_2g f173_0 f63_0 f61_0 f64_0
abbrev TJ81_1_3:Type 1:=(α:Type)->BA->(Int->Op α)->(Int->Op α)->Op α
def J81_1_3g (a:Tf63_0)(α:Type)(b:BA)(k1:Int->Op α)(k2:Int->Op α):Op α:=
 a α b
 (fun c=>k1 c)
 (fun d=>k2 d)
def J81_1_3 (α:Type)(a:BA)(k1:Int->Op α)(k2:Int->Op α):Op α:=J81_1_3g f63_0 α a k1 k2
def F81_1_3 (v:TJ81_1_3)(α:Type)(K:KT α):Rows->BA->Int->Int->BA->Int->Int->Int->Int->Int->Int->Int->Int->Int->BA->I9 (Op α):=fun c a d e g h i j l m o p q r s t w z A B C D F G=>v α a (fun b=>u81_1_10 (K .normal) c a b d e g h i j l m o p q r s t w z A B C D F G) (fun b=>u81_1_11 (K .normal) c a b d e g h i j l m o p q r s t w z A B C D F G)
theorem m81_1_3g (b:Tf173_0)(a:Tf63_0)(c:Tf61_0)(d:Tf64_0)(α:Type)(K:KT α):F81_1_3 (J81_1_3g a) α K=p81_1_9.unc fun σ=>runM Pg (E81_1g b a c d) sh81 (c81_1_28g ) K σ:=by kernel_rfl
theorem m81_1_3:∀ (α:Type) (K:KT α),F81_1_3 J81_1_3 α K=p81_1_9.unc fun σ=>runM Pg E81_1 sh81 c81_1_28 K σ:=m81_1_3g f173_0 f63_0 f61_0 f64_0
abbrev TJ81_1_4:Type 1:=(α:Type)->BA->(Int->Op α)->(Int->Op α)->Op α
def J81_1_4g (a:Tf63_0)(α:Type)(b:BA)(k1:Int->Op α)(k2:Int->Op α):Op α:=
 a α b
 (fun c=>k1 c)
 (fun d=>k2 d)
def J81_1_4 (α:Type)(a:BA)(k1:Int->Op α)(k2:Int->Op α):Op α:=J81_1_4g f63_0 α a k1 k2
def F81_1_4 (v:TJ81_1_4)(α:Type)(K:KT α):Rows->BA->Int->Int->BA->Int->Int->Int->Int->Int->Int->Int->Int->Int->BA->I9 (Op α):=fun c a d e g h i j l m o p q r s t w z A B C D F G=>v α a (fun b=>u81_1_13 (K .normal) c a b d e g h i j l m o p q r s t w z A B C D F G) (fun b=>u81_1_14 (K .normal) c a b d e g h i j l m o p q r s t w z A B C D F G)
theorem m81_1_4g (b:Tf173_0)(a:Tf63_0)(c:Tf61_0)(d:Tf64_0)(α:Type)(K:KT α):F81_1_4 (J81_1_4g a) α K=p81_1_12.unc fun σ=>runM Pg (E81_1g b a c d) sh81 (c81_1_28g ) K σ:=by kernel_rfl
theorem m81_1_4:∀ (α:Type) (K:KT α),F81_1_4 J81_1_4 α K=p81_1_12.unc fun σ=>runM Pg E81_1 sh81 c81_1_28 K σ:=m81_1_4g f173_0 f63_0 f61_0 f64_0
abbrev TJ81_1_5:Type 1:=(α:Type)->BA->(Int->Op α)->(Int->Op α)->Op α
def J81_1_5g (a:Tf63_0)(α:Type)(b:BA)(k1:Int->Op α)(k2:Int->Op α):Op α:=
 a α b
 (fun c=>k1 c)
 (fun d=>k2 d)
def J81_1_5 (α:Type)(a:BA)(k1:Int->Op α)(k2:Int->Op α):Op α:=J81_1_5g f63_0 α a k1 k2
def F81_1_5 (v:TJ81_1_5)(α:Type)(K:KT α):Rows->BA->Int->Int->BA->Int->Int->Int->Int->Int->Int->Int->Int->Int->BA->I9 (Op α):=fun c a d e g h i j l m o p q r s t w z A B C D F G=>v α a (fun b=>u81_1_16 (K .normal) c a b d e g h i j l m o p q r s t w z A B C D F G) (fun b=>u81_1_17 (K .normal) c a b d e g h i j l m o p q r s t w z A B C D F G)
theorem m81_1_5g (b:Tf173_0)(a:Tf63_0)(c:Tf61_0)(d:Tf64_0)(α:Type)(K:KT α):F81_1_5 (J81_1_5g a) α K=p81_1_15.unc fun σ=>runM Pg (E81_1g b a c d) sh81 (c81_1_28g ) K σ:=by kernel_rfl
theorem m81_1_5:∀ (α:Type) (K:KT α),F81_1_5 J81_1_5 α K=p81_1_15.unc fun σ=>runM Pg E81_1 sh81 c81_1_28 K σ:=m81_1_5g f173_0 f63_0 f61_0 f64_0
abbrev TJ81_1_6:Type 1:=(α:Type)->BA->(Int->Op α)->(Int->Op α)->Op α
def J81_1_6g (a:Tf63_0)(α:Type)(b:BA)(k1:Int->Op α)(k2:Int->Op α):Op α:=
 a α b
 (fun c=>k1 c)
 (fun d=>k2 d)
def J81_1_6 (α:Type)(a:BA)(k1:Int->Op α)(k2:Int->Op α):Op α:=J81_1_6g f63_0 α a k1 k2
def F81_1_6 (v:TJ81_1_6)(α:Type)(K:KT α):Rows->BA->Int->Int->BA->Int->Int->Int->Int->Int->Int->Int->Int->Int->BA->I9 (Op α):=fun c a d e g h i j l m o p q r s t w z A B C D F G=>v α a (fun b=>u81_1_19 (K .normal) c a b d e g h i j l m o p q r s t w z A B C D F G) (fun b=>u81_1_20 (K .normal) c a b d e g h i j l m o p q r s t w z A B C D F G)
theorem m81_1_6g (b:Tf173_0)(a:Tf63_0)(c:Tf61_0)(d:Tf64_0)(α:Type)(K:KT α):F81_1_6 (J81_1_6g a) α K=p81_1_18.unc fun σ=>runM Pg (E81_1g b a c d) sh81 (c81_1_28g ) K σ:=by kernel_rfl
theorem m81_1_6:∀ (α:Type) (K:KT α),F81_1_6 J81_1_6 α K=p81_1_18.unc fun σ=>runM Pg E81_1 sh81 c81_1_28 K σ:=m81_1_6g f173_0 f63_0 f61_0 f64_0
abbrev TJ81_1_7:Type 1:=(α:Type)->BA->(Int->Op α)->(Int->Op α)->Op α
def J81_1_7g (a:Tf63_0)(α:Type)(b:BA)(k1:Int->Op α)(k2:Int->Op α):Op α:=
 a α b
 (fun c=>k1 c)
 (fun d=>k2 d)
def J81_1_7 (α:Type)(a:BA)(k1:Int->Op α)(k2:Int->Op α):Op α:=J81_1_7g f63_0 α a k1 k2
def F81_1_7 (v:TJ81_1_7)(α:Type)(K:KT α):Rows->BA->Int->Int->BA->Int->Int->Int->Int->Int->Int->Int->Int->Int->BA->I9 (Op α):=fun c a d e g h i j l m o p q r s t w z A B C D F G=>v α a (fun b=>u81_1_22 (K .normal) c a b d e g h i j l m o p q r s t w z A B C D F G) (fun b=>u81_1_23 (K .normal) c a b d e g h i j l m o p q r s t w z A B C D F G)
theorem m81_1_7g (b:Tf173_0)(a:Tf63_0)(c:Tf61_0)(d:Tf64_0)(α:Type)(K:KT α):F81_1_7 (J81_1_7g a) α K=p81_1_21.unc fun σ=>runM Pg (E81_1g b a c d) sh81 (c81_1_28g ) K σ:=by kernel_rfl
theorem m81_1_7:∀ (α:Type) (K:KT α),F81_1_7 J81_1_7 α K=p81_1_21.unc fun σ=>runM Pg E81_1 sh81 c81_1_28 K σ:=m81_1_7g f173_0 f63_0 f61_0 f64_0
abbrev TJ81_1_8:Type 1:=(α:Type)->BA->(Int->Op α)->(Int->Op α)->Op α
def J81_1_8g (a:Tf63_0)(α:Type)(b:BA)(k1:Int->Op α)(k2:Int->Op α):Op α:=
 a α b
 (fun c=>k1 c)
 (fun d=>k2 d)
def J81_1_8 (α:Type)(a:BA)(k1:Int->Op α)(k2:Int->Op α):Op α:=J81_1_8g f63_0 α a k1 k2
def F81_1_8 (v:TJ81_1_8)(α:Type)(K:KT α):Rows->BA->Int->Int->BA->Int->Int->Int->Int->Int->Int->Int->Int->Int->BA->I9 (Op α):=fun c a d e g h i j l m o p q r s t w z A B C D F G=>v α a (fun b=>u81_1_25 (K .normal) c a b d e g h i j l m o p q r s t w z A B C D F G) (fun b=>u81_1_26 (K .normal) c a b d e g h i j l m o p q r s t w z A B C D F G)
theorem m81_1_8g (b:Tf173_0)(a:Tf63_0)(c:Tf61_0)(d:Tf64_0)(α:Type)(K:KT α):F81_1_8 (J81_1_8g a) α K=p81_1_24.unc fun σ=>runM Pg (E81_1g b a c d) sh81 (c81_1_28g ) K σ:=by kernel_rfl
theorem m81_1_8:∀ (α:Type) (K:KT α),F81_1_8 J81_1_8 α K=p81_1_24.unc fun σ=>runM Pg E81_1 sh81 c81_1_28 K σ:=m81_1_8g f173_0 f63_0 f61_0 f64_0
abbrev TJ81_1_9:Type 1:=(α:Type)->BA->(Int->Op α)->(Int->Op α)->Op α
def J81_1_9g (a:Tf63_0)(α:Type)(b:BA)(k1:Int->Op α)(k2:Int->Op α):Op α:=
 a α b
 (fun c=>k1 c)
 (fun d=>k2 d)
def J81_1_9 (α:Type)(a:BA)(k1:Int->Op α)(k2:Int->Op α):Op α:=J81_1_9g f63_0 α a k1 k2
def F81_1_9 (v:TJ81_1_9)(α:Type)(K:KT α):Rows->BA->Int->Int->BA->Int->Int->Int->Int->Int->Int->Int->Int->Int->BA->I9 (Op α):=fun c a d e g h i j l m o p q r s t w z A B C D F G=>v α a (fun b=>u81_1_28 (K .normal) c a b d e g h i j l m o p q r s t w z A B C D F G) (fun b=>u81_1_29 (K .normal) c a b d e g h i j l m o p q r s t w z A B C D F G)
theorem m81_1_9g (b:Tf173_0)(a:Tf63_0)(c:Tf61_0)(d:Tf64_0)(α:Type)(K:KT α):F81_1_9 (J81_1_9g a) α K=p81_1_27.unc fun σ=>runM Pg (E81_1g b a c d) sh81 (c81_1_28g ) K σ:=by kernel_rfl
theorem m81_1_9:∀ (α:Type) (K:KT α),F81_1_9 J81_1_9 α K=p81_1_27.unc fun σ=>runM Pg E81_1 sh81 c81_1_28 K σ:=m81_1_9g f173_0 f63_0 f61_0 f64_0
abbrev Tf81_1:Type 1:=(α:Type)->Rows->(BA->Int->Int->Int->Int->Int->Int->Int->Int->Int->Bool->Int->Op α)->Op α
def f81_1g (G:TJ81_1_0)(H:TJ81_1_1)(I:TJ81_1_2)(J:TJ81_1_3)(L:TJ81_1_4)(M:TJ81_1_5)(N:TJ81_1_6)(O:TJ81_1_7)(P:TJ81_1_8)(Q:TJ81_1_9)(R:Tf173_0)(l:Tf61_0)(m:Tf64_0)(α:Type)(i:Rows)(k1:BA->Int->Int->Int->Int->Int->Int->Int->Int->Int->Bool->Int->Op α):Op α:=
 rowK i 0 [.str]
 (fun a=>cK (((List.length i:Nat):Int) != 11)
 (k1 a 0 0 0 0 0 0 0 0 0 false 0)
 (R α a (⟨#[10]⟩:BA)
 (fun T=>cK T
 (k1 a 0 0 0 0 0 0 0 0 0 false 0)
 (rowK i 1 [.str]
 (fun q=>G α q
 (fun b=>l α b
 (fun U=>cK (!(U.toList == q.toList))
 (k1 a 0 0 0 0 0 0 0 0 0 false 0)
 (m α q (⟨#[45]⟩:BA)
 (fun V=>cK (decide (7 < ((ByteArray.size V:Nat):Int)))
 (k1 a 0 0 0 0 0 0 0 0 0 false 0)
 (rowK i 2 [.str]
 (fun r=>H α r
 (fun c=>l α c
 (fun W=>cK (!(W.toList == r.toList))
 (k1 a b 0 0 0 0 0 0 0 0 false 0)
 (m α r (⟨#[45]⟩:BA)
 (fun X=>cK (decide (7 < ((ByteArray.size X:Nat):Int)))
 (k1 a b 0 0 0 0 0 0 0 0 false 0)
 (rowK i 3 [.str]
 (fun s=>I α s
 (fun d=>l α d
 (fun Y=>cK (!(Y.toList == s.toList))
 (k1 a b c 0 0 0 0 0 0 0 false 0)
 (m α s (⟨#[45]⟩:BA)
 (fun Z=>cK (decide (7 < ((ByteArray.size Z:Nat):Int)))
 (k1 a b c 0 0 0 0 0 0 0 false 0)
 (rowK i 4 [.str]
 (fun t=>J α t
 (fun e=>l α e
 (fun a0=>cK (!(a0.toList == t.toList))
 (k1 a b c d 0 0 0 0 0 0 false 0)
 (m α t (⟨#[45]⟩:BA)
 (fun a1=>cK (decide (7 < ((ByteArray.size a1:Nat):Int)))
 (k1 a b c d 0 0 0 0 0 0 false 0)
 (rowK i 5 [.str]
 (fun w=>L α w
 (fun g=>l α g
 (fun a2=>cK (!(a2.toList == w.toList))
 (k1 a b c d e 0 0 0 0 0 false 0)
 (m α w (⟨#[45]⟩:BA)
 (fun a3=>cK (decide (7 < ((ByteArray.size a3:Nat):Int)))
 (k1 a b c d e 0 0 0 0 0 false 0)
 (rowK i 6 [.str]
 (fun z=>M α z
 (fun h=>l α h
 (fun a4=>cK (!(a4.toList == z.toList))
 (k1 a b c d e g 0 0 0 0 false 0)
 (m α z (⟨#[45]⟩:BA)
 (fun a5=>cK (decide (7 < ((ByteArray.size a5:Nat):Int)))
 (k1 a b c d e g 0 0 0 0 false 0)
 (rowK i 7 [.str]
 (fun A=>N α A
 (fun j=>l α j
 (fun a6=>cK (!(a6.toList == A.toList))
 (k1 a b c d e g h 0 0 0 false 0)
 (m α A (⟨#[45]⟩:BA)
 (fun a7=>cK (decide (7 < ((ByteArray.size a7:Nat):Int)))
 (k1 a b c d e g h 0 0 0 false 0)
 (rowK i 8 [.str]
 (fun B=>O α B
 (fun o=>l α o
 (fun a8=>cK (!(a8.toList == B.toList))
 (k1 a b c d e g h j 0 0 false 0)
 (m α B (⟨#[45]⟩:BA)
 (fun a9=>cK (decide (7 < ((ByteArray.size a9:Nat):Int)))
 (k1 a b c d e g h j 0 0 false 0)
 (rowK i 9 [.str]
 (fun C=>P α C
 (fun p=>l α p
 (fun b0=>cK (!(b0.toList == C.toList))
 (k1 a b c d e g h j o 0 false 0)
 (m α C (⟨#[45]⟩:BA)
 (fun b1=>cK (decide (7 < ((ByteArray.size b1:Nat):Int)))
 (k1 a b c d e g h j o 0 false 0)
 (rowK i 10 [.str]
 (fun D=>Q α D
 (fun F=>l α F
 (fun b2=>cK (!(b2.toList == D.toList))
 (k1 a b c d e g h j o p false 0)
 (m α D (⟨#[45]⟩:BA)
 (fun b3=>cK (decide (7 < ((ByteArray.size b3:Nat):Int)))
 (k1 a b c d e g h j o p false 0)
 (k1 a b c d e g h j o p true F)))))
 (fun b4=>k1 a b c d e g h j o p false 0)))))))
 (fun b5=>k1 a b c d e g h j o 0 false 0)))))))
 (fun b6=>k1 a b c d e g h j 0 0 false 0)))))))
 (fun b7=>k1 a b c d e g h 0 0 0 false 0)))))))
 (fun b8=>k1 a b c d e g 0 0 0 0 false 0)))))))
 (fun b9=>k1 a b c d e 0 0 0 0 0 false 0)))))))
 (fun c0=>k1 a b c d 0 0 0 0 0 0 false 0)))))))
 (fun c1=>k1 a b c 0 0 0 0 0 0 0 false 0)))))))
 (fun c2=>k1 a b 0 0 0 0 0 0 0 0 false 0)))))))
 (fun c3=>k1 a 0 0 0 0 0 0 0 0 0 false 0))))))
def f81_1 (α:Type)(a:Rows)(k1:BA->Int->Int->Int->Int->Int->Int->Int->Int->Int->Bool->Int->Op α):Op α:=f81_1g J81_1_0 J81_1_1 J81_1_2 J81_1_3 J81_1_4 J81_1_5 J81_1_6 J81_1_7 J81_1_8 J81_1_9 f173_0 f61_0 f64_0 α a k1
def pa81_1:PT (List DV):=pA [pV false [dL],pV true [(dMr [(dIc .i64 0)] 0)]]
def Fn81_1 (v:Tf81_1)(α:Type)(k:RT α):Rows->Op α:=fun a=>v α a (fun b c d e g h i j l m o p=>ur81_1_0 k b c d e g h i j l m o p)
def cm81_1g (a:TJ81_1_0)(b:TJ81_1_1)(c:TJ81_1_2)(d:TJ81_1_3)(e:TJ81_1_4)(g:TJ81_1_5)(h:TJ81_1_6)(i:TJ81_1_7)(j:TJ81_1_8)(l:TJ81_1_9):MCode:=(.seq (.region r81_2 [] (tO [0,1,4])) (.seq (.region r81_4 [] (tO [0,1,4,6])) (.seq (.region r81_6 [] (tO [0,1,4,6,7])) (.seq (.seq (.region r81_9 [] (tO [0,1,4,6,7,30])) (.cond (.tmp 30) (.seq (.region r81_12 [] (tO [1,4,5])) .ret) .skip)) (.seq (.seq (.region r81_15 [] (tO [0,1,4,6,32,33,34])) (.block 0 (.loopU 11 td81_17 (.seq (.region r81_19 [] (tO [0,1,4,6,32,33,34,35])) (.seq (.cond (.tmp 35) .skip (.exit 0)) (.seq (.block 1 (.seq (.region r81_25 [] (tO [0,1,4,6,8,9,32,33,34])) (.seq (.region r81_27 [] (tO [0,1,4,6,9,10,32,33,34])) (.seq (.mark [⟨p81_1_0,F81_1_0 a⟩,⟨p81_1_3,F81_1_1 b⟩,⟨p81_1_6,F81_1_2 c⟩,⟨p81_1_9,F81_1_3 d⟩,⟨p81_1_12,F81_1_4 e⟩,⟨p81_1_15,F81_1_5 g⟩,⟨p81_1_18,F81_1_6 h⟩,⟨p81_1_21,F81_1_7 i⟩,⟨p81_1_24,F81_1_8 j⟩,⟨p81_1_27,F81_1_9 l⟩] c81_1_28) (.seq (.seq (.region r81_32 [] (tO [0,1,4,6,9,11,32,33,34,62])) (.cond (.tmp 62) (.seq (.region r81_35 [] (tO [1,4,5])) .ret) .skip)) (.region r81_36 [] (tO [0,1,4,6,32,33,34]))))))) (.region r81_37 [] (tO [0,1,4,6,32,33,34])))))))) (.seq (.region r81_39 [] (tO [1,4,5])) .ret))))))
def cm81_1:MCode:=cm81_1g J81_1_0 J81_1_1 J81_1_2 J81_1_3 J81_1_4 J81_1_5 J81_1_6 J81_1_7 J81_1_8 J81_1_9
theorem gm81_1:cm81_1.Good Pg E81_1 sh81:=⟨TT,TT,TT,⟨TT,⟨TT,TT⟩,TT⟩,⟨TT,⟨TT,⟨TT,TT⟩,⟨TT,TT,⟨g81_1_28,m81_1_0,m81_1_1,m81_1_2,m81_1_3,m81_1_4,m81_1_5,m81_1_6,m81_1_7,m81_1_8,m81_1_9,TT⟩,⟨TT,⟨TT,TT⟩,TT⟩,TT⟩,TT⟩,by decide⟩,TT,TT⟩
theorem fm81_1g (a:Tf173_0)(q:Tf63_0)(b:Tf61_0)(c:Tf64_0)(d:TJ81_1_0)(e:TJ81_1_1)(g:TJ81_1_2)(h:TJ81_1_3)(i:TJ81_1_4)(j:TJ81_1_5)(l:TJ81_1_6)(m:TJ81_1_7)(o:TJ81_1_8)(p:TJ81_1_9)(α:Type)(k:RT α):Fn81_1 (f81_1g d e g h i j l m o p a b c) α k=pa81_1.unc fun ds=>fnM Pg (E81_1g a q b c) sh81 (cm81_1g d e g h i j l m o p) rs81 k ds:=by kernel_rfl
theorem fm81_1:∀ (α:Type) (k:RT α),Fn81_1 f81_1 α k=pa81_1.unc fun ds=>fnM Pg E81_1 sh81 cm81_1 rs81 k ds:=fm81_1g f173_0 f63_0 f61_0 f64_0 J81_1_0 J81_1_1 J81_1_2 J81_1_3 J81_1_4 J81_1_5 J81_1_6 J81_1_7 J81_1_8 J81_1_9
theorem io81_1:InstOk Pg 81 nt81 ⟨pa81_1,Fn81_1 f81_1⟩:=inst_ok eo81_1 followsTry is81 ⟨⟨sh81,cm81_1,by kernel_rfl,gm81_1,fm81_1⟩⟩
abbrev nt248:Nat:=21
def sh248:SG:=[]
def r248_2:LA:=[oO 4 (.mv (.const (.bool false)))]
def r248_4:LA:=[oM 5 0,oO 6 (.pure (oB (ln9 5) 3)),oM 7 1,oO 8 (.pure (oB (ln9 7) 3)),bT 9 .geq 6 8,oM 10 9,oG 11 (.mv (.tmp 0)) 10 true,oG 12 (.mv (.tmp 0)) 10 true,oG 13 (.pure (oB (ln9 12) 3)) 10 true,oG 14 (.mv (.tmp 1)) 10 true,oG 15 (.pure (oB (ln9 14) 3)) 10 true,oG 16 (.bin .sub 3 (.tmp 13) (.tmp 15)) 10 true,oG 17 (.pure (oB (.slice 9 (.tmp 11) (some (.tmp 16)) none none) 9)) 10 true,oG 18 (.mv (.tmp 1)) 10 true,oG 19 (.bin .eql 9 (.tmp 17) (.tmp 18)) 10 true,oO 20 (.pick (.tmp 10) (.tmp 19) (.const (.bool false))),oM 4 20]
def tr248:TG:=[tT 0 [0,1],tT 1 [4]]
def tl248:TG:=[]
def rs248:List AResV:=[.tmp 4]
def pr248_0_0:PT (List RV):=pRs [pR false [rD dB]]
def ur248_0_0 {β:Type}(g:List RV->β):Bool->β:=pr248_0_0.unc g
def E248_0g:EnvK:=EnvK.of [] noSeq
def E248_0:EnvK:=E248_0g
theorem eo248_0:E248_0.Ok Pg:=EnvK.of_ok noSeq_ok TT
abbrev Tf248_0:Type 1:=(α:Type)->BA->BA->(Bool->Op α)->Op α
def f248_0g (α:Type)(a b:BA)(k1:Bool->Op α):Op α:=
 cK (decide (((ByteArray.size b:Nat):Int)<=((ByteArray.size a:Nat):Int)))
 (gK (decide ((0:Int)<=(w64 (((ByteArray.size a:Nat):Int) - ((ByteArray.size b:Nat):Int)))/\(w64 (((ByteArray.size a:Nat):Int) - ((ByteArray.size b:Nat):Int)))<=(((ByteArray.size a:Nat):Int):Int)/\(((ByteArray.size a:Nat):Int):Int)<=((ByteArray.size a:Nat):Int))) (k1 ((ByteArray.extract a (Int.toNat (w64 (((ByteArray.size a:Nat):Int) - ((ByteArray.size b:Nat):Int)))) (Int.toNat ((ByteArray.size a:Nat):Int))).toList == b.toList)))
 (k1 false)
def f248_0 (α:Type)(a b:BA)(k1:Bool->Op α):Op α:=f248_0g α a b k1
def pa248_0:PT (List DV):=pA [pV false [dS],pV false [dS]]
def Fn248_0 (v:Tf248_0)(α:Type)(k:RT α):BA->BA->Op α:=fun a b=>v α a b (fun c=>ur248_0_0 k c)
def cm248_0g:MCode:=(.seq (.region r248_2 [] (tO [0,1])) (.seq (.region r248_4 [] (tO [4])) .ret))
def cm248_0:MCode:=cm248_0g
theorem gm248_0:cm248_0.Good Pg E248_0 sh248:=⟨TT,TT,TT⟩
theorem fm248_0g (α:Type)(k:RT α):Fn248_0 (f248_0g ) α k=pa248_0.unc fun ds=>fnM Pg (E248_0g ) sh248 (cm248_0g ) rs248 k ds:=by kernel_rfl
theorem fm248_0:∀ (α:Type) (k:RT α),Fn248_0 f248_0 α k=pa248_0.unc fun ds=>fnM Pg E248_0 sh248 cm248_0 rs248 k ds:=fm248_0g
theorem is248:FnIs Pg 248 nt248 tr248 tl248 cm248_0.erase rs248:=⟨Tryz.f248,Tryz.func248,rfl,by kernel_rfl,by kernel_rfl,by kernel_rfl⟩
theorem io248_0:InstOk Pg 248 nt248 ⟨pa248_0,Fn248_0 f248_0⟩:=inst_ok eo248_0 followsTry is248 ⟨⟨sh248,cm248_0,by kernel_rfl,gm248_0,fm248_0⟩⟩
abbrev nt68:Nat:=70
def sh68:SG:=[]
def r68_2:LA:=[mK 4 0,oO 5 (.mv (.const (.bool false)))]
def r68_4:LA:=[mK 6 0]
def r68_7:LA:=[oM 9 0,oO 10 (.pure (oB (ln9 9) 3)),bK 11 .gtr 10 0,oM 12 11,oG 13 (.mv (.tmp 0)) 12 true,oG 14 (.pure (oB (.index 9 (.tmp 13) (kI 0)) 5)) 12 true,oG 15 (.bin .eql 5 (.tmp 14) (.const (.int .u8 45))) 12 true,oO 16 (.pick (.tmp 12) (.tmp 15) (.const (.bool false)))]
def r68_9:LA:=[mK 6 1]
def r68_12:LA:=[oM 17 0,oO 18 (.pure (oB (ln9 17) 3)),oM 19 6,bT 20 .eql 18 19,oM 21 20,oG 22 (.mv (.tmp 0)) 21 false,oG 23 (.pure (oB (ln9 22) 3)) 21 false,oG 24 (.mv (.tmp 6)) 21 false,oG 25 (.bin .sub 3 (.tmp 23) (.tmp 24)) 21 false,oG 26 (.mv (.tmp 1)) 21 false,oG 27 (.bin .gtr 3 (.tmp 25) (.tmp 26)) 21 false,oO 28 (.pick (.tmp 21) (.const (.bool true)) (.tmp 27)),oM 29 28,oG 30 (.mv (.tmp 0)) 29 false,oG 31 (.mv (.tmp 6)) 29 false,oG 32 (.pure (oB (.index 9 (.tmp 30) (.tmp 31)) 5)) 29 false,oG 33 (.bin .eql 5 (.tmp 32) (.const (.int .u8 48))) 29 false,oG 34 (.mv (.tmp 33)) 29 false,oG 35 (.mv (.tmp 0)) 34 true,oG 36 (.pure (oB (ln9 35) 3)) 34 true,oG 37 (.bin .gtr 3 (.tmp 36) (kI 1)) 34 true,oG 38 (.pick (.tmp 34) (.tmp 37) (.const (.bool false))) 29 false,oO 39 (.pick (.tmp 29) (.const (.bool true)) (.tmp 38))]
def r68_15:LA:=[mK 4 0,oO 5 (.mv (.const (.bool false)))]
def r68_17:LA:=[mK 7 0]
def r68_20:LA:=[oM 40 6,oM 8 40]
def td68_22:OT:=(tO [0,6,7,8])
def r68_25:LA:=[oM 41 8,oM 42 0,oO 43 (.pure (oB (ln9 42) 3)),bT 44 .lss 41 43]
def r68_31:LA:=[oM 47 0,oM 48 8,oO 49 (.pure (oB (.index 9 (.tmp 47) (.tmp 48)) 5)),oO 50 (.bin .lss 5 (.tmp 49) (.const (.int .u8 48))),oM 51 50,oG 52 (.mv (.tmp 0)) 51 false,oG 53 (.mv (.tmp 8)) 51 false,oG 54 (.pure (oB (.index 9 (.tmp 52) (.tmp 53)) 5)) 51 false,oG 55 (.bin .gtr 5 (.tmp 54) (.const (.int .u8 57))) 51 false,oO 56 (.pick (.tmp 51) (.const (.bool true)) (.tmp 55))]
def r68_34:LA:=[mK 4 0,oO 5 (.mv (.const (.bool false)))]
def r68_35:LA:=[oM 57 7,oO 58 (.bin .mul 3 (kI 10) (.tmp 57)),oM 59 0,oM 60 8,oO 61 (.pure (oB (.index 9 (.tmp 59) (.tmp 60)) 5)),oO 62 (.bin .sub 5 (.tmp 61) (.const (.int .u8 48))),oO 63 (.pure (oB (.convert 5 3 (.tmp 62)) 3)),bT 64 .add 58 63,oM 7 64]
def r68_36:LA:=[oM 45 8,bK 46 .add 45 1,oM 8 46]
def r68_39:LA:=[oM 65 6,bK 66 .eql 65 1]
def r68_41:LA:=[oM 67 7,oO 68 (.pure (oB (.unOp .neg 3 (.tmp 67)) 3)),oM 7 68]
def r68_43:LA:=[oM 69 7,oM 4 69,oO 5 (.mv (.const (.bool true)))]
def tr68:TG:=[tT 0 [0,1],tT 1 [0,1,6],tT 2 [0,1,6,16],tT 3 [0,1,6],tT 4 [0,6,39],tT 5 [4,5],tT 6 [0,6,7],tT 7 [0,6,7,8],tT 8 [0,6,7,8,44],tT 10 [0,6,7,8,56],tT 11 [4,5],tT 12 [0,6,7,8],tT 9 [0,6,7,8],tT 13 [7,66],tT 14 [7],tT 15 [4,5]]
def tl68:TG:=[tT 8 [0,6,7,8]]
def rs68:List AResV:=[.tmp 4,.tmp 5]
def p68_0_0:PT St:=pS [sY 0 dS,sI 1,sI 6] []
def u68_0_0 {β:Type}(g:St->β):BA->Int->Int->β:=p68_0_0.unc g
def p68_0_1:PT St:=pS [sY 0 dS,sI 1,sI 6,sY 16 dB] []
def u68_0_1 {β:Type}(g:St->β):BA->Int->Int->Bool->β:=p68_0_1.unc g
def p68_0_2:PT St:=pS [sI 4,sY 5 dB] []
def u68_0_2 {β:Type}(g:St->β):Int->Bool->β:=p68_0_2.unc g
def p68_0_3:PT St:=pS [sY 0 dS,sI 6,sY 39 dB] []
def u68_0_3 {β:Type}(g:St->β):BA->Int->Bool->β:=p68_0_3.unc g
def p68_0_4:PT St:=pS [sY 0 dS,sI 6,sI 7,sI 8] []
def u68_0_4 {β:Type}(g:St->β):BA->Int->Int->Int->β:=p68_0_4.unc g
def p68_0_5:PT St:=pS [sY 0 dS,sI 6,sI 7,sI 8,sY 44 dB] []
def u68_0_5 {β:Type}(g:St->β):BA->Int->Int->Int->Bool->β:=p68_0_5.unc g
def pr68_0_0:PT (List RV):=pRs [wI,pR false [rD dB]]
def ur68_0_0 {β:Type}(g:List RV->β):Int->Bool->β:=pr68_0_0.unc g
def E68_0g:EnvK:=EnvK.of [] noSeq
def E68_0:EnvK:=E68_0g
theorem eo68_0:E68_0.Ok Pg:=EnvK.of_ok noSeq_ok TT
def c68_0_22g:MCode:=(.seq (.seq (.region r68_25 [] (tO [0,6,7,8,44])) (.cond (.tmp 44) .skip (.exit 0))) (.seq (.block 1 (.seq (.seq (.region r68_31 [] (tO [0,6,7,8,56])) (.cond (.tmp 56) (.seq (.region r68_34 [] (tO [4,5])) .ret) .skip)) (.region r68_35 [] (tO [0,6,7,8])))) (.region r68_36 [] (tO [0,6,7,8]))))
def c68_0_22:MCode:=c68_0_22g
theorem g68_0_22:c68_0_22.Good Pg E68_0 sh68:=⟨⟨TT,TT,TT⟩,⟨⟨TT,⟨TT,TT⟩,TT⟩,TT⟩,TT⟩
def S68_0_2g (α:Type)(b:BA)(c a:Int)(kn:Int->Int->Op α)(k1:Op α)(k2:Int->Int->Bool->Op α):Op α:=
 cK (decide (a < ((ByteArray.size b:Nat):Int)))
 (sixK b a
 (fun d=>cK (decide (((UInt8.toNat d:Nat):Int) < 48))
 (k1)
 (sixK b a
 (fun e=>cK (decide (57 < ((UInt8.toNat e:Nat):Int)))
 (k1)
 (sixK b a
 (fun g=>kn (w64 ((w64 (10*c))+(w64 ((IntKind.wrap .u8 (((UInt8.toNat g:Nat):Int) - 48)))))) (w64 (a+1))))))))
 (k2 c a (decide (a < ((ByteArray.size b:Nat):Int))))
def S68_0_2 (α:Type)(a:BA)(b c:Int)(kn:Int->Int->Op α)(k1:Op α)(k2:Int->Int->Bool->Op α):Op α:=S68_0_2g α a b c kn k1 k2
def R68_0_2 (α:Type)(a:BA)(k1:Op α)(k2:Int->Int->Bool->Op α):Nat->Int->Int->Op α
 | 0,_,_=>none
 | n+1,b,c=>S68_0_2 α a b c (R68_0_2 α a k1 k2 n) k1 k2
def L68_0_2 (α:Type)(a:BA)(k1:Op α)(k2:Int->Int->Bool->Op α)(b c:Int):Op α:=R68_0_2 α a k1 k2 fuel b c
abbrev TL68_0_2:Type 1:=(α:Type)->BA->(Op α)->(Int->Int->Bool->Op α)->Int->Int->Op α
def F68_0_2 (v:TL68_0_2)(α:Type)(K:KT α):BA->Int->Int->Int->Op α:=fun a b c d=>v α a (u68_0_2 (K .ret) 0 false) (fun e g h=>u68_0_5 (K (.exit 0)) a b e g h) c d
theorem r68_0_2g (α:Type)(K:KT α)(Kn:SK α)(a:BA)(d b c:Int):u68_0_4 (fun σ=>runM Pg (E68_0g ) sh68 (c68_0_22g ) (thenK (fun σ=>tidyK td68_22 σ Kn) K) σ) a d b c=S68_0_2g α a b c (fun b c=>u68_0_4 Kn a d b c) (u68_0_2 (K .ret) 0 false) (fun e g h=>u68_0_5 (K (.exit 0)) a d e g h):=by kernel_rfl
theorem r68_0_2 (α:Type)(K:KT α)(Kn:SK α)(a:BA)(d b c:Int):u68_0_4 (fun σ=>runM Pg E68_0 sh68 c68_0_22 (thenK (fun σ=>tidyK td68_22 σ Kn) K) σ) a d b c=S68_0_2 α a b c (fun b c=>u68_0_4 Kn a d b c) (u68_0_2 (K .ret) 0 false) (fun e g h=>u68_0_5 (K (.exit 0)) a d e g h):=r68_0_2g α K Kn a d b c
theorem t68_0_2 (α:Type)(K:KT α):∀ (n:Nat) (a:BA) (d b c:Int),R68_0_2 α a (u68_0_2 (K .ret) 0 false) (fun e g h=>u68_0_5 (K (.exit 0)) a d e g h) n b c=u68_0_4 (loopT (runM Pg E68_0 sh68 c68_0_22) td68_22 K n) a d b c:=by
 intro n
 induction n with
 | zero=>intros;rfl
 | succ n ih=>intro a d b c;exact (congrArg (fun kn=>S68_0_2 α a b c kn (u68_0_2 (K .ret) 0 false) (fun e g h=>u68_0_5 (K (.exit 0)) a d e g h)) (funext fun b=>funext fun c=>ih a d b c)).trans (r68_0_2 α K (loopT (runM Pg E68_0 sh68 c68_0_22) td68_22 K n) a d b c).symm
theorem m68_0_2:∀ (α:Type) (K:KT α),F68_0_2 L68_0_2 α K=p68_0_4.unc fun σ=>loopT (runM Pg E68_0 sh68 c68_0_22) td68_22 K fuel σ:=fun α K=>by funext a b c d;exact t68_0_2 α K fuel a b c d
def c68_0_10g:MCode:=(.seq (.region r68_12 [] (tO [0,6,39])) (.cond (.tmp 39) (.seq (.region r68_15 [] (tO [4,5])) .ret) .skip))
def c68_0_10:MCode:=c68_0_10g
theorem g68_0_10:c68_0_10.Good Pg E68_0 sh68:=⟨TT,⟨TT,TT⟩,TT⟩
abbrev TJ68_0_1:Type 1:=(α:Type)->BA->Int->Int->(Op α)->(Bool->Op α)->Op α
def J68_0_1g (α:Type)(a:BA)(c b:Int)(k1:Op α)(k2:Bool->Op α):Op α:=
 cK (((ByteArray.size a:Nat):Int) == b)
 (k1)
 (cK (decide (c < (w64 (((ByteArray.size a:Nat):Int) - b))))
 (k1)
 (sixK a b
 (fun d=>cK (((UInt8.toNat d:Nat):Int) == 48)
 (cK (decide (1 < ((ByteArray.size a:Nat):Int)))
 (k1)
 (k2 (decide (1 < ((ByteArray.size a:Nat):Int)))))
 (k2 false))))
def J68_0_1 (α:Type)(a:BA)(b c:Int)(k1:Op α)(k2:Bool->Op α):Op α:=J68_0_1g α a b c k1 k2
def F68_0_1 (v:TJ68_0_1)(α:Type)(K:KT α):BA->Int->Int->Op α:=fun a c b=>v α a c b (u68_0_2 (K .ret) 0 false) (fun d=>u68_0_3 (K .normal) a b d)
theorem m68_0_1g (α:Type)(K:KT α):F68_0_1 (J68_0_1g ) α K=p68_0_0.unc fun σ=>runM Pg (E68_0g ) sh68 (c68_0_10g ) K σ:=by kernel_rfl
theorem m68_0_1:∀ (α:Type) (K:KT α),F68_0_1 J68_0_1 α K=p68_0_0.unc fun σ=>runM Pg E68_0 sh68 c68_0_10 K σ:=m68_0_1g
abbrev TJ68_0_3:Type 1:=(α:Type)->BA->Int->Int->(Op α)->(Bool->Op α)->Op α
def J68_0_3g (α:Type)(a:BA)(c b:Int)(k1:Op α)(k2:Bool->Op α):Op α:=
 cK (((ByteArray.size a:Nat):Int) == b)
 (k1)
 (cK (decide (c < (w64 (((ByteArray.size a:Nat):Int) - b))))
 (k1)
 (sixK a b
 (fun d=>cK (((UInt8.toNat d:Nat):Int) == 48)
 (cK (decide (1 < ((ByteArray.size a:Nat):Int)))
 (k1)
 (k2 (decide (1 < ((ByteArray.size a:Nat):Int)))))
 (k2 false))))
def J68_0_3 (α:Type)(a:BA)(b c:Int)(k1:Op α)(k2:Bool->Op α):Op α:=J68_0_3g α a b c k1 k2
def F68_0_3 (v:TJ68_0_3)(α:Type)(K:KT α):BA->Int->Int->Bool->Op α:=fun a c b e=>v α a c b (u68_0_2 (K .ret) 0 false) (fun d=>u68_0_3 (K .normal) a b d)
theorem m68_0_3g (α:Type)(K:KT α):F68_0_3 (J68_0_3g ) α K=p68_0_1.unc fun σ=>runM Pg (E68_0g ) sh68 (c68_0_10g ) K σ:=by kernel_rfl
theorem m68_0_3:∀ (α:Type) (K:KT α),F68_0_3 J68_0_3 α K=p68_0_1.unc fun σ=>runM Pg E68_0 sh68 c68_0_10 K σ:=m68_0_3g
def c68_0_5g:MCode:=(.seq (.region r68_7 [] (tO [0,1,6,16])) (.cond (.tmp 16) (.region r68_9 [] (tO [0,1,6])) .skip))
def c68_0_5:MCode:=c68_0_5g
theorem g68_0_5:c68_0_5.Good Pg E68_0 sh68:=⟨TT,TT,TT⟩
abbrev TJ68_0_0:Type 1:=(α:Type)->BA->(Op α)->(Bool->Op α)->Op α
def J68_0_0g (α:Type)(a:BA)(k1:Op α)(k2:Bool->Op α):Op α:=
 cK (decide (0 < ((ByteArray.size a:Nat):Int)))
 (sixK a 0
 (fun b=>cK (((UInt8.toNat b:Nat):Int) == 45)
 (k1)
 (k2 (((UInt8.toNat b:Nat):Int) == 45))))
 (k2 false)
def J68_0_0 (α:Type)(a:BA)(k1:Op α)(k2:Bool->Op α):Op α:=J68_0_0g α a k1 k2
def F68_0_0 (v:TJ68_0_0)(α:Type)(K:KT α):BA->Int->Int->Op α:=fun a b c=>v α a (u68_0_0 (K .normal) a b 1) (fun d=>u68_0_1 (K .normal) a b c d)
theorem m68_0_0g (α:Type)(K:KT α):F68_0_0 (J68_0_0g ) α K=p68_0_0.unc fun σ=>runM Pg (E68_0g ) sh68 (c68_0_5g ) K σ:=by kernel_rfl
theorem m68_0_0:∀ (α:Type) (K:KT α),F68_0_0 J68_0_0 α K=p68_0_0.unc fun σ=>runM Pg E68_0 sh68 c68_0_5 K σ:=m68_0_0g
abbrev Tf68_0:Type 1:=(α:Type)->BA->Int->(Int->Bool->Op α)->Op α
def f68_0g (d:TJ68_0_0)(e:TJ68_0_1)(g:TJ68_0_3)(b:TL68_0_2)(α:Type)(a:BA)(c:Int)(k1:Int->Bool->Op α):Op α:=
 d α a
 (e α a c 1
 (k1 0 false)
 (fun j=>b α a
 (k1 0 false)
 (fun h l m=>k1 (w64 (0 - h)) true) 0 1))
 (fun o=>g α a c 0
 (k1 0 false)
 (fun p=>b α a
 (k1 0 false)
 (fun i q r=>k1 i true) 0 0))
def f68_0 (α:Type)(a:BA)(b:Int)(k1:Int->Bool->Op α):Op α:=f68_0g J68_0_0 J68_0_1 J68_0_3 L68_0_2 α a b k1
def pa68_0:PT (List DV):=pA [pV false [dS],vI]
def Fn68_0 (v:Tf68_0)(α:Type)(k:RT α):BA->Int->Op α:=fun a b=>v α a b (fun c d=>ur68_0_0 k c d)
def cm68_0g (a:TJ68_0_0)(b:TJ68_0_1)(c:TJ68_0_3)(d:TL68_0_2):MCode:=(.seq (.region r68_2 [] (tO [0,1])) (.seq (.region r68_4 [] (tO [0,1,6])) (.seq (.mark [⟨p68_0_0,F68_0_0 a⟩] c68_0_5) (.seq (.mark [⟨p68_0_0,F68_0_1 b⟩,⟨p68_0_1,F68_0_3 c⟩] c68_0_10) (.seq (.region r68_17 [] (tO [0,6,7])) (.seq (.seq (.region r68_20 [] (tO [0,6,7,8])) (.block 0 (.loop td68_22 [⟨p68_0_4,F68_0_2 d⟩] c68_0_22))) (.seq (.seq (.region r68_39 [] (tO [7,66])) (.cond (.tmp 66) (.region r68_41 [] (tO [7])) .skip)) (.seq (.region r68_43 [] (tO [4,5])) .ret))))))))
def cm68_0:MCode:=cm68_0g J68_0_0 J68_0_1 J68_0_3 L68_0_2
theorem gm68_0:cm68_0.Good Pg E68_0 sh68:=⟨TT,TT,⟨g68_0_5,m68_0_0,TT⟩,⟨g68_0_10,m68_0_1,m68_0_3,TT⟩,TT,⟨TT,g68_0_22,m68_0_2,TT⟩,⟨TT,TT,TT⟩,TT,TT⟩
theorem fm68_0g (a:TJ68_0_0)(b:TJ68_0_1)(c:TJ68_0_3)(d:TL68_0_2)(α:Type)(k:RT α):Fn68_0 (f68_0g a b c d) α k=pa68_0.unc fun ds=>fnM Pg (E68_0g ) sh68 (cm68_0g a b c d) rs68 k ds:=by kernel_rfl
theorem fm68_0:∀ (α:Type) (k:RT α),Fn68_0 f68_0 α k=pa68_0.unc fun ds=>fnM Pg E68_0 sh68 cm68_0 rs68 k ds:=fm68_0g J68_0_0 J68_0_1 J68_0_3 L68_0_2
theorem is68:FnIs Pg 68 nt68 tr68 tl68 cm68_0.erase rs68:=⟨Tryz.f68,Tryz.func68,rfl,by kernel_rfl,by kernel_rfl,by kernel_rfl⟩
theorem io68_0:InstOk Pg 68 nt68 ⟨pa68_0,Fn68_0 f68_0⟩:=inst_ok eo68_0 followsTry is68 ⟨⟨sh68,cm68_0,by kernel_rfl,gm68_0,fm68_0⟩⟩
abbrev nt67:Nat:=34
def sh67:SG:=[]
def r67_2:LA:=[oO 4 (.mv (.const (.slice none 0 0)))]
def r67_4:LA:=[oO 5 (.mv (.const (.slice none 0 0)))]
def r67_6:LA:=[mK 6 0]
def r67_9:LA:=[mK 7 0]
def td67_11:OT:=(some ⟨[0,1,5,6,7],true,[⟨false,5,0,20005,1⟩],[]⟩)
def r67_14:LA:=[oM 8 7,oM 9 0,oO 10 (.pure (oB (ln9 9) 3)),bT 11 .lss 8 10]
def r67_19:LA:=[oM 14 0,oM 15 7,oO 16 (.pure (oB (.index 9 (.tmp 14) (.tmp 15)) 5)),oM 17 1,oO 18 (.bin .eql 5 (.tmp 16) (.tmp 17))]
def r67_22:LA:=[oM 19 5,oM 20 0,oM 21 6,oM 22 7,oO 23 (.pure (oB (.slice 9 (.tmp 20) (some (.tmp 21)) (some (.tmp 22)) none) 9)),⟨(some 24),(.bslice 1 1 [(.v (.string ⟨#[]⟩))] [(0,(.tmp 23))]),none⟩,oO 25 (.append 1 16 (.tmp 19) (.tmp 24)),oM 5 25]
def r67_23:LA:=[oM 26 7,bK 27 .add 26 1,oM 6 27]
def r67_24:LA:=[oM 12 7,bK 13 .add 12 1,oM 7 13]
def r67_26:LA:=[oM 28 5,oM 29 0,oM 30 6,oO 31 (.pure (oB (.slice 9 (.tmp 29) (some (.tmp 30)) none none) 9)),⟨(some 32),(.bslice 1 1 [(.v (.string ⟨#[]⟩))] [(0,(.tmp 31))]),none⟩,oO 33 (.append 1 16 (.tmp 28) (.tmp 32)),oM 4 33]
def tr67:TG:=[tT 0 [0,1],tT 1 [0,1,5],tT 2 [0,1,5,6],tT 3 [0,1,5,6,7],tT 4 [0,1,5,6,7,11],tT 6 [0,1,5,6,7,18],tT 7 [0,1,5,7],tT 8 [0,1,5,6,7],tT 5 [0,1,5,6,7],(9,⟨[4],true,[⟨false,4,0,20004,1⟩],[]⟩)]
def tl67:TG:=[(4,⟨[0,1,5,6,7],true,[⟨false,5,0,20005,1⟩],[]⟩)]
def rs67:List AResV:=[.tmp 4]
def p67_0_0:PT St:=pS [sY 0 dS,sY 1 (dI .u8),sl 5 (aV false [(cRef 20005)]),sI 6,sI 7] [eOwn 20005 1]
def u67_0_0 {β:Type}(g:St->β):BA->Int->Int->Int->Rows->β:=p67_0_0.unc g
def p67_0_1:PT St:=pS [sY 0 dS,sY 1 (dI .u8),sl 5 (aV false [(cRef 20005)]),sI 6,sI 7,sY 11 dB] [eOwn 20005 1]
def u67_0_1 {β:Type}(g:St->β):BA->Int->Int->Int->Bool->Rows->β:=p67_0_1.unc g
def pr67_0_0:PT (List RV):=pRs [pR false [rO 1]]
def ur67_0_0 {β:Type}(g:List RV->β):Rows->β:=pr67_0_0.unc g
def E67_0g:EnvK:=EnvK.of [] noSeq
def E67_0:EnvK:=E67_0g
theorem eo67_0:E67_0.Ok Pg:=EnvK.of_ok noSeq_ok TT
def c67_0_11g:MCode:=(.seq (.seq (.region r67_14 [] (tO [0,1,5,6,7,11])) (.cond (.tmp 11) .skip (.exit 0))) (.seq (.block 1 (.seq (.region r67_19 [] (tO [0,1,5,6,7,18])) (.cond (.tmp 18) (.seq (.region r67_22 [] (tO [0,1,5,7])) (.region r67_23 [] (tO [0,1,5,6,7]))) .skip))) (.region r67_24 [] (tO [0,1,5,6,7]))))
def c67_0_11:MCode:=c67_0_11g
theorem g67_0_11:c67_0_11.Good Pg E67_0 sh67:=⟨⟨TT,TT,TT⟩,⟨TT,⟨TT,TT⟩,TT⟩,TT⟩
def S67_0_0g (α:Type)(b:BA)(e c a:Int)(d:Rows)(kn:Int->Int->Rows->Op α)(k1:Int->Int->Bool->Rows->Op α):Op α:=
 cK (decide (a < ((ByteArray.size b:Nat):Int)))
 (sixK b a
 (fun g=>cK (((UInt8.toNat g:Nat):Int) == e)
 (gK (decide ((0:Int)<=c/\c<=(a:Int)/\(a:Int)<=((ByteArray.size b:Nat):Int))) (gK (apOk 1 16 d [[DC.v (.string (ByteArray.extract b (Int.toNat c) (Int.toNat a)))]]) (kn (w64 (a+1)) (w64 (a+1)) (d++[[DC.v (.string (ByteArray.extract b (Int.toNat c) (Int.toNat a)))]]))))
 (kn c (w64 (a+1)) d)))
 (k1 c a (decide (a < ((ByteArray.size b:Nat):Int))) d)
def S67_0_0 (α:Type)(a:BA)(b c d:Int)(e:Rows)(kn:Int->Int->Rows->Op α)(k1:Int->Int->Bool->Rows->Op α):Op α:=S67_0_0g α a b c d e kn k1
def R67_0_0 (α:Type)(a:BA)(b:Int)(k1:Int->Int->Bool->Rows->Op α):Nat->Int->Int->Rows->Op α
 | 0,_,_,_=>none
 | n+1,c,d,e=>S67_0_0 α a b c d e (R67_0_0 α a b k1 n) k1
def L67_0_0 (α:Type)(a:BA)(b:Int)(k1:Int->Int->Bool->Rows->Op α)(c d:Int)(e:Rows):Op α:=R67_0_0 α a b k1 fuel c d e
abbrev TL67_0_0:Type 1:=(α:Type)->BA->Int->(Int->Int->Bool->Rows->Op α)->Int->Int->Rows->Op α
def F67_0_0 (v:TL67_0_0)(α:Type)(K:KT α):BA->Int->Int->Int->Rows->Op α:=fun a b c d e=>v α a b (fun g h i j=>u67_0_1 (K (.exit 0)) a b g h i j) c d e
theorem r67_0_0g (α:Type)(K:KT α)(Kn:SK α)(a:BA)(b c d:Int)(e:Rows):u67_0_0 (fun σ=>runM Pg (E67_0g ) sh67 (c67_0_11g ) (thenK (fun σ=>tidyK td67_11 σ Kn) K) σ) a b c d e=S67_0_0g α a b c d e (fun c d e=>u67_0_0 Kn a b c d e) (fun g h i j=>u67_0_1 (K (.exit 0)) a b g h i j):=by kernel_rfl
theorem r67_0_0 (α:Type)(K:KT α)(Kn:SK α)(a:BA)(b c d:Int)(e:Rows):u67_0_0 (fun σ=>runM Pg E67_0 sh67 c67_0_11 (thenK (fun σ=>tidyK td67_11 σ Kn) K) σ) a b c d e=S67_0_0 α a b c d e (fun c d e=>u67_0_0 Kn a b c d e) (fun g h i j=>u67_0_1 (K (.exit 0)) a b g h i j):=r67_0_0g α K Kn a b c d e
theorem t67_0_0 (α:Type)(K:KT α):∀ (n:Nat) (a:BA) (b c d:Int) (e:Rows),R67_0_0 α a b (fun g h i j=>u67_0_1 (K (.exit 0)) a b g h i j) n c d e=u67_0_0 (loopT (runM Pg E67_0 sh67 c67_0_11) td67_11 K n) a b c d e:=by
 intro n
 induction n with
 | zero=>intros;rfl
 | succ n ih=>intro a b c d e;exact (congrArg (fun kn=>S67_0_0 α a b c d e kn (fun g h i j=>u67_0_1 (K (.exit 0)) a b g h i j)) (funext fun c=>funext fun d=>funext fun e=>ih a b c d e)).trans (r67_0_0 α K (loopT (runM Pg E67_0 sh67 c67_0_11) td67_11 K n) a b c d e).symm
theorem m67_0_0:∀ (α:Type) (K:KT α),F67_0_0 L67_0_0 α K=p67_0_0.unc fun σ=>loopT (runM Pg E67_0 sh67 c67_0_11) td67_11 K fuel σ:=fun α K=>by funext a b c d e;exact t67_0_0 α K fuel a b c d e
abbrev Tf67_0:Type 1:=(α:Type)->BA->Int->(Rows->Op α)->Op α
def f67_0g (d:TL67_0_0)(α:Type)(a:BA)(e:Int)(k1:Rows->Op α):Op α:=
 d α a e
 (fun b g h c=>gK (decide ((0:Int)<=b/\b<=(((ByteArray.size a:Nat):Int):Int)/\(((ByteArray.size a:Nat):Int):Int)<=((ByteArray.size a:Nat):Int))) (gK (apOk 1 16 c [[DC.v (.string (ByteArray.extract a (Int.toNat b) (Int.toNat ((ByteArray.size a:Nat):Int))))]]) (k1 (c++[[DC.v (.string (ByteArray.extract a (Int.toNat b) (Int.toNat ((ByteArray.size a:Nat):Int))))]])))) 0 0 ([]:Rows)
def f67_0 (α:Type)(a:BA)(b:Int)(k1:Rows->Op α):Op α:=f67_0g L67_0_0 α a b k1
def pa67_0:PT (List DV):=pA [pV false [dS],pV false [(dI .u8)]]
def Fn67_0 (v:Tf67_0)(α:Type)(k:RT α):BA->Int->Op α:=fun a b=>v α a b (fun c=>ur67_0_0 k c)
def cm67_0g (a:TL67_0_0):MCode:=(.seq (.region r67_2 [] (tO [0,1])) (.seq (.region r67_4 [] (tO [0,1,5])) (.seq (.region r67_6 [] (tO [0,1,5,6])) (.seq (.seq (.region r67_9 [] (tO [0,1,5,6,7])) (.block 0 (.loop td67_11 [⟨p67_0_0,F67_0_0 a⟩] c67_0_11))) (.seq (.region r67_26 [] (some ⟨[4],true,[⟨false,4,0,20004,1⟩],[]⟩)) .ret)))))
def cm67_0:MCode:=cm67_0g L67_0_0
theorem gm67_0:cm67_0.Good Pg E67_0 sh67:=⟨TT,TT,TT,⟨TT,g67_0_11,m67_0_0,TT⟩,TT,TT⟩
theorem fm67_0g (a:TL67_0_0)(α:Type)(k:RT α):Fn67_0 (f67_0g a) α k=pa67_0.unc fun ds=>fnM Pg (E67_0g ) sh67 (cm67_0g a) rs67 k ds:=by kernel_rfl
theorem fm67_0:∀ (α:Type) (k:RT α),Fn67_0 f67_0 α k=pa67_0.unc fun ds=>fnM Pg E67_0 sh67 cm67_0 rs67 k ds:=fm67_0g L67_0_0
theorem is67:FnIs Pg 67 nt67 tr67 tl67 cm67_0.erase rs67:=⟨Tryz.f67,Tryz.func67,rfl,by kernel_rfl,by kernel_rfl,by kernel_rfl⟩
theorem io67_0:InstOk Pg 67 nt67 ⟨pa67_0,Fn67_0 f67_0⟩:=inst_ok eo67_0 followsTry is67 ⟨⟨sh67,cm67_0,by kernel_rfl,gm67_0,fm67_0⟩⟩
abbrev nt215:Nat:=15
def sh215:SG:=[]
def r215_2:LA:=[oO 6 (.mv (.const (.bool false)))]
def r215_4:LA:=[oM 7 1,oM 8 0,bT 9 .leq 7 8,oM 10 9,oG 11 (.mv (.tmp 0)) 10 true,oG 12 (.mv (.tmp 2)) 10 true,oG 13 (.bin .leq 3 (.tmp 11) (.tmp 12)) 10 true,oO 14 (.pick (.tmp 10) (.tmp 13) (.const (.bool false))),oM 6 14]
def tr215:TG:=[tT 0 [0,1,2],tT 1 [6]]
def tl215:TG:=[]
def rs215:List AResV:=[.tmp 6]
def pr215_0_0:PT (List RV):=pRs [pR false [rD dB]]
def ur215_0_0 {β:Type}(g:List RV->β):Bool->β:=pr215_0_0.unc g
def E215_0g:EnvK:=EnvK.of [] noSeq
def E215_0:EnvK:=E215_0g
theorem eo215_0:E215_0.Ok Pg:=EnvK.of_ok noSeq_ok TT
abbrev Tf215_0:Type 1:=(α:Type)->Int->Int->Int->(Bool->Op α)->Op α
def f215_0g (α:Type)(a b c:Int)(k1:Bool->Op α):Op α:=
 cK (decide (b<=a))
 (k1 (decide (a<=c)))
 (k1 false)
def f215_0 (α:Type)(a b c:Int)(k1:Bool->Op α):Op α:=f215_0g α a b c k1
def pa215_0:PT (List DV):=pA [vI,vI,vI]
def Fn215_0 (v:Tf215_0)(α:Type)(k:RT α):Int->Int->Int->Op α:=fun a b c=>v α a b c (fun d=>ur215_0_0 k d)
def cm215_0g:MCode:=(.seq (.region r215_2 [] (tO [0,1,2])) (.seq (.region r215_4 [] (tO [6])) .ret))
def cm215_0:MCode:=cm215_0g
theorem gm215_0:cm215_0.Good Pg E215_0 sh215:=⟨TT,TT,TT⟩
theorem fm215_0g (α:Type)(k:RT α):Fn215_0 (f215_0g ) α k=pa215_0.unc fun ds=>fnM Pg (E215_0g ) sh215 (cm215_0g ) rs215 k ds:=by kernel_rfl
theorem fm215_0:∀ (α:Type) (k:RT α),Fn215_0 f215_0 α k=pa215_0.unc fun ds=>fnM Pg E215_0 sh215 cm215_0 rs215 k ds:=fm215_0g
theorem is215:FnIs Pg 215 nt215 tr215 tl215 cm215_0.erase rs215:=⟨Tryz.f215,Tryz.func215,rfl,by kernel_rfl,by kernel_rfl,by kernel_rfl⟩
theorem io215_0:InstOk Pg 215 nt215 ⟨pa215_0,Fn215_0 f215_0⟩:=inst_ok eo215_0 followsTry is215 ⟨⟨sh215,cm215_0,by kernel_rfl,gm215_0,fm215_0⟩⟩
abbrev nt219:Nat:=54
def sh219:SG:=[(12,[.int .u8]),(13,[.int .u8])]
def r219_2:LA:=[oO 2 (.mv (.const (.bool false)))]
def r219_5:LA:=[oM 6 0,oO 7 (.bytes (.tmp 6)),oO 8 (.len (.tmp 7)),mK 9 0]
def td219_7:OT:=(some ⟨[0,7,8,9],true,[⟨false,7,0,20007,1⟩],[]⟩)
def r219_9:LA:=[bT 10 .lss 9 8]
def r219_15:LA:=[oM 11 9,oO 12 (.iaddr 1 none (.tmp 7) (.tmp 9)),lD 13 12,oM 3 11,oM 4 13]
def r219_17:LA:=[oM 14 4,oO 15 (.bin .geq 5 (.tmp 14) (.const (.int .u8 97))),oM 16 15,oG 17 (.mv (.tmp 4)) 16 true,oG 18 (.bin .leq 5 (.tmp 17) (.const (.int .u8 122))) 16 true,oO 19 (.pick (.tmp 16) (.tmp 18) (.const (.bool false))),oM 20 19,oG 21 (.mv (.tmp 4)) 20 false,oG 22 (.bin .geq 5 (.tmp 21) (.const (.int .u8 65))) 20 false,oG 23 (.mv (.tmp 22)) 20 false,oG 24 (.mv (.tmp 4)) 23 true,oG 25 (.bin .leq 5 (.tmp 24) (.const (.int .u8 90))) 23 true,oG 26 (.pick (.tmp 23) (.tmp 25) (.const (.bool false))) 20 false,oO 27 (.pick (.tmp 20) (.const (.bool true)) (.tmp 26)),oM 5 27]
def r219_19:LA:=[oM 28 5,oO 29 (.pure (oB (.unOp .not 4 (.tmp 28)) 4)),oM 30 29,oG 31 (.mv (.tmp 3)) 30 true,oG 32 (.bin .eql 3 (.tmp 31) (kI 0)) 30 true,oG 33 (.mv (.tmp 32)) 30 true,oG 34 (.mv (.tmp 4)) 33 false,oG 35 (.bin .neq 5 (.tmp 34) (.const (.int .u8 45))) 33 false,oG 36 (.mv (.tmp 35)) 33 false,oG 37 (.mv (.tmp 4)) 36 true,oG 38 (.bin .lss 5 (.tmp 37) (.const (.int .u8 48))) 36 true,oG 39 (.mv (.tmp 38)) 36 true,oG 40 (.mv (.tmp 4)) 39 false,oG 41 (.bin .gtr 5 (.tmp 40) (.const (.int .u8 57))) 39 false,oG 42 (.pick (.tmp 39) (.const (.bool true)) (.tmp 41)) 36 true,oG 43 (.pick (.tmp 36) (.tmp 42) (.const (.bool false))) 33 false,oG 44 (.pick (.tmp 33) (.const (.bool true)) (.tmp 43)) 30 true,oO 45 (.pick (.tmp 30) (.tmp 44) (.const (.bool false)))]
def r219_22:LA:=[oO 2 (.mv (.const (.bool false)))]
def r219_23:LA:=[bK 46 .add 9 1,oM 9 46]
def r219_25:LA:=[oM 47 0,⟨(some 48),(.bin .neq 9 (.tmp 47) (.const (.string ⟨#[]⟩))),none⟩,oM 49 48,oG 50 (.mv (.tmp 0)) 49 true,oG 51 (.pure (oB (ln9 50) 3)) 49 true,oG 52 (.bin .leq 3 (.tmp 51) (kI 12)) 49 true,oO 53 (.pick (.tmp 49) (.tmp 52) (.const (.bool false))),oM 2 53]
def tr219:TG:=[tT 0 [0],tT 1 [0,7,8,9],tT 2 [0,7,8,9,10],tT 3 [0,3,4,7,8,9],tT 4 [0,3,4,5,7,8,9],tT 5 [0,7,8,9,45],tT 6 [2],tT 7 [0,7,8,9],tT 8 [2]]
def tl219:TG:=[(2,⟨[0,7,8,9],true,[⟨false,7,0,20007,1⟩],[]⟩)]
def rs219:List AResV:=[.tmp 2]
def p219_0_0:PT St:=pS [sY 0 dS,sI 3,sY 4 (dI .u8),sl 7 (aV false [(cRef 20007)]),sI 8,sI 9] [eOwn 20007 1]
def u219_0_0 {β:Type}(g:St->β):BA->Int->Int->Int->Int->Rows->β:=p219_0_0.unc g
def p219_0_1:PT St:=pS [sY 0 dS,sI 3,sY 4 (dI .u8),sY 5 dB,sl 7 (aV false [(cRef 20007)]),sI 8,sI 9] [eOwn 20007 1]
def u219_0_1 {β:Type}(g:St->β):BA->Int->Int->Bool->Int->Int->Rows->β:=p219_0_1.unc g
def p219_0_2:PT St:=pS [sY 0 dS,sl 7 (aV false [(cRef 20007)]),sI 8,sI 9,sY 45 dB] [eOwn 20007 1]
def u219_0_2 {β:Type}(g:St->β):BA->Int->Int->Bool->Rows->β:=p219_0_2.unc g
def p219_0_3:PT St:=pS [sY 0 dS,sl 7 (aV false [(cRef 20007)]),sI 8,sI 9] [eOwn 20007 1]
def u219_0_3 {β:Type}(g:St->β):BA->Int->Int->Rows->β:=p219_0_3.unc g
def p219_0_4:PT St:=pS [sY 2 dB] []
def u219_0_4 {β:Type}(g:St->β):Bool->β:=p219_0_4.unc g
def p219_0_5:PT St:=pS [sY 0 dS,sl 7 (aV false [(cRef 20007)]),sI 8,sI 9,sY 10 dB] [eOwn 20007 1]
def u219_0_5 {β:Type}(g:St->β):BA->Int->Int->Bool->Rows->β:=p219_0_5.unc g
def pr219_0_0:PT (List RV):=pRs [pR false [rD dB]]
def ur219_0_0 {β:Type}(g:List RV->β):Bool->β:=pr219_0_0.unc g
def E219_0g:EnvK:=EnvK.of [] noSeq
def E219_0:EnvK:=E219_0g
theorem eo219_0:E219_0.Ok Pg:=EnvK.of_ok noSeq_ok TT
def c219_0_18g:MCode:=(.region r219_19 [] (tO [0,7,8,9,45]))
def c219_0_18:MCode:=c219_0_18g
theorem g219_0_18:c219_0_18.Good Pg E219_0 sh219:=TT
abbrev TJ219_0_1:Type 1:=(α:Type)->Int->Int->Bool->(Bool->Op α)->Op α
def J219_0_1g (α:Type)(b a:Int)(c:Bool)(k1:Bool->Op α):Op α:=
 cK (!c)
 (cK (b == 0)
 (k1 true)
 (cK (a != 45)
 (cK (decide (a < 48))
 (k1 true)
 (k1 (decide (57 < a))))
 (k1 false)))
 (k1 false)
def J219_0_1 (α:Type)(a b:Int)(c:Bool)(k1:Bool->Op α):Op α:=J219_0_1g α a b c k1
def F219_0_1 (v:TJ219_0_1)(α:Type)(K:KT α):BA->Int->Int->Bool->Int->Int->Rows->Op α:=fun a b c d e g h=>v α b c d (fun i=>u219_0_2 (K .normal) a e g i h)
theorem m219_0_1g (α:Type)(K:KT α):F219_0_1 (J219_0_1g ) α K=p219_0_1.unc fun σ=>runM Pg (E219_0g ) sh219 (c219_0_18g ) K σ:=by kernel_rfl
theorem m219_0_1:∀ (α:Type) (K:KT α),F219_0_1 J219_0_1 α K=p219_0_1.unc fun σ=>runM Pg E219_0 sh219 c219_0_18 K σ:=m219_0_1g
def c219_0_16g:MCode:=(.region r219_17 [] (tO [0,3,4,5,7,8,9]))
def c219_0_16:MCode:=c219_0_16g
theorem g219_0_16:c219_0_16.Good Pg E219_0 sh219:=TT
abbrev TJ219_0_0:Type 1:=(α:Type)->Int->(Bool->Op α)->Op α
def J219_0_0g (α:Type)(a:Int)(k1:Bool->Op α):Op α:=
 cK (decide (97<=a))
 (cK (decide (a<=122))
 (k1 true)
 (cK (decide (65<=a))
 (k1 (decide (a<=90)))
 (k1 false)))
 (cK (decide (65<=a))
 (k1 (decide (a<=90)))
 (k1 false))
def J219_0_0 (α:Type)(a:Int)(k1:Bool->Op α):Op α:=J219_0_0g α a k1
def F219_0_0 (v:TJ219_0_0)(α:Type)(K:KT α):BA->Int->Int->Int->Int->Rows->Op α:=fun b c a d e g=>v α a (fun h=>u219_0_1 (K .normal) b c a h d e g)
theorem m219_0_0g (α:Type)(K:KT α):F219_0_0 (J219_0_0g ) α K=p219_0_0.unc fun σ=>runM Pg (E219_0g ) sh219 (c219_0_16g ) K σ:=by kernel_rfl
theorem m219_0_0:∀ (α:Type) (K:KT α),F219_0_0 J219_0_0 α K=p219_0_0.unc fun σ=>runM Pg E219_0 sh219 c219_0_16 K σ:=m219_0_0g
def c219_0_7g (a:TJ219_0_0)(b:TJ219_0_1):MCode:=(.seq (.region r219_9 [] (tO [0,7,8,9,10])) (.seq (.cond (.tmp 10) .skip (.exit 0)) (.seq (.block 1 (.seq (.region r219_15 [] (tO [0,3,4,7,8,9])) (.seq (.mark [⟨p219_0_0,F219_0_0 a⟩] c219_0_16) (.seq (.mark [⟨p219_0_1,F219_0_1 b⟩] c219_0_18) (.cond (.tmp 45) (.seq (.region r219_22 [] (tO [2])) .ret) .skip))))) (.region r219_23 [] (tO [0,7,8,9])))))
def c219_0_7:MCode:=c219_0_7g J219_0_0 J219_0_1
theorem g219_0_7:c219_0_7.Good Pg E219_0 sh219:=⟨TT,⟨TT,TT⟩,⟨TT,⟨g219_0_16,m219_0_0,TT⟩,⟨g219_0_18,m219_0_1,TT⟩,⟨TT,TT⟩,TT⟩,TT⟩
def S219_0_2g (e:TJ219_0_0)(g:TJ219_0_1)(α:Type)(b:Int)(c:Rows)(a:Int)(kn:Int->Op α)(k1:Op α)(k2:Int->Bool->Op α):Op α:=
 cK (decide (a < b))
 (ixK c a 1
 (ldK c (Int.toNat a) 0 [.int .u8]
 (fun d=>e α d
 (fun h=>g α a d h
 (fun i=>cK i
 (k1)
 (kn (w64 (a+1))))))))
 (k2 a (decide (a < b)))
def S219_0_2 (α:Type)(a:Int)(b:Rows)(c:Int)(kn:Int->Op α)(k1:Op α)(k2:Int->Bool->Op α):Op α:=S219_0_2g J219_0_0 J219_0_1 α a b c kn k1 k2
def R219_0_2 (α:Type)(a:Int)(b:Rows)(k1:Op α)(k2:Int->Bool->Op α):Nat->Int->Op α
 | 0,_=>none
 | n+1,c=>S219_0_2 α a b c (R219_0_2 α a b k1 k2 n) k1 k2
def L219_0_2 (α:Type)(a:Int)(b:Rows)(k1:Op α)(k2:Int->Bool->Op α)(c:Int):Op α:=R219_0_2 α a b k1 k2 fuel c
abbrev TL219_0_2:Type 1:=(α:Type)->Int->Rows->(Op α)->(Int->Bool->Op α)->Int->Op α
def F219_0_2 (v:TL219_0_2)(α:Type)(K:KT α):BA->Int->Int->Rows->Op α:=fun c a d b=>v α a b (u219_0_4 (K .ret) false) (fun e g=>u219_0_5 (K (.exit 0)) c a e g b) d
theorem r219_0_2g (e:TJ219_0_0)(g:TJ219_0_1)(α:Type)(K:KT α)(Kn:SK α)(d:BA)(a b:Int)(c:Rows):u219_0_3 (fun σ=>runM Pg (E219_0g ) sh219 (c219_0_7g e g) (thenK (fun σ=>tidyK td219_7 σ Kn) K) σ) d a b c=S219_0_2g e g α a c b (fun b=>u219_0_3 Kn d a b c) (u219_0_4 (K .ret) false) (fun h i=>u219_0_5 (K (.exit 0)) d a h i c):=by kernel_rfl
theorem r219_0_2 (α:Type)(K:KT α)(Kn:SK α)(d:BA)(a b:Int)(c:Rows):u219_0_3 (fun σ=>runM Pg E219_0 sh219 c219_0_7 (thenK (fun σ=>tidyK td219_7 σ Kn) K) σ) d a b c=S219_0_2 α a c b (fun b=>u219_0_3 Kn d a b c) (u219_0_4 (K .ret) false) (fun e g=>u219_0_5 (K (.exit 0)) d a e g c):=r219_0_2g J219_0_0 J219_0_1 α K Kn d a b c
theorem t219_0_2 (α:Type)(K:KT α):∀ (n:Nat) (d:BA) (a c:Int) (b:Rows),R219_0_2 α a b (u219_0_4 (K .ret) false) (fun e g=>u219_0_5 (K (.exit 0)) d a e g b) n c=u219_0_3 (loopT (runM Pg E219_0 sh219 c219_0_7) td219_7 K n) d a c b:=by
 intro n
 induction n with
 | zero=>intros;rfl
 | succ n ih=>intro d a c b;exact (congrArg (fun kn=>S219_0_2 α a b c kn (u219_0_4 (K .ret) false) (fun e g=>u219_0_5 (K (.exit 0)) d a e g b)) (funext fun c=>ih d a c b)).trans (r219_0_2 α K (loopT (runM Pg E219_0 sh219 c219_0_7) td219_7 K n) d a c b).symm
theorem m219_0_2:∀ (α:Type) (K:KT α),F219_0_2 L219_0_2 α K=p219_0_3.unc fun σ=>loopT (runM Pg E219_0 sh219 c219_0_7) td219_7 K fuel σ:=fun α K=>by funext a b c d;exact t219_0_2 α K fuel a b c d
abbrev Tf219_0:Type 1:=(α:Type)->BA->(Bool->Op α)->Op α
def f219_0g (b:TL219_0_2)(α:Type)(a:BA)(k1:Bool->Op α):Op α:=
 gK (decide (ByteArray.size a<=9223372036854775807)) (b α ((List.length (bytesR a):Nat):Int) (bytesR a)
 (k1 false)
 (fun c d=>cK (!(a.toList == (⟨#[]⟩:BA).toList))
 (k1 (decide (((ByteArray.size a:Nat):Int)<=12)))
 (k1 false)) 0)
def f219_0 (α:Type)(a:BA)(k1:Bool->Op α):Op α:=f219_0g L219_0_2 α a k1
def pa219_0:PT (List DV):=pA [pV false [dS]]
def Fn219_0 (v:Tf219_0)(α:Type)(k:RT α):BA->Op α:=fun a=>v α a (fun b=>ur219_0_0 k b)
def cm219_0g (a:TL219_0_2):MCode:=(.seq (.region r219_2 [] (tO [0])) (.seq (.seq (.region r219_5 [] (tO [0,7,8,9])) (.block 0 (.loop td219_7 [⟨p219_0_3,F219_0_2 a⟩] c219_0_7))) (.seq (.region r219_25 [] (tO [2])) .ret)))
def cm219_0:MCode:=cm219_0g L219_0_2
theorem gm219_0:cm219_0.Good Pg E219_0 sh219:=⟨TT,⟨TT,g219_0_7,m219_0_2,TT⟩,TT,TT⟩
theorem fm219_0g (a:TL219_0_2)(α:Type)(k:RT α):Fn219_0 (f219_0g a) α k=pa219_0.unc fun ds=>fnM Pg (E219_0g ) sh219 (cm219_0g a) rs219 k ds:=by kernel_rfl
theorem fm219_0:∀ (α:Type) (k:RT α),Fn219_0 f219_0 α k=pa219_0.unc fun ds=>fnM Pg E219_0 sh219 cm219_0 rs219 k ds:=fm219_0g L219_0_2
theorem is219:FnIs Pg 219 nt219 tr219 tl219 cm219_0.erase rs219:=⟨Tryz.f219,Tryz.func219,rfl,by kernel_rfl,by kernel_rfl,by kernel_rfl⟩
theorem io219_0:InstOk Pg 219 nt219 ⟨pa219_0,Fn219_0 f219_0⟩:=inst_ok eo219_0 followsTry is219 ⟨⟨sh219,cm219_0,by kernel_rfl,gm219_0,fm219_0⟩⟩
abbrev nt80:Nat:=10
def sh80:SG:=[(4,iS 2),(6,iS 2),(8,iS 2)]
def r80_2:LA:=[oO 1 (.box (.tmp 0)),oO 2 (.alloc (zI 6))]
def r80_4:LA:=[fA 3 4 1,lA 4 2 3,fA 5 6 1,lA 6 2 5,fA 7 8 1,lA 8 2 7,oO 9 (.build (zI 6) [(0,2,(.tmp 4)),(2,2,(.tmp 6)),(4,2,(.tmp 8))]),sD 6 2 9]
def tr80:TG:=[tT 0 [1,2],tT 1 [2]]
def tl80:TG:=[]
def rs80:List AResV:=[.cell 2 true 6]
def pr80_0_0:PT (List RV):=pRs [pR true [rD (dI .i64),rD (dI .i64),rD (dI .i64),rD (dI .i64),rD (dI .i64),rD (dI .i64)]]
def ur80_0_0 {β:Type}(g:List RV->β):I6 β:=pr80_0_0.unc g
def E80_0g:EnvK:=EnvK.of [] noSeq
def E80_0:EnvK:=E80_0g
theorem eo80_0:E80_0.Ok Pg:=EnvK.of_ok noSeq_ok TT
abbrev Tf80_0:Type 1:=(α:Type)->BA->Int->Int->Int->Int->Int->Int->Int->Int->Int->(I6 (Op α))->Op α
def f80_0g (α:Type)(h:BA)(i j l a b c d e g:Int)(k1:I6 (Op α)):Op α:=
 k1 a b c d e g
def f80_0 (α:Type)(a:BA)(b c d e g h i j l:Int)(k1:I6 (Op α)):Op α:=f80_0g α a b c d e g h i j l k1
def pa80_0:PT (List DV):=pA [pV true [dS,(dI .i64),(dI .i64),(dI .i64),(dI .i64),(dI .i64),(dI .i64),(dI .i64),(dI .i64),(dI .i64)]]
def Fn80_0 (v:Tf80_0)(α:Type)(k:RT α):BA->I9 (Op α):=fun a b c d e g h i j l=>v α a b c d e g h i j l (fun m o p q r s=>ur80_0_0 k m o p q r s)
def cm80_0g:MCode:=(.seq (.region r80_2 [] (tO [1,2])) (.seq (.region r80_4 [] (tO [2])) .ret))
def cm80_0:MCode:=cm80_0g
theorem gm80_0:cm80_0.Good Pg E80_0 sh80:=⟨TT,TT,TT⟩
theorem fm80_0g (α:Type)(k:RT α):Fn80_0 (f80_0g ) α k=pa80_0.unc fun ds=>fnM Pg (E80_0g ) sh80 (cm80_0g ) rs80 k ds:=by kernel_rfl
theorem fm80_0:∀ (α:Type) (k:RT α),Fn80_0 f80_0 α k=pa80_0.unc fun ds=>fnM Pg E80_0 sh80 cm80_0 rs80 k ds:=fm80_0g
theorem is80:FnIs Pg 80 nt80 tr80 tl80 cm80_0.erase rs80:=⟨Tryz.f80,Tryz.func80,rfl,by kernel_rfl,by kernel_rfl,by kernel_rfl⟩
theorem io80_0:InstOk Pg 80 nt80 ⟨pa80_0,Fn80_0 f80_0⟩:=inst_ok eo80_0 followsTry is80 ⟨⟨sh80,cm80_0,by kernel_rfl,gm80_0,fm80_0⟩⟩
abbrev nt44:Nat:=15
def sh44:SG:=[]
def r44_2:LA:=[oO 6 (.mv (.const (.bool false)))]
def r44_4:LA:=[oM 7 1,oM 8 0,bT 9 .leq 7 8,oM 10 9,oG 11 (.mv (.tmp 0)) 10 true,oG 12 (.mv (.tmp 2)) 10 true,oG 13 (.bin .leq 3 (.tmp 11) (.tmp 12)) 10 true,oO 14 (.pick (.tmp 10) (.tmp 13) (.const (.bool false))),oM 6 14]
def tr44:TG:=[tT 0 [0,1,2],tT 1 [6]]
def tl44:TG:=[]
def rs44:List AResV:=[.tmp 6]
def pr44_0_0:PT (List RV):=pRs [pR false [rD dB]]
def ur44_0_0 {β:Type}(g:List RV->β):Bool->β:=pr44_0_0.unc g
def E44_0g:EnvK:=EnvK.of [] noSeq
def E44_0:EnvK:=E44_0g
theorem eo44_0:E44_0.Ok Pg:=EnvK.of_ok noSeq_ok TT
abbrev Tf44_0:Type 1:=(α:Type)->Int->Int->Int->(Bool->Op α)->Op α
def f44_0g (α:Type)(a b c:Int)(k1:Bool->Op α):Op α:=
 cK (decide (b<=a))
 (k1 (decide (a<=c)))
 (k1 false)
def f44_0 (α:Type)(a b c:Int)(k1:Bool->Op α):Op α:=f44_0g α a b c k1
def pa44_0:PT (List DV):=pA [vI,vI,vI]
def Fn44_0 (v:Tf44_0)(α:Type)(k:RT α):Int->Int->Int->Op α:=fun a b c=>v α a b c (fun d=>ur44_0_0 k d)
def cm44_0g:MCode:=(.seq (.region r44_2 [] (tO [0,1,2])) (.seq (.region r44_4 [] (tO [6])) .ret))
def cm44_0:MCode:=cm44_0g
theorem gm44_0:cm44_0.Good Pg E44_0 sh44:=⟨TT,TT,TT⟩
theorem fm44_0g (α:Type)(k:RT α):Fn44_0 (f44_0g ) α k=pa44_0.unc fun ds=>fnM Pg (E44_0g ) sh44 (cm44_0g ) rs44 k ds:=by kernel_rfl
theorem fm44_0:∀ (α:Type) (k:RT α),Fn44_0 f44_0 α k=pa44_0.unc fun ds=>fnM Pg E44_0 sh44 cm44_0 rs44 k ds:=fm44_0g
theorem is44:FnIs Pg 44 nt44 tr44 tl44 cm44_0.erase rs44:=⟨Tryz.f44,Tryz.func44,rfl,by kernel_rfl,by kernel_rfl,by kernel_rfl⟩
theorem io44_0:InstOk Pg 44 nt44 ⟨pa44_0,Fn44_0 f44_0⟩:=inst_ok eo44_0 followsTry is44 ⟨⟨sh44,cm44_0,by kernel_rfl,gm44_0,fm44_0⟩⟩
end
end Go.AM.K
