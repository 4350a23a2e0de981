/- Printed by KGen. -/
import Derived.Test.YtamjfkiklngagaaGreatRa
namespace Go.AM.K
open Go.Proofs
set_option maxRecDepth 100000
set_option linter.unusedVariables false
noncomputable section
abbrev nt142:Nat:=19
def sh142:SG:=[(8,iT),(14,iT)]
def tr142:TG:=[tT 0 [1,2,3],tT 1 [6]]
def tl142:TG:=[]
def ac142:ACode:=codeF Pg Tryz.f142 tr142 tl142
def rs142:List AResV:=resF Pg Tryz.f142
def pr142_0_0:PT (List RV):=pRs [pR false [rD dB]]
def ur142_0_0 {β:Type}(g:List RV->β):Bool->β:=pr142_0_0.unc g
def E142_0g (a:Tf20_0):EnvK:=EnvK.of [⟨20,nt20,[⟨pa20_0,Fn20_0 a⟩]⟩] noSeq
def E142_0:EnvK:=E142_0g f20_0
theorem eo142_0:E142_0.Ok Pg:=EnvK.of_ok noSeq_ok ⟨⟨io20_0,TT⟩,TT⟩
abbrev Tf142_0:Type 1:=(α:Type)->Int->Int->Int->Int->(Bool->Op α)->Op α
def f142_0g (a:Tf20_0)(α:Type)(d e b c:Int)(k1:Bool->Op α):Op α:=
 a α d b c
 (fun g=>cK g
 (a α e b c
 (fun h=>k1 h))
 (k1 false))
def f142_0 (α:Type)(a b c d:Int)(k1:Bool->Op α):Op α:=f142_0g f20_0 α a b c d k1
def pa142_0:PT (List DV):=pA [pV true [(dI .i64),(dI .i64)],vI,vI]
def Fn142_0 (v:Tf142_0)(α:Type)(k:RT α):I4 (Op α):=fun a b c d=>v α a b c d (fun e=>ur142_0_0 k e)
def cm142_0g:MCode:=(emb ac142)
def cm142_0:MCode:=cm142_0g
theorem gm142_0:cm142_0.Good Pg E142_0 sh142:=(emb_good ac142)
theorem em142_0:cm142_0.erase=ac142:=(emb_erase _)
theorem fm142_0g (a:Tf20_0)(α:Type)(k:RT α):Fn142_0 (f142_0g a) α k=pa142_0.unc fun ds=>fnM Pg (E142_0g a) sh142 (cm142_0g ) rs142 k ds:=by kernel_rfl
theorem fm142_0:∀ (α:Type) (k:RT α),Fn142_0 f142_0 α k=pa142_0.unc fun ds=>fnM Pg E142_0 sh142 cm142_0 rs142 k ds:=fm142_0g f20_0
theorem is142:FnIs Pg 142 nt142 tr142 tl142 ac142 rs142:=codeF_is Tryz.func142 (by kernel_rfl)
theorem io142_0:InstOk Pg 142 nt142 ⟨pa142_0,Fn142_0 f142_0⟩:=inst_ok eo142_0 followsTry is142 ⟨⟨sh142,cm142_0,em142_0,gm142_0,fm142_0⟩⟩
abbrev nt141:Nat:=11
def sh141:SG:=[(4,iT),(8,iT)]
def tr141:TG:=[tT 0 [1],tT 1 [2]]
def tl141:TG:=[]
def ac141:ACode:=codeF Pg Tryz.f141 tr141 tl141
def rs141:List AResV:=resF Pg Tryz.f141
def pr141_0_0:PT (List RV):=pRs [pR false [rD dB]]
def ur141_0_0 {β:Type}(g:List RV->β):Bool->β:=pr141_0_0.unc g
def E141_0g (a:Tf20_0):EnvK:=EnvK.of [⟨20,nt20,[⟨pa20_0,Fn20_0 a⟩]⟩] noSeq
def E141_0:EnvK:=E141_0g f20_0
theorem eo141_0:E141_0.Ok Pg:=EnvK.of_ok noSeq_ok ⟨⟨io20_0,TT⟩,TT⟩
abbrev Tf141_0:Type 1:=(α:Type)->Int->Int->(Bool->Op α)->Op α
def f141_0g (a:Tf20_0)(α:Type)(b c:Int)(k1:Bool->Op α):Op α:=
 a α b 0 2
 (fun d=>cK d
 (a α c 0 1
 (fun e=>k1 e))
 (k1 false))
def f141_0 (α:Type)(a b:Int)(k1:Bool->Op α):Op α:=f141_0g f20_0 α a b k1
def pa141_0:PT (List DV):=pA [pV true [(dI .i64),(dI .i64),(dI .i64),(dI .i64),(dI .i64),(dI .i64),(dI .i64),(dI .i64),(dI .i64)]]
def Fn141_0 (v:Tf141_0)(α:Type)(k:RT α):I9 (Op α):=fun a b d e g h i j l=>v α a b (fun c=>ur141_0_0 k c)
def cm141_0g:MCode:=(emb ac141)
def cm141_0:MCode:=cm141_0g
theorem gm141_0:cm141_0.Good Pg E141_0 sh141:=(emb_good ac141)
theorem em141_0:cm141_0.erase=ac141:=(emb_erase _)
theorem fm141_0g (a:Tf20_0)(α:Type)(k:RT α):Fn141_0 (f141_0g a) α k=pa141_0.unc fun ds=>fnM Pg (E141_0g a) sh141 (cm141_0g ) rs141 k ds:=by kernel_rfl
theorem fm141_0:∀ (α:Type) (k:RT α),Fn141_0 f141_0 α k=pa141_0.unc fun ds=>fnM Pg E141_0 sh141 cm141_0 rs141 k ds:=fm141_0g f20_0
theorem is141:FnIs Pg 141 nt141 tr141 tl141 ac141 rs141:=codeF_is Tryz.func141 (by kernel_rfl)
theorem io141_0:InstOk Pg 141 nt141 ⟨pa141_0,Fn141_0 f141_0⟩:=inst_ok eo141_0 followsTry is141 ⟨⟨sh141,cm141_0,em141_0,gm141_0,fm141_0⟩⟩
abbrev nt7:Nat:=13
def sh7:SG:=[(5,[.sl]),(8,[.sl]),(12,[.sl,.sl,.int .i64,.int .i64])]
def tr7:TG:=[(0,⟨[1,2],true,[⟨true,2,0,30200,9⟩,⟨true,2,1,30201,5⟩],[]⟩),(1,⟨[1,2],true,[⟨true,2,0,30200,9⟩,⟨true,2,1,30201,5⟩],[]⟩),(2,⟨[2],true,[⟨true,2,0,30200,9⟩,⟨true,2,1,30201,5⟩],[]⟩)]
def tl7:TG:=[]
def ac7:ACode:=codeF Pg Tryz.f7 tr7 tl7
def rs7:List AResV:=resF Pg Tryz.f7
def pr7_0_0:PT (List RV):=pRs [pR true [rO 9,rO 5,rD (dI .i64),rD (dI .i64)]]
def ur7_0_0 {β:Type}(g:List RV->β):Rows->Rows->Int->Int->β:=pr7_0_0.unc g
def E7_0g (a:Tf25_0):EnvK:=EnvK.of [⟨25,nt25,[⟨pa25_0,Fn25_0 a⟩]⟩] noSeq
def E7_0:EnvK:=E7_0g f25_0
theorem eo7_0:E7_0.Ok Pg:=EnvK.of_ok noSeq_ok ⟨⟨io25_0,TT⟩,TT⟩
abbrev Tf7_0:Type 1:=(α:Type)->Rows->Rows->(Rows->Rows->Op α)->Op α
def f7_0g (b:Tf25_0)(α:Type)(a c:Rows)(k1:Rows->Rows->Op α):Op α:=
 gK (apOk 9 72 ([]:Rows) a) (b α c
 (fun d=>k1 (([]:Rows)++a) d))
def f7_0 (α:Type)(a b:Rows)(k1:Rows->Rows->Op α):Op α:=f7_0g f25_0 α a b k1
def pa7_0:PT (List DV):=pA [pV true [dL,dL,(dI .i64),(dI .i64)]]
def Fn7_0 (v:Tf7_0)(α:Type)(k:RT α):Rows->Rows->Int->Int->Op α:=fun a b c d=>v α a b (fun e g=>ur7_0_0 k e g c d)
def cm7_0g:MCode:=(emb ac7)
def cm7_0:MCode:=cm7_0g
theorem gm7_0:cm7_0.Good Pg E7_0 sh7:=(emb_good ac7)
theorem em7_0:cm7_0.erase=ac7:=(emb_erase _)
theorem fm7_0g (a:Tf25_0)(α:Type)(k:RT α):Fn7_0 (f7_0g a) α k=pa7_0.unc fun ds=>fnM Pg (E7_0g a) sh7 (cm7_0g ) rs7 k ds:=by kernel_rfl
theorem fm7_0:∀ (α:Type) (k:RT α),Fn7_0 f7_0 α k=pa7_0.unc fun ds=>fnM Pg E7_0 sh7 cm7_0 rs7 k ds:=fm7_0g f25_0
theorem is7:FnIs Pg 7 nt7 tr7 tl7 ac7 rs7:=codeF_is Tryz.func7 (by kernel_rfl)
theorem io7_0:InstOk Pg 7 nt7 ⟨pa7_0,Fn7_0 f7_0⟩:=inst_ok eo7_0 followsTry is7 ⟨⟨sh7,cm7_0,em7_0,gm7_0,fm7_0⟩⟩
abbrev nt51:Nat:=44
def sh51:SG:=[(9,iS 4),(10,iS 4),(15,iS 2),(18,iS 2),(20,iS 2),(25,iS 8),(27,iS 2),(30,iS 2),(33,iS 2),(35,iS 2),(40,iS 8),(42,iS 2)]
def tr51:TG:=[tT 0 [1,2,4],tT 1 [1,2,4,6],tT 2 [2,4,6,13],tT 3 [2,4,6,7],tT 4 [2,4,6],tT 5 [4,5],tT 6 [2,4,6,8],tT 7 [2,4,6],tT 8 [4,5]]
def tl51:TG:=[]
def ac51:ACode:=codeF Pg Tryz.f51 tr51 tl51
def rs51:List AResV:=resF Pg Tryz.f51
def pr51_0_0:PT (List RV):=pRs [pR true [rD (dI .i64),rD (dI .i64),rD (dI .i64),rD (dI .i64),rD (dI .i64),rD (dI .i64),rD (dI .i64),rD (dI .i64)],pR false [rD dB]]
def ur51_0_0 {β:Type}(g:List RV->β):Int->Int->Int->Int->Int->Int->Int->Int->Bool->β:=pr51_0_0.unc g
def E51_0g (a:Tf77_0)(b:Tf76_0):EnvK:=EnvK.of [⟨77,nt77,[⟨pa77_0,Fn77_0 a⟩]⟩,⟨76,nt76,[⟨pa76_0,Fn76_0 b⟩]⟩] noSeq
def E51_0:EnvK:=E51_0g f77_0 f76_0
theorem eo51_0:E51_0.Ok Pg:=EnvK.of_ok noSeq_ok ⟨⟨io77_0,TT⟩,⟨io76_0,TT⟩,TT⟩
abbrev Tf51_0:Type 1:=(α:Type)->Int->Int->Int->Int->Int->(I4 (Bool->Op α))->Op α
def f51_0g (e:Tf76_0)(g:Tf77_0)(α:Type)(a b c d h:Int)(k1:I4 (Bool->Op α)):Op α:=
 cK (h == 1)
 (g α a b
 (fun i j=>e α a b
 (fun l=>k1 i d j c l)))
 (g α c d
 (fun m o=>e α c d
 (fun p=>k1 b m a o p)))
def f51_0 (α:Type)(a b c d e:Int)(k1:I4 (Bool->Op α)):Op α:=f51_0g f76_0 f77_0 α a b c d e k1
def pa51_0:PT (List DV):=pA [pV true [(dI .i64),(dI .i64),(dI .i64),(dI .i64)],vI]
def Fn51_0 (v:Tf51_0)(α:Type)(k:RT α):I5 (Op α):=fun a b c d e=>v α a b c d e (fun g h i j l=>ur51_0_0 k a g c h i b j d l)
def cm51_0g:MCode:=(emb ac51)
def cm51_0:MCode:=cm51_0g
theorem gm51_0:cm51_0.Good Pg E51_0 sh51:=(emb_good ac51)
theorem em51_0:cm51_0.erase=ac51:=(emb_erase _)
theorem fm51_0g (a:Tf77_0)(b:Tf76_0)(α:Type)(k:RT α):Fn51_0 (f51_0g b a) α k=pa51_0.unc fun ds=>fnM Pg (E51_0g a b) sh51 (cm51_0g ) rs51 k ds:=by kernel_rfl
theorem fm51_0:∀ (α:Type) (k:RT α),Fn51_0 f51_0 α k=pa51_0.unc fun ds=>fnM Pg E51_0 sh51 cm51_0 rs51 k ds:=fm51_0g f77_0 f76_0
theorem is51:FnIs Pg 51 nt51 tr51 tl51 ac51 rs51:=codeF_is Tryz.func51 (by kernel_rfl)
theorem io51_0:InstOk Pg 51 nt51 ⟨pa51_0,Fn51_0 f51_0⟩:=inst_ok eo51_0 followsTry is51 ⟨⟨sh51,cm51_0,em51_0,gm51_0,fm51_0⟩⟩
abbrev nt146:Nat:=32
def sh146:SG:=[]
def tr146:TG:=[tT 0 [0],tT 1 [3],tT 2 [3,4],tT 3 [4,5],tT 4 [4,6],tT 5 [6,23,24],tT 6 [6,23,24,25],tT 7 [6,23,24],tT 8 [6,23,24],tT 9 [2]]
def tl146:TG:=[tT 6 [6,23,24]]
def ac146:ACode:=codeF Pg Tryz.f146 tr146 tl146
def rs146:List AResV:=resF Pg Tryz.f146
def td146_15:OT:=tdC (MCode.sub [1,1,1,1,1,0,1,0] (emb ac146))
def p146_0_0:PT St:=pS [sI 6,sI 23,sI 24] []
def u146_0_0 {β:Type}(g:St->β):Int->Int->Int->β:=p146_0_0.unc g
def p146_0_1:PT St:=pS [sI 6,sI 23,sI 24,sY 25 dB] []
def u146_0_1 {β:Type}(g:St->β):Int->Int->Int->Bool->β:=p146_0_1.unc g
def pr146_0_0:PT (List RV):=pRs [wI]
def ur146_0_0 {β:Type}(g:List RV->β):Int->β:=pr146_0_0.unc g
def E146_0g (a:Tf156_0)(b:Tf69_0):EnvK:=EnvK.of [⟨156,nt156,[⟨pa156_0,Fn156_0 a⟩]⟩,⟨69,nt69,[⟨pa69_0,Fn69_0 b⟩]⟩] noSeq
def E146_0:EnvK:=E146_0g f156_0 f69_0
theorem eo146_0:E146_0.Ok Pg:=EnvK.of_ok noSeq_ok ⟨⟨io156_0,TT⟩,⟨io69_0,TT⟩,TT⟩
def c146_0_15g:MCode:=MCode.sub [1,1,1,1,1,0,1,0,0] (emb ac146)
def c146_0_15:MCode:=c146_0_15g
def S146_0_0g (d:Tf69_0)(α:Type)(c b a:Int)(kn:Int->Int->Op α)(k1:Int->Int->Bool->Op α):Op α:=
 cK (decide (a < c))
 (d α (w64 (b*b)) 1073741824
 (fun e=>kn e (w64 (a+1))))
 (k1 b a (decide (a < c)))
def S146_0_0 (α:Type)(a b c:Int)(kn:Int->Int->Op α)(k1:Int->Int->Bool->Op α):Op α:=S146_0_0g f69_0 α a b c kn k1
def R146_0_0 (α:Type)(a:Int)(k1:Int->Int->Bool->Op α):Nat->Int->Int->Op α
 | 0,_,_=>none
 | n+1,b,c=>S146_0_0 α a b c (R146_0_0 α a k1 n) k1
def L146_0_0 (α:Type)(a:Int)(k1:Int->Int->Bool->Op α)(b c:Int):Op α:=R146_0_0 α a k1 fuel b c
abbrev TL146_0_0:Type 1:=(α:Type)->Int->(Int->Int->Bool->Op α)->Int->Int->Op α
def F146_0_0 (v:TL146_0_0)(α:Type)(K:KT α):Int->Int->Int->Op α:=fun b a c=>v α a (fun d e g=>u146_0_1 (K (.exit 0)) d a e g) b c
theorem r146_0_0g (e:Tf156_0)(d:Tf69_0)(α:Type)(K:KT α)(Kn:SK α)(a b c:Int):u146_0_0 (fun σ=>runM Pg (E146_0g e d) sh146 (c146_0_15g ) (thenK (fun σ=>tidyK td146_15 σ Kn) K) σ) a b c=S146_0_0g d α b a c (fun a c=>u146_0_0 Kn a b c) (fun g h i=>u146_0_1 (K (.exit 0)) g b h i):=by kernel_rfl
theorem r146_0_0 (α:Type)(K:KT α)(Kn:SK α)(a b c:Int):u146_0_0 (fun σ=>runM Pg E146_0 sh146 c146_0_15 (thenK (fun σ=>tidyK td146_15 σ Kn) K) σ) a b c=S146_0_0 α b a c (fun a c=>u146_0_0 Kn a b c) (fun d e g=>u146_0_1 (K (.exit 0)) d b e g):=r146_0_0g f156_0 f69_0 α K Kn a b c
theorem t146_0_0 (α:Type)(K:KT α):∀ (n:Nat) (b a c:Int),R146_0_0 α a (fun d e g=>u146_0_1 (K (.exit 0)) d a e g) n b c=u146_0_0 (loopT (runM Pg E146_0 sh146 c146_0_15) td146_15 K n) b a c:=by
 intro n
 induction n with
 | zero=>intros;rfl
 | succ n ih=>intro b a c;exact (congrArg (fun kn=>S146_0_0 α a b c kn (fun d e g=>u146_0_1 (K (.exit 0)) d a e g)) (funext fun b=>funext fun c=>ih b a c)).trans (r146_0_0 α K (loopT (runM Pg E146_0 sh146 c146_0_15) td146_15 K n) b a c).symm
theorem m146_0_0:∀ (α:Type) (K:KT α),F146_0_0 L146_0_0 α K=p146_0_0.unc fun σ=>loopT (runM Pg E146_0 sh146 c146_0_15) td146_15 K fuel σ:=fun α K=>by funext a b c;exact t146_0_0 α K fuel a b c
abbrev Tf146_0:Type 1:=(α:Type)->Int->(Int->Op α)->Op α
def f146_0g (c:TL146_0_0)(d:Tf156_0)(e:Tf69_0)(α:Type)(b:Int)(k1:Int->Op α):Op α:=
 d α (w64 (Int.tdiv (w64 ((w64 (256*b))*62831853)) 10000000))
 (fun a=>gK (decide (0<=a)) (e α (w64 ((Int.fdiv (w64 (Int.tdiv (w64 ((w64 (256*b))*62831853)) 10000000)) (2 ^ (min (Int.toNat a) 64)))*(Int.fdiv (w64 (Int.tdiv (w64 ((w64 (256*b))*62831853)) 10000000)) (2 ^ (min (Int.toNat a) 64))))) 2147483648
 (fun g=>c α a
 (fun h i j=>k1 h) (w64 ((w64 (1073741824 - (Int.fdiv (w64 (Int.tdiv (w64 ((w64 (256*b))*62831853)) 10000000)) (2 ^ (min (Int.toNat a) 64)))))+g)) 0)))
def f146_0 (α:Type)(a:Int)(k1:Int->Op α):Op α:=f146_0g L146_0_0 f156_0 f69_0 α a k1
def pa146_0:PT (List DV):=pA [vI]
def Fn146_0 (v:Tf146_0)(α:Type)(k:RT α):Int->Op α:=fun a=>v α a (fun b=>ur146_0_0 k b)
def cm146_0g (a:TL146_0_0):MCode:=(MCode.put (.m [⟨p146_0_0,F146_0_0 a⟩]) [1,1,1,1,1,0,1,0] (emb ac146))
def cm146_0:MCode:=cm146_0g L146_0_0
theorem gm146_0:cm146_0.Good Pg E146_0 sh146:=(put_loop (td:=td146_15) (by kernel_rfl) (emb_good ac146) ⟨m146_0_0,TT⟩)
theorem em146_0:cm146_0.erase=ac146:=((put_erase _ _).trans (emb_erase _))
theorem fm146_0g (a:Tf156_0)(b:Tf69_0)(c:TL146_0_0)(α:Type)(k:RT α):Fn146_0 (f146_0g c a b) α k=pa146_0.unc fun ds=>fnM Pg (E146_0g a b) sh146 (cm146_0g c) rs146 k ds:=by kernel_rfl
theorem fm146_0:∀ (α:Type) (k:RT α),Fn146_0 f146_0 α k=pa146_0.unc fun ds=>fnM Pg E146_0 sh146 cm146_0 rs146 k ds:=fm146_0g f156_0 f69_0 L146_0_0
theorem is146:FnIs Pg 146 nt146 tr146 tl146 ac146 rs146:=codeF_is Tryz.func146 (by kernel_rfl)
theorem io146_0:InstOk Pg 146 nt146 ⟨pa146_0,Fn146_0 f146_0⟩:=inst_ok eo146_0 followsTry is146 ⟨⟨sh146,cm146_0,em146_0,gm146_0,fm146_0⟩⟩
abbrev nt145:Nat:=40
def sh145:SG:=[]
def tr145:TG:=[tT 0 [0],tT 1 [3],tT 2 [3,4],tT 3 [4,5],tT 4 [4,6],tT 5 [6,31,32],tT 6 [6,31,32,33],tT 7 [6,31,32],tT 8 [6,31,32],tT 9 [2]]
def tl145:TG:=[tT 6 [6,31,32]]
def ac145:ACode:=codeF Pg Tryz.f145 tr145 tl145
def rs145:List AResV:=resF Pg Tryz.f145
def td145_15:OT:=tdC (MCode.sub [1,1,1,1,1,0,1,0] (emb ac145))
def p145_0_0:PT St:=pS [sI 6,sI 31,sI 32] []
def u145_0_0 {β:Type}(g:St->β):Int->Int->Int->β:=p145_0_0.unc g
def p145_0_1:PT St:=pS [sI 6,sI 31,sI 32,sY 33 dB] []
def u145_0_1 {β:Type}(g:St->β):Int->Int->Int->Bool->β:=p145_0_1.unc g
def pr145_0_0:PT (List RV):=pRs [wI]
def ur145_0_0 {β:Type}(g:List RV->β):Int->β:=pr145_0_0.unc g
def E145_0g (a:Tf69_0)(b:Tf156_0):EnvK:=EnvK.of [⟨69,nt69,[⟨pa69_0,Fn69_0 a⟩]⟩,⟨156,nt156,[⟨pa156_0,Fn156_0 b⟩]⟩] noSeq
def E145_0:EnvK:=E145_0g f69_0 f156_0
theorem eo145_0:E145_0.Ok Pg:=EnvK.of_ok noSeq_ok ⟨⟨io69_0,TT⟩,⟨io156_0,TT⟩,TT⟩
def c145_0_15g:MCode:=MCode.sub [1,1,1,1,1,0,1,0,0] (emb ac145)
def c145_0_15:MCode:=c145_0_15g
def S145_0_0g (α:Type)(c b a:Int)(kn:Int->Int->Op α)(k1:Int->Int->Bool->Op α):Op α:=
 cK (decide (a < c))
 (kn (w64 (Int.tdiv (w64 (b*b)) 1073741824)) (w64 (a+1)))
 (k1 b a (decide (a < c)))
def S145_0_0 (α:Type)(a b c:Int)(kn:Int->Int->Op α)(k1:Int->Int->Bool->Op α):Op α:=S145_0_0g α a b c kn k1
def R145_0_0 (α:Type)(a:Int)(k1:Int->Int->Bool->Op α):Nat->Int->Int->Op α
 | 0,_,_=>none
 | n+1,b,c=>S145_0_0 α a b c (R145_0_0 α a k1 n) k1
def L145_0_0 (α:Type)(a:Int)(k1:Int->Int->Bool->Op α)(b c:Int):Op α:=R145_0_0 α a k1 fuel b c
abbrev TL145_0_0:Type 1:=(α:Type)->Int->(Int->Int->Bool->Op α)->Int->Int->Op α
def F145_0_0 (v:TL145_0_0)(α:Type)(K:KT α):Int->Int->Int->Op α:=fun b a c=>v α a (fun d e g=>u145_0_1 (K (.exit 0)) d a e g) b c
theorem r145_0_0g (d:Tf69_0)(e:Tf156_0)(α:Type)(K:KT α)(Kn:SK α)(a b c:Int):u145_0_0 (fun σ=>runM Pg (E145_0g d e) sh145 (c145_0_15g ) (thenK (fun σ=>tidyK td145_15 σ Kn) K) σ) a b c=S145_0_0g α b a c (fun a c=>u145_0_0 Kn a b c) (fun g h i=>u145_0_1 (K (.exit 0)) g b h i):=by kernel_rfl
theorem r145_0_0 (α:Type)(K:KT α)(Kn:SK α)(a b c:Int):u145_0_0 (fun σ=>runM Pg E145_0 sh145 c145_0_15 (thenK (fun σ=>tidyK td145_15 σ Kn) K) σ) a b c=S145_0_0 α b a c (fun a c=>u145_0_0 Kn a b c) (fun d e g=>u145_0_1 (K (.exit 0)) d b e g):=r145_0_0g f69_0 f156_0 α K Kn a b c
theorem t145_0_0 (α:Type)(K:KT α):∀ (n:Nat) (b a c:Int),R145_0_0 α a (fun d e g=>u145_0_1 (K (.exit 0)) d a e g) n b c=u145_0_0 (loopT (runM Pg E145_0 sh145 c145_0_15) td145_15 K n) b a c:=by
 intro n
 induction n with
 | zero=>intros;rfl
 | succ n ih=>intro b a c;exact (congrArg (fun kn=>S145_0_0 α a b c kn (fun d e g=>u145_0_1 (K (.exit 0)) d a e g)) (funext fun b=>funext fun c=>ih b a c)).trans (r145_0_0 α K (loopT (runM Pg E145_0 sh145 c145_0_15) td145_15 K n) b a c).symm
theorem m145_0_0:∀ (α:Type) (K:KT α),F145_0_0 L145_0_0 α K=p145_0_0.unc fun σ=>loopT (runM Pg E145_0 sh145 c145_0_15) td145_15 K fuel σ:=fun α K=>by funext a b c;exact t145_0_0 α K fuel a b c
abbrev Tf145_0:Type 1:=(α:Type)->Int->(Int->Op α)->Op α
def f145_0g (e:TL145_0_0)(g:Tf156_0)(b:Tf69_0)(α:Type)(h:Int)(k1:Int->Op α):Op α:=
 b α (w64 ((w64 (256*h))*62831854)) 10000000
 (fun d=>g α d
 (fun c=>gK (decide (0<=c)) (b α d (w64 (1*2 ^ (min (Int.toNat c) 64)))
 (fun a=>b α (w64 ((w64 (a*a))*a)) 6917529027641081856
 (fun i=>e α c
 (fun j l m=>k1 j) (w64 ((w64 ((w64 (1073741824 - a))+(w64 (Int.tdiv (w64 (a*a)) 2147483648)))) - i)) 0)))))
def f145_0 (α:Type)(a:Int)(k1:Int->Op α):Op α:=f145_0g L145_0_0 f156_0 f69_0 α a k1
def pa145_0:PT (List DV):=pA [vI]
def Fn145_0 (v:Tf145_0)(α:Type)(k:RT α):Int->Op α:=fun a=>v α a (fun b=>ur145_0_0 k b)
def cm145_0g (a:TL145_0_0):MCode:=(MCode.put (.m [⟨p145_0_0,F145_0_0 a⟩]) [1,1,1,1,1,0,1,0] (emb ac145))
def cm145_0:MCode:=cm145_0g L145_0_0
theorem gm145_0:cm145_0.Good Pg E145_0 sh145:=(put_loop (td:=td145_15) (by kernel_rfl) (emb_good ac145) ⟨m145_0_0,TT⟩)
theorem em145_0:cm145_0.erase=ac145:=((put_erase _ _).trans (emb_erase _))
theorem fm145_0g (a:Tf69_0)(b:Tf156_0)(c:TL145_0_0)(α:Type)(k:RT α):Fn145_0 (f145_0g c b a) α k=pa145_0.unc fun ds=>fnM Pg (E145_0g a b) sh145 (cm145_0g c) rs145 k ds:=by kernel_rfl
theorem fm145_0:∀ (α:Type) (k:RT α),Fn145_0 f145_0 α k=pa145_0.unc fun ds=>fnM Pg E145_0 sh145 cm145_0 rs145 k ds:=fm145_0g f69_0 f156_0 L145_0_0
theorem is145:FnIs Pg 145 nt145 tr145 tl145 ac145 rs145:=codeF_is Tryz.func145 (by kernel_rfl)
theorem io145_0:InstOk Pg 145 nt145 ⟨pa145_0,Fn145_0 f145_0⟩:=inst_ok eo145_0 followsTry is145 ⟨⟨sh145,cm145_0,em145_0,gm145_0,fm145_0⟩⟩
abbrev nt162:Nat:=24
def sh162:SG:=[(7,iS 2),(8,iS 2),(10,iS 2),(14,iT),(19,iT)]
def tr162:TG:=[tT 0 [2,3,4],tT 1 [4,5],tT 2 [4,5,6],tT 3 [4]]
def tl162:TG:=[]
def ac162:ACode:=codeF Pg Tryz.f162 tr162 tl162
def rs162:List AResV:=resF Pg Tryz.f162
def pr162_0_0:PT (List RV):=pRs [pR true [rD (dI .i64),rD (dI .i64)]]
def ur162_0_0 {β:Type}(g:List RV->β):Int->Int->β:=pr162_0_0.unc g
def E162_0g (a:Tf120_0)(b:Tf127_0)(c:Tf103_0):EnvK:=EnvK.of [⟨120,nt120,[⟨pa120_0,Fn120_0 a⟩]⟩,⟨127,nt127,[⟨pa127_0,Fn127_0 b⟩]⟩,⟨103,nt103,[⟨pa103_0,Fn103_0 c⟩]⟩] noSeq
def E162_0:EnvK:=E162_0g f120_0 f127_0 f103_0
theorem eo162_0:E162_0.Ok Pg:=EnvK.of_ok noSeq_ok ⟨⟨io120_0,TT⟩,⟨io127_0,TT⟩,⟨io103_0,TT⟩,TT⟩
abbrev Tf162_0:Type 1:=(α:Type)->Int->Int->Int->Int->(Int->Int->Op α)->Op α
def f162_0g (d:Tf103_0)(e:Tf120_0)(g:Tf127_0)(α:Type)(h i j l:Int)(k1:Int->Int->Op α):Op α:=
 e α h i j l
 (fun b c=>g α b c
 (fun m=>d α m
 (fun a=>gK (a != 0) (gK (a != 0) (k1 (w64 (Int.tdiv (w64 (b*67108864)) a)) (w64 (Int.tdiv (w64 (c*67108864)) a)))))))
def f162_0 (α:Type)(a b c d:Int)(k1:Int->Int->Op α):Op α:=f162_0g f103_0 f120_0 f127_0 α a b c d k1
def pa162_0:PT (List DV):=pA [pV true [(dI .i64),(dI .i64)],pV true [(dI .i64),(dI .i64)]]
def Fn162_0 (v:Tf162_0)(α:Type)(k:RT α):I4 (Op α):=fun a b c d=>v α a b c d (fun e g=>ur162_0_0 k e g)
def cm162_0g:MCode:=(emb ac162)
def cm162_0:MCode:=cm162_0g
theorem gm162_0:cm162_0.Good Pg E162_0 sh162:=(emb_good ac162)
theorem em162_0:cm162_0.erase=ac162:=(emb_erase _)
theorem fm162_0g (a:Tf120_0)(b:Tf127_0)(c:Tf103_0)(α:Type)(k:RT α):Fn162_0 (f162_0g c a b) α k=pa162_0.unc fun ds=>fnM Pg (E162_0g a b c) sh162 (cm162_0g ) rs162 k ds:=by kernel_rfl
theorem fm162_0:∀ (α:Type) (k:RT α),Fn162_0 f162_0 α k=pa162_0.unc fun ds=>fnM Pg E162_0 sh162 cm162_0 rs162 k ds:=fm162_0g f120_0 f127_0 f103_0
theorem is162:FnIs Pg 162 nt162 tr162 tl162 ac162 rs162:=codeF_is Tryz.func162 (by kernel_rfl)
theorem io162_0:InstOk Pg 162 nt162 ⟨pa162_0,Fn162_0 f162_0⟩:=inst_ok eo162_0 followsTry is162 ⟨⟨sh162,cm162_0,em162_0,gm162_0,fm162_0⟩⟩
abbrev nt137:Nat:=135
def sh137:SG:=[]
def tr137:TG:=[tT 0 [0,1,2],tT 1 [0,1,2,20],tT 2 [0,1,2],tT 3 [0,1,2,24],tT 4 [0,1,2],tT 5 [0,1,2,27],tT 6 [6,7],tT 7 [0,1,2,8],tT 8 [0,1,2,8],tT 9 [0,1,2,8,9],tT 10 [0,1,2,8,9,10],tT 11 [1,2,8,9,10,11],tT 12 [2,8,9,10,11,12],tT 13 [2,8,9,10,11,12,13],tT 14 [2,8,9,10,11,13,14],tT 15 [2,8,9,10,11,13,14,15],tT 16 [2,8,9,10,11,13,14,15,16],tT 17 [2,8,9,10,11,13,14,15,16,78],tT 18 [2,8,9,10,11,13,14,15,16],tT 19 [2,8,9,10,11,13,14,15,16],tT 20 [2,8,9,10,11,13,14,15,16,85],tT 21 [2,8,9,10,14,15,17],tT 22 [2,8,9,10,14,15,17,18],tT 23 [2,8,9,10,14,15,16,17,18],tT 24 [2,8,9,10,14,15,16,17,18,113],tT 25 [2,8,9,10,14,15,16,17,18],tT 26 [2,8,9,10,14,15,16,17,18],tT 27 [2,8,9,10,14,15,16,17,18,120],tT 28 [6,7]]
def tl137:TG:=[tT 17 [2,8,9,10,11,13,14,15,16],tT 24 [2,8,9,10,14,15,16,17,18]]
def ac137:ACode:=codeF Pg Tryz.f137 tr137 tl137
def rs137:List AResV:=resF Pg Tryz.f137
def td137_41:OT:=tdC (MCode.sub [1,1,1,1,1,1,1,1,1,1,1,1,1,1,0,0] (emb ac137))
def td137_62:OT:=tdC (MCode.sub [1,1,1,1,1,1,1,1,1,1,1,1,1,1,1,1,1,1,0,0] (emb ac137))
def p137_0_0:PT St:=pS [sY 2 (dI .u64),sY 8 (dI .u64),sY 9 (dI .u64),sY 10 (dI .u64),sY 11 (dI .u64),sY 13 (dI .u64),sY 14 (dI .u64),sY 15 (dI .u64),sY 16 (dI .u64)] []
def u137_0_0 {β:Type}(g:St->β):I9 β:=p137_0_0.unc g
def p137_0_1:PT St:=pS [sY 2 (dI .u64),sY 8 (dI .u64),sY 9 (dI .u64),sY 10 (dI .u64),sY 11 (dI .u64),sY 13 (dI .u64),sY 14 (dI .u64),sY 15 (dI .u64),sY 16 (dI .u64),sY 78 dB] []
def u137_0_1 {β:Type}(g:St->β):Int->Int->Int->Int->Int->Int->Int->Int->Int->Bool->β:=p137_0_1.unc g
def p137_0_2:PT St:=pS [sY 2 (dI .u64),sY 8 (dI .u64),sY 9 (dI .u64),sY 10 (dI .u64),sY 11 (dI .u64),sY 13 (dI .u64),sY 14 (dI .u64),sY 15 (dI .u64),sY 16 (dI .u64),sY 85 dB] []
def u137_0_2 {β:Type}(g:St->β):Int->Int->Int->Int->Int->Int->Int->Int->Int->Bool->β:=p137_0_2.unc g
def p137_0_3:PT St:=pS [sY 2 (dI .u64),sY 8 (dI .u64),sY 9 (dI .u64),sY 10 (dI .u64),sY 14 (dI .u64),sY 15 (dI .u64),sY 16 (dI .u64),sY 17 (dI .u64),sY 18 (dI .u64)] []
def u137_0_3 {β:Type}(g:St->β):I9 β:=p137_0_3.unc g
def p137_0_4:PT St:=pS [sY 2 (dI .u64),sY 8 (dI .u64),sY 9 (dI .u64),sY 10 (dI .u64),sY 14 (dI .u64),sY 15 (dI .u64),sY 16 (dI .u64),sY 17 (dI .u64),sY 18 (dI .u64),sY 113 dB] []
def u137_0_4 {β:Type}(g:St->β):Int->Int->Int->Int->Int->Int->Int->Int->Int->Bool->β:=p137_0_4.unc g
def p137_0_5:PT St:=pS [sY 2 (dI .u64),sY 8 (dI .u64),sY 9 (dI .u64),sY 10 (dI .u64),sY 14 (dI .u64),sY 15 (dI .u64),sY 16 (dI .u64),sY 17 (dI .u64),sY 18 (dI .u64),sY 120 dB] []
def u137_0_5 {β:Type}(g:St->β):Int->Int->Int->Int->Int->Int->Int->Int->Int->Bool->β:=p137_0_5.unc g
def pr137_0_0:PT (List RV):=pRs [pR false [rD (dI .u64)],pR false [rD (dI .u64)]]
def ur137_0_0 {β:Type}(g:List RV->β):Int->Int->β:=pr137_0_0.unc g
def E137_0g (a:Tf150_0):EnvK:=EnvK.of [⟨150,nt150,[⟨pa150_0,Fn150_0 a⟩]⟩] noSeq
def E137_0:EnvK:=E137_0g f150_0
theorem eo137_0:E137_0.Ok Pg:=EnvK.of_ok noSeq_ok ⟨⟨io150_0,TT⟩,TT⟩
def c137_0_63g:MCode:=MCode.sub [1,1,1,1,1,1,1,1,1,1,1,1,1,1,1,1,1,1,0,0,0,0] (emb ac137)
def c137_0_63:MCode:=c137_0_63g
abbrev TJ137_0_3:Type 1:=(α:Type)->Int->Int->Int->Int->(Bool->Op α)->(Bool->Op α)->Op α
def J137_0_3g (α:Type)(b c d a:Int)(k1:Bool->Op α)(k2:Bool->Op α):Op α:=
 cK (decide (4294967296<=a))
 (k1 true)
 (cK (decide ((IntKind.wrap .u64 ((IntKind.wrap .u64 (4294967296*d))+c)) < (IntKind.wrap .u64 (a*b))))
 (k1 (decide ((IntKind.wrap .u64 ((IntKind.wrap .u64 (4294967296*d))+c)) < (IntKind.wrap .u64 (a*b)))))
 (k2 (decide ((IntKind.wrap .u64 ((IntKind.wrap .u64 (4294967296*d))+c)) < (IntKind.wrap .u64 (a*b))))))
def J137_0_3 (α:Type)(a b c d:Int)(k1:Bool->Op α)(k2:Bool->Op α):Op α:=J137_0_3g α a b c d k1 k2
def F137_0_3 (v:TJ137_0_3)(α:Type)(K:KT α):I9 (Op α):=fun g h i a b j c l d=>v α a b c d (fun e=>u137_0_4 (K .normal) g h i a b j c l d e) (fun e=>u137_0_4 (K (.exit 2)) g h i a b j c l d e)
theorem m137_0_3g (a:Tf150_0)(α:Type)(K:KT α):F137_0_3 (J137_0_3g ) α K=p137_0_3.unc fun σ=>runM Pg (E137_0g a) sh137 (c137_0_63g ) K σ:=by kernel_rfl
theorem m137_0_3:∀ (α:Type) (K:KT α),F137_0_3 J137_0_3 α K=p137_0_3.unc fun σ=>runM Pg E137_0 sh137 c137_0_63 K σ:=m137_0_3g f150_0
def c137_0_62g (a:TJ137_0_3):MCode:=MCode.sub [1,1,1,1,1,1,1,1,1,1,1,1,1,1,1,1,1,1,0,0,0] (MCode.put (.m [⟨p137_0_3,F137_0_3 a⟩]) [1,1,1,1,1,1,1,1,1,1,1,1,1,1,1,1,1,1,0,0,0] (emb ac137))
def c137_0_62:MCode:=c137_0_62g J137_0_3
def S137_0_4g (d:TJ137_0_3)(α:Type)(b e g a c:Int)(kn:Int->Int->Op α)(k1:Int->Int->Bool->Op α)(k2:Int->Int->Bool->Op α):Op α:=
 d α e g a c
 (fun i=>cK (decide (4294967296<=(IntKind.wrap .u64 (a+b))))
 (k1 (IntKind.wrap .u64 (a+b)) (IntKind.wrap .u64 (c - 1)) (decide (4294967296<=(IntKind.wrap .u64 (a+b)))))
 (kn (IntKind.wrap .u64 (a+b)) (IntKind.wrap .u64 (c - 1))))
 (fun h=>k2 a c h)
def S137_0_4 (α:Type)(a b c d e:Int)(kn:Int->Int->Op α)(k1:Int->Int->Bool->Op α)(k2:Int->Int->Bool->Op α):Op α:=S137_0_4g J137_0_3 α a b c d e kn k1 k2
def R137_0_4 (α:Type)(a b c:Int)(k1:Int->Int->Bool->Op α)(k2:Int->Int->Bool->Op α):Nat->Int->Int->Op α
 | 0,_,_=>none
 | n+1,d,e=>S137_0_4 α a b c d e (R137_0_4 α a b c k1 k2 n) k1 k2
def L137_0_4 (α:Type)(a b c:Int)(k1:Int->Int->Bool->Op α)(k2:Int->Int->Bool->Op α)(d e:Int):Op α:=R137_0_4 α a b c k1 k2 fuel d e
abbrev TL137_0_4:Type 1:=(α:Type)->Int->Int->Int->(Int->Int->Bool->Op α)->(Int->Int->Bool->Op α)->Int->Int->Op α
def F137_0_4 (v:TL137_0_4)(α:Type)(K:KT α):I9 (Op α):=fun h i a b c j m l o=>v α a b c (fun d e g=>u137_0_5 (K (.exit 2)) h i a b c j d l e g) (fun d e g=>u137_0_4 (K (.exit 2)) h i a b c j d l e g) m o
theorem r137_0_4g (q:Tf150_0)(p:TJ137_0_3)(α:Type)(K:KT α)(Kn:SK α)(d e a b c g h i j:Int):u137_0_3 (fun σ=>runM Pg (E137_0g q) sh137 (c137_0_62g p) (thenK (fun σ=>tidyK td137_62 σ Kn) K) σ) d e a b c g h i j=S137_0_4g p α a b c h j (fun h j=>u137_0_3 Kn d e a b c g h i j) (fun l m o=>u137_0_5 (K (.exit 2)) d e a b c g l i m o) (fun l m o=>u137_0_4 (K (.exit 2)) d e a b c g l i m o):=by kernel_rfl
theorem r137_0_4 (α:Type)(K:KT α)(Kn:SK α)(d e a b c g h i j:Int):u137_0_3 (fun σ=>runM Pg E137_0 sh137 c137_0_62 (thenK (fun σ=>tidyK td137_62 σ Kn) K) σ) d e a b c g h i j=S137_0_4 α a b c h j (fun h j=>u137_0_3 Kn d e a b c g h i j) (fun l m o=>u137_0_5 (K (.exit 2)) d e a b c g l i m o) (fun l m o=>u137_0_4 (K (.exit 2)) d e a b c g l i m o):=r137_0_4g f150_0 J137_0_3 α K Kn d e a b c g h i j
theorem t137_0_4 (α:Type)(K:KT α):∀ (n:Nat) (d e a b c g i h j:Int),R137_0_4 α a b c (fun l m o=>u137_0_5 (K (.exit 2)) d e a b c g l h m o) (fun l m o=>u137_0_4 (K (.exit 2)) d e a b c g l h m o) n i j=u137_0_3 (loopT (runM Pg E137_0 sh137 c137_0_62) td137_62 K n) d e a b c g i h j:=by
 intro n
 induction n with
 | zero=>intros;rfl
 | succ n ih=>intro d e a b c g i h j;exact (congrArg (fun kn=>S137_0_4 α a b c i j kn (fun l m o=>u137_0_5 (K (.exit 2)) d e a b c g l h m o) (fun l m o=>u137_0_4 (K (.exit 2)) d e a b c g l h m o)) (funext fun i=>funext fun j=>ih d e a b c g i h j)).trans (r137_0_4 α K (loopT (runM Pg E137_0 sh137 c137_0_62) td137_62 K n) d e a b c g i h j).symm
theorem m137_0_4:∀ (α:Type) (K:KT α),F137_0_4 L137_0_4 α K=p137_0_3.unc fun σ=>loopT (runM Pg E137_0 sh137 c137_0_62) td137_62 K fuel σ:=fun α K=>by funext a b c d e g h i j;exact t137_0_4 α K fuel a b c d e g h i j
def c137_0_60g (a:TL137_0_4):MCode:=MCode.sub [1,1,1,1,1,1,1,1,1,1,1,1,1,1,1,1,1,1,0] (MCode.put (.m [⟨p137_0_3,F137_0_4 a⟩]) [1,1,1,1,1,1,1,1,1,1,1,1,1,1,1,1,1,1,0,0] (MCode.put (.m [⟨p137_0_3,F137_0_3 J137_0_3⟩]) [1,1,1,1,1,1,1,1,1,1,1,1,1,1,1,1,1,1,0,0,0] (emb ac137)))
def c137_0_60:MCode:=c137_0_60g L137_0_4
abbrev TJ137_0_5:Type 1:=(α:Type)->Int->Int->Int->Int->Int->(Int->Int->Bool->Op α)->(Int->Int->Bool->Op α)->Op α
def J137_0_5g (a:TL137_0_4)(α:Type)(b c d e g:Int)(k1:Int->Int->Bool->Op α)(k2:Int->Int->Bool->Op α):Op α:=
 a α b c d
 (fun h i j=>k1 h i j)
 (fun l m o=>k2 l m o) e g
def J137_0_5 (α:Type)(a b c d e:Int)(k1:Int->Int->Bool->Op α)(k2:Int->Int->Bool->Op α):Op α:=J137_0_5g L137_0_4 α a b c d e k1 k2
def F137_0_5 (v:TJ137_0_5)(α:Type)(K:KT α):I9 (Op α):=fun h i a b c j m l o=>v α a b c m o (fun d e g=>u137_0_5 (K .normal) h i a b c j d l e g) (fun d e g=>u137_0_4 (K .normal) h i a b c j d l e g)
theorem m137_0_5g (b:Tf150_0)(a:TL137_0_4)(α:Type)(K:KT α):F137_0_5 (J137_0_5g a) α K=p137_0_3.unc fun σ=>runM Pg (E137_0g b) sh137 (c137_0_60g a) K σ:=by kernel_rfl
theorem m137_0_5:∀ (α:Type) (K:KT α),F137_0_5 J137_0_5 α K=p137_0_3.unc fun σ=>runM Pg E137_0 sh137 c137_0_60 K σ:=m137_0_5g f150_0 L137_0_4
def c137_0_42g:MCode:=MCode.sub [1,1,1,1,1,1,1,1,1,1,1,1,1,1,0,0,0,0] (emb ac137)
def c137_0_42:MCode:=c137_0_42g
abbrev TJ137_0_0:Type 1:=(α:Type)->Int->Int->Int->Int->(Bool->Op α)->(Bool->Op α)->Op α
def J137_0_0g (α:Type)(b c a d:Int)(k1:Bool->Op α)(k2:Bool->Op α):Op α:=
 cK (decide (4294967296<=a))
 (k1 true)
 (cK (decide ((IntKind.wrap .u64 ((IntKind.wrap .u64 (4294967296*d))+c)) < (IntKind.wrap .u64 (a*b))))
 (k1 (decide ((IntKind.wrap .u64 ((IntKind.wrap .u64 (4294967296*d))+c)) < (IntKind.wrap .u64 (a*b)))))
 (k2 (decide ((IntKind.wrap .u64 ((IntKind.wrap .u64 (4294967296*d))+c)) < (IntKind.wrap .u64 (a*b))))))
def J137_0_0 (α:Type)(a b c d:Int)(k1:Bool->Op α)(k2:Bool->Op α):Op α:=J137_0_0g α a b c d k1 k2
def F137_0_0 (v:TJ137_0_0)(α:Type)(K:KT α):I9 (Op α):=fun g h i a j b l c d=>v α a b c d (fun e=>u137_0_1 (K .normal) g h i a j b l c d e) (fun e=>u137_0_1 (K (.exit 0)) g h i a j b l c d e)
theorem m137_0_0g (a:Tf150_0)(α:Type)(K:KT α):F137_0_0 (J137_0_0g ) α K=p137_0_0.unc fun σ=>runM Pg (E137_0g a) sh137 (c137_0_42g ) K σ:=by kernel_rfl
theorem m137_0_0:∀ (α:Type) (K:KT α),F137_0_0 J137_0_0 α K=p137_0_0.unc fun σ=>runM Pg E137_0 sh137 c137_0_42 K σ:=m137_0_0g f150_0
def c137_0_41g (a:TJ137_0_0):MCode:=MCode.sub [1,1,1,1,1,1,1,1,1,1,1,1,1,1,0,0,0] (MCode.put (.m [⟨p137_0_0,F137_0_0 a⟩]) [1,1,1,1,1,1,1,1,1,1,1,1,1,1,0,0,0] (emb ac137))
def c137_0_41:MCode:=c137_0_41g J137_0_0
def S137_0_1g (d:TJ137_0_0)(α:Type)(b e g c a:Int)(kn:Int->Int->Op α)(k1:Int->Int->Bool->Op α)(k2:Int->Int->Bool->Op α):Op α:=
 d α e g c a
 (fun i=>cK (decide (4294967296<=(IntKind.wrap .u64 (a+b))))
 (k1 (IntKind.wrap .u64 (c - 1)) (IntKind.wrap .u64 (a+b)) (decide (4294967296<=(IntKind.wrap .u64 (a+b)))))
 (kn (IntKind.wrap .u64 (c - 1)) (IntKind.wrap .u64 (a+b))))
 (fun h=>k2 c a h)
def S137_0_1 (α:Type)(a b c d e:Int)(kn:Int->Int->Op α)(k1:Int->Int->Bool->Op α)(k2:Int->Int->Bool->Op α):Op α:=S137_0_1g J137_0_0 α a b c d e kn k1 k2
def R137_0_1 (α:Type)(a b c:Int)(k1:Int->Int->Bool->Op α)(k2:Int->Int->Bool->Op α):Nat->Int->Int->Op α
 | 0,_,_=>none
 | n+1,d,e=>S137_0_1 α a b c d e (R137_0_1 α a b c k1 k2 n) k1 k2
def L137_0_1 (α:Type)(a b c:Int)(k1:Int->Int->Bool->Op α)(k2:Int->Int->Bool->Op α)(d e:Int):Op α:=R137_0_1 α a b c k1 k2 fuel d e
abbrev TL137_0_1:Type 1:=(α:Type)->Int->Int->Int->(Int->Int->Bool->Op α)->(Int->Int->Bool->Op α)->Int->Int->Op α
def F137_0_1 (v:TL137_0_1)(α:Type)(K:KT α):I9 (Op α):=fun h i a b j c l m o=>v α a b c (fun d e g=>u137_0_2 (K (.exit 0)) h i a b j c l d e g) (fun d e g=>u137_0_1 (K (.exit 0)) h i a b j c l d e g) m o
theorem r137_0_1g (q:Tf150_0)(p:TJ137_0_0)(α:Type)(K:KT α)(Kn:SK α)(d e a b g c h i j:Int):u137_0_0 (fun σ=>runM Pg (E137_0g q) sh137 (c137_0_41g p) (thenK (fun σ=>tidyK td137_41 σ Kn) K) σ) d e a b g c h i j=S137_0_1g p α a b c i j (fun i j=>u137_0_0 Kn d e a b g c h i j) (fun l m o=>u137_0_2 (K (.exit 0)) d e a b g c h l m o) (fun l m o=>u137_0_1 (K (.exit 0)) d e a b g c h l m o):=by kernel_rfl
theorem r137_0_1 (α:Type)(K:KT α)(Kn:SK α)(d e a b g c h i j:Int):u137_0_0 (fun σ=>runM Pg E137_0 sh137 c137_0_41 (thenK (fun σ=>tidyK td137_41 σ Kn) K) σ) d e a b g c h i j=S137_0_1 α a b c i j (fun i j=>u137_0_0 Kn d e a b g c h i j) (fun l m o=>u137_0_2 (K (.exit 0)) d e a b g c h l m o) (fun l m o=>u137_0_1 (K (.exit 0)) d e a b g c h l m o):=r137_0_1g f150_0 J137_0_0 α K Kn d e a b g c h i j
theorem t137_0_1 (α:Type)(K:KT α):∀ (n:Nat) (d e a b g c h i j:Int),R137_0_1 α a b c (fun l m o=>u137_0_2 (K (.exit 0)) d e a b g c h l m o) (fun l m o=>u137_0_1 (K (.exit 0)) d e a b g c h l m o) n i j=u137_0_0 (loopT (runM Pg E137_0 sh137 c137_0_41) td137_41 K n) d e a b g c h i j:=by
 intro n
 induction n with
 | zero=>intros;rfl
 | succ n ih=>intro d e a b g c h i j;exact (congrArg (fun kn=>S137_0_1 α a b c i j kn (fun l m o=>u137_0_2 (K (.exit 0)) d e a b g c h l m o) (fun l m o=>u137_0_1 (K (.exit 0)) d e a b g c h l m o)) (funext fun i=>funext fun j=>ih d e a b g c h i j)).trans (r137_0_1 α K (loopT (runM Pg E137_0 sh137 c137_0_41) td137_41 K n) d e a b g c h i j).symm
theorem m137_0_1:∀ (α:Type) (K:KT α),F137_0_1 L137_0_1 α K=p137_0_0.unc fun σ=>loopT (runM Pg E137_0 sh137 c137_0_41) td137_41 K fuel σ:=fun α K=>by funext a b c d e g h i j;exact t137_0_1 α K fuel a b c d e g h i j
def c137_0_39g (a:TL137_0_1):MCode:=MCode.sub [1,1,1,1,1,1,1,1,1,1,1,1,1,1,0] (MCode.put (.m [⟨p137_0_0,F137_0_1 a⟩]) [1,1,1,1,1,1,1,1,1,1,1,1,1,1,0,0] (MCode.put (.m [⟨p137_0_0,F137_0_0 J137_0_0⟩]) [1,1,1,1,1,1,1,1,1,1,1,1,1,1,0,0,0] (emb ac137)))
def c137_0_39:MCode:=c137_0_39g L137_0_1
abbrev TJ137_0_2:Type 1:=(α:Type)->Int->Int->Int->Int->Int->(Int->Int->Bool->Op α)->(Int->Int->Bool->Op α)->Op α
def J137_0_2g (a:TL137_0_1)(α:Type)(b c d e g:Int)(k1:Int->Int->Bool->Op α)(k2:Int->Int->Bool->Op α):Op α:=
 a α b c d
 (fun h i j=>k1 h i j)
 (fun l m o=>k2 l m o) e g
def J137_0_2 (α:Type)(a b c d e:Int)(k1:Int->Int->Bool->Op α)(k2:Int->Int->Bool->Op α):Op α:=J137_0_2g L137_0_1 α a b c d e k1 k2
def F137_0_2 (v:TJ137_0_2)(α:Type)(K:KT α):I9 (Op α):=fun h i a b j c l m o=>v α a b c m o (fun d e g=>u137_0_2 (K .normal) h i a b j c l d e g) (fun d e g=>u137_0_1 (K .normal) h i a b j c l d e g)
theorem m137_0_2g (b:Tf150_0)(a:TL137_0_1)(α:Type)(K:KT α):F137_0_2 (J137_0_2g a) α K=p137_0_0.unc fun σ=>runM Pg (E137_0g b) sh137 (c137_0_39g a) K σ:=by kernel_rfl
theorem m137_0_2:∀ (α:Type) (K:KT α),F137_0_2 J137_0_2 α K=p137_0_0.unc fun σ=>runM Pg E137_0 sh137 c137_0_39 K σ:=m137_0_2g f150_0 L137_0_1
abbrev Tf137_0:Type 1:=(α:Type)->Int->Int->Int->(Int->Int->Op α)->Op α
def f137_0g (o:TJ137_0_2)(h:TJ137_0_5)(p:Tf150_0)(α:Type)(d c b:Int)(k1:Int->Int->Op α):Op α:=
 cK (b == 0)
 (none)
 (cK (decide (b<=d))
 (none)
 (cK (d == 0)
 (gK (b != 0) (gK (b != 0) (k1 (IntKind.wrap .u64 (Int.tdiv c b)) (Int.tmod c b))))
 (p α b
 (fun a=>gK (decide (0<=(IntKind.wrap .u64 (a)))) (gK (decide (0<=(IntKind.wrap .u64 (a)))) (gK (decide (0<=(IntKind.wrap .u64 (64 - (IntKind.wrap .u64 (a)))))) (gK (decide (0<=(IntKind.wrap .u64 (a)))) (gK ((Int.fdiv (IntKind.wrap .u64 (b*2 ^ (min (Int.toNat (IntKind.wrap .u64 (a))) 64))) (2 ^ 32)) != 0) (o α (Int.fdiv (IntKind.wrap .u64 (b*2 ^ (min (Int.toNat (IntKind.wrap .u64 (a))) 64))) (2 ^ 32)) (iAnd .u64 (IntKind.wrap .u64 (b*2 ^ (min (Int.toNat (IntKind.wrap .u64 (a))) 64))) 4294967295) (Int.fdiv (IntKind.wrap .u64 (c*2 ^ (min (Int.toNat (IntKind.wrap .u64 (a))) 64))) (2 ^ 32)) (IntKind.wrap .u64 (Int.tdiv (iOr .u64 (IntKind.wrap .u64 (d*2 ^ (min (Int.toNat (IntKind.wrap .u64 (a))) 64))) (Int.fdiv c (2 ^ (min (Int.toNat (IntKind.wrap .u64 (64 - (IntKind.wrap .u64 (a))))) 64)))) (Int.fdiv (IntKind.wrap .u64 (b*2 ^ (min (Int.toNat (IntKind.wrap .u64 (a))) 64))) (2 ^ 32)))) (IntKind.wrap .u64 ((iOr .u64 (IntKind.wrap .u64 (d*2 ^ (min (Int.toNat (IntKind.wrap .u64 (a))) 64))) (Int.fdiv c (2 ^ (min (Int.toNat (IntKind.wrap .u64 (64 - (IntKind.wrap .u64 (a))))) 64)))) - (IntKind.wrap .u64 ((IntKind.wrap .u64 (Int.tdiv (iOr .u64 (IntKind.wrap .u64 (d*2 ^ (min (Int.toNat (IntKind.wrap .u64 (a))) 64))) (Int.fdiv c (2 ^ (min (Int.toNat (IntKind.wrap .u64 (64 - (IntKind.wrap .u64 (a))))) 64)))) (Int.fdiv (IntKind.wrap .u64 (b*2 ^ (min (Int.toNat (IntKind.wrap .u64 (a))) 64))) (2 ^ 32))))*(Int.fdiv (IntKind.wrap .u64 (b*2 ^ (min (Int.toNat (IntKind.wrap .u64 (a))) 64))) (2 ^ 32))))))
 (fun e q r=>gK ((Int.fdiv (IntKind.wrap .u64 (b*2 ^ (min (Int.toNat (IntKind.wrap .u64 (a))) 64))) (2 ^ 32)) != 0) (h α (Int.fdiv (IntKind.wrap .u64 (b*2 ^ (min (Int.toNat (IntKind.wrap .u64 (a))) 64))) (2 ^ 32)) (iAnd .u64 (IntKind.wrap .u64 (b*2 ^ (min (Int.toNat (IntKind.wrap .u64 (a))) 64))) 4294967295) (iAnd .u64 (IntKind.wrap .u64 (c*2 ^ (min (Int.toNat (IntKind.wrap .u64 (a))) 64))) 4294967295) (IntKind.wrap .u64 ((IntKind.wrap .u64 ((IntKind.wrap .u64 ((IntKind.wrap .u64 ((iOr .u64 (IntKind.wrap .u64 (d*2 ^ (min (Int.toNat (IntKind.wrap .u64 (a))) 64))) (Int.fdiv c (2 ^ (min (Int.toNat (IntKind.wrap .u64 (64 - (IntKind.wrap .u64 (a))))) 64))))*4294967296))+(Int.fdiv (IntKind.wrap .u64 (c*2 ^ (min (Int.toNat (IntKind.wrap .u64 (a))) 64))) (2 ^ 32)))) - (IntKind.wrap .u64 (e*(IntKind.wrap .u64 (b*2 ^ (min (Int.toNat (IntKind.wrap .u64 (a))) 64))))))) - (IntKind.wrap .u64 ((IntKind.wrap .u64 (Int.tdiv (IntKind.wrap .u64 ((IntKind.wrap .u64 ((IntKind.wrap .u64 ((iOr .u64 (IntKind.wrap .u64 (d*2 ^ (min (Int.toNat (IntKind.wrap .u64 (a))) 64))) (Int.fdiv c (2 ^ (min (Int.toNat (IntKind.wrap .u64 (64 - (IntKind.wrap .u64 (a))))) 64))))*4294967296))+(Int.fdiv (IntKind.wrap .u64 (c*2 ^ (min (Int.toNat (IntKind.wrap .u64 (a))) 64))) (2 ^ 32)))) - (IntKind.wrap .u64 (e*(IntKind.wrap .u64 (b*2 ^ (min (Int.toNat (IntKind.wrap .u64 (a))) 64))))))) (Int.fdiv (IntKind.wrap .u64 (b*2 ^ (min (Int.toNat (IntKind.wrap .u64 (a))) 64))) (2 ^ 32))))*(Int.fdiv (IntKind.wrap .u64 (b*2 ^ (min (Int.toNat (IntKind.wrap .u64 (a))) 64))) (2 ^ 32)))))) (IntKind.wrap .u64 (Int.tdiv (IntKind.wrap .u64 ((IntKind.wrap .u64 ((IntKind.wrap .u64 ((iOr .u64 (IntKind.wrap .u64 (d*2 ^ (min (Int.toNat (IntKind.wrap .u64 (a))) 64))) (Int.fdiv c (2 ^ (min (Int.toNat (IntKind.wrap .u64 (64 - (IntKind.wrap .u64 (a))))) 64))))*4294967296))+(Int.fdiv (IntKind.wrap .u64 (c*2 ^ (min (Int.toNat (IntKind.wrap .u64 (a))) 64))) (2 ^ 32)))) - (IntKind.wrap .u64 (e*(IntKind.wrap .u64 (b*2 ^ (min (Int.toNat (IntKind.wrap .u64 (a))) 64))))))) (Int.fdiv (IntKind.wrap .u64 (b*2 ^ (min (Int.toNat (IntKind.wrap .u64 (a))) 64))) (2 ^ 32))))
 (fun s i t=>gK (decide (0<=(IntKind.wrap .u64 (a)))) (k1 (IntKind.wrap .u64 ((IntKind.wrap .u64 (e*4294967296))+i)) (Int.fdiv (IntKind.wrap .u64 ((IntKind.wrap .u64 ((IntKind.wrap .u64 ((IntKind.wrap .u64 ((IntKind.wrap .u64 ((IntKind.wrap .u64 ((iOr .u64 (IntKind.wrap .u64 (d*2 ^ (min (Int.toNat (IntKind.wrap .u64 (a))) 64))) (Int.fdiv c (2 ^ (min (Int.toNat (IntKind.wrap .u64 (64 - (IntKind.wrap .u64 (a))))) 64))))*4294967296))+(Int.fdiv (IntKind.wrap .u64 (c*2 ^ (min (Int.toNat (IntKind.wrap .u64 (a))) 64))) (2 ^ 32)))) - (IntKind.wrap .u64 (e*(IntKind.wrap .u64 (b*2 ^ (min (Int.toNat (IntKind.wrap .u64 (a))) 64)))))))*4294967296))+(iAnd .u64 (IntKind.wrap .u64 (c*2 ^ (min (Int.toNat (IntKind.wrap .u64 (a))) 64))) 4294967295))) - (IntKind.wrap .u64 (i*(IntKind.wrap .u64 (b*2 ^ (min (Int.toNat (IntKind.wrap .u64 (a))) 64))))))) (2 ^ (min (Int.toNat (IntKind.wrap .u64 (a))) 64)))))
 (fun w j z=>gK (decide (0<=(IntKind.wrap .u64 (a)))) (k1 (IntKind.wrap .u64 ((IntKind.wrap .u64 (e*4294967296))+j)) (Int.fdiv (IntKind.wrap .u64 ((IntKind.wrap .u64 ((IntKind.wrap .u64 ((IntKind.wrap .u64 ((IntKind.wrap .u64 ((IntKind.wrap .u64 ((iOr .u64 (IntKind.wrap .u64 (d*2 ^ (min (Int.toNat (IntKind.wrap .u64 (a))) 64))) (Int.fdiv c (2 ^ (min (Int.toNat (IntKind.wrap .u64 (64 - (IntKind.wrap .u64 (a))))) 64))))*4294967296))+(Int.fdiv (IntKind.wrap .u64 (c*2 ^ (min (Int.toNat (IntKind.wrap .u64 (a))) 64))) (2 ^ 32)))) - (IntKind.wrap .u64 (e*(IntKind.wrap .u64 (b*2 ^ (min (Int.toNat (IntKind.wrap .u64 (a))) 64)))))))*4294967296))+(iAnd .u64 (IntKind.wrap .u64 (c*2 ^ (min (Int.toNat (IntKind.wrap .u64 (a))) 64))) 4294967295))) - (IntKind.wrap .u64 (j*(IntKind.wrap .u64 (b*2 ^ (min (Int.toNat (IntKind.wrap .u64 (a))) 64))))))) (2 ^ (min (Int.toNat (IntKind.wrap .u64 (a))) 64)))))))
 (fun g A B=>gK ((Int.fdiv (IntKind.wrap .u64 (b*2 ^ (min (Int.toNat (IntKind.wrap .u64 (a))) 64))) (2 ^ 32)) != 0) (h α (Int.fdiv (IntKind.wrap .u64 (b*2 ^ (min (Int.toNat (IntKind.wrap .u64 (a))) 64))) (2 ^ 32)) (iAnd .u64 (IntKind.wrap .u64 (b*2 ^ (min (Int.toNat (IntKind.wrap .u64 (a))) 64))) 4294967295) (iAnd .u64 (IntKind.wrap .u64 (c*2 ^ (min (Int.toNat (IntKind.wrap .u64 (a))) 64))) 4294967295) (IntKind.wrap .u64 ((IntKind.wrap .u64 ((IntKind.wrap .u64 ((IntKind.wrap .u64 ((iOr .u64 (IntKind.wrap .u64 (d*2 ^ (min (Int.toNat (IntKind.wrap .u64 (a))) 64))) (Int.fdiv c (2 ^ (min (Int.toNat (IntKind.wrap .u64 (64 - (IntKind.wrap .u64 (a))))) 64))))*4294967296))+(Int.fdiv (IntKind.wrap .u64 (c*2 ^ (min (Int.toNat (IntKind.wrap .u64 (a))) 64))) (2 ^ 32)))) - (IntKind.wrap .u64 (g*(IntKind.wrap .u64 (b*2 ^ (min (Int.toNat (IntKind.wrap .u64 (a))) 64))))))) - (IntKind.wrap .u64 ((IntKind.wrap .u64 (Int.tdiv (IntKind.wrap .u64 ((IntKind.wrap .u64 ((IntKind.wrap .u64 ((iOr .u64 (IntKind.wrap .u64 (d*2 ^ (min (Int.toNat (IntKind.wrap .u64 (a))) 64))) (Int.fdiv c (2 ^ (min (Int.toNat (IntKind.wrap .u64 (64 - (IntKind.wrap .u64 (a))))) 64))))*4294967296))+(Int.fdiv (IntKind.wrap .u64 (c*2 ^ (min (Int.toNat (IntKind.wrap .u64 (a))) 64))) (2 ^ 32)))) - (IntKind.wrap .u64 (g*(IntKind.wrap .u64 (b*2 ^ (min (Int.toNat (IntKind.wrap .u64 (a))) 64))))))) (Int.fdiv (IntKind.wrap .u64 (b*2 ^ (min (Int.toNat (IntKind.wrap .u64 (a))) 64))) (2 ^ 32))))*(Int.fdiv (IntKind.wrap .u64 (b*2 ^ (min (Int.toNat (IntKind.wrap .u64 (a))) 64))) (2 ^ 32)))))) (IntKind.wrap .u64 (Int.tdiv (IntKind.wrap .u64 ((IntKind.wrap .u64 ((IntKind.wrap .u64 ((iOr .u64 (IntKind.wrap .u64 (d*2 ^ (min (Int.toNat (IntKind.wrap .u64 (a))) 64))) (Int.fdiv c (2 ^ (min (Int.toNat (IntKind.wrap .u64 (64 - (IntKind.wrap .u64 (a))))) 64))))*4294967296))+(Int.fdiv (IntKind.wrap .u64 (c*2 ^ (min (Int.toNat (IntKind.wrap .u64 (a))) 64))) (2 ^ 32)))) - (IntKind.wrap .u64 (g*(IntKind.wrap .u64 (b*2 ^ (min (Int.toNat (IntKind.wrap .u64 (a))) 64))))))) (Int.fdiv (IntKind.wrap .u64 (b*2 ^ (min (Int.toNat (IntKind.wrap .u64 (a))) 64))) (2 ^ 32))))
 (fun C l D=>gK (decide (0<=(IntKind.wrap .u64 (a)))) (k1 (IntKind.wrap .u64 ((IntKind.wrap .u64 (g*4294967296))+l)) (Int.fdiv (IntKind.wrap .u64 ((IntKind.wrap .u64 ((IntKind.wrap .u64 ((IntKind.wrap .u64 ((IntKind.wrap .u64 ((IntKind.wrap .u64 ((iOr .u64 (IntKind.wrap .u64 (d*2 ^ (min (Int.toNat (IntKind.wrap .u64 (a))) 64))) (Int.fdiv c (2 ^ (min (Int.toNat (IntKind.wrap .u64 (64 - (IntKind.wrap .u64 (a))))) 64))))*4294967296))+(Int.fdiv (IntKind.wrap .u64 (c*2 ^ (min (Int.toNat (IntKind.wrap .u64 (a))) 64))) (2 ^ 32)))) - (IntKind.wrap .u64 (g*(IntKind.wrap .u64 (b*2 ^ (min (Int.toNat (IntKind.wrap .u64 (a))) 64)))))))*4294967296))+(iAnd .u64 (IntKind.wrap .u64 (c*2 ^ (min (Int.toNat (IntKind.wrap .u64 (a))) 64))) 4294967295))) - (IntKind.wrap .u64 (l*(IntKind.wrap .u64 (b*2 ^ (min (Int.toNat (IntKind.wrap .u64 (a))) 64))))))) (2 ^ (min (Int.toNat (IntKind.wrap .u64 (a))) 64)))))
 (fun F m G=>gK (decide (0<=(IntKind.wrap .u64 (a)))) (k1 (IntKind.wrap .u64 ((IntKind.wrap .u64 (g*4294967296))+m)) (Int.fdiv (IntKind.wrap .u64 ((IntKind.wrap .u64 ((IntKind.wrap .u64 ((IntKind.wrap .u64 ((IntKind.wrap .u64 ((IntKind.wrap .u64 ((iOr .u64 (IntKind.wrap .u64 (d*2 ^ (min (Int.toNat (IntKind.wrap .u64 (a))) 64))) (Int.fdiv c (2 ^ (min (Int.toNat (IntKind.wrap .u64 (64 - (IntKind.wrap .u64 (a))))) 64))))*4294967296))+(Int.fdiv (IntKind.wrap .u64 (c*2 ^ (min (Int.toNat (IntKind.wrap .u64 (a))) 64))) (2 ^ 32)))) - (IntKind.wrap .u64 (g*(IntKind.wrap .u64 (b*2 ^ (min (Int.toNat (IntKind.wrap .u64 (a))) 64)))))))*4294967296))+(iAnd .u64 (IntKind.wrap .u64 (c*2 ^ (min (Int.toNat (IntKind.wrap .u64 (a))) 64))) 4294967295))) - (IntKind.wrap .u64 (m*(IntKind.wrap .u64 (b*2 ^ (min (Int.toNat (IntKind.wrap .u64 (a))) 64))))))) (2 ^ (min (Int.toNat (IntKind.wrap .u64 (a))) 64))))))))))))))))
def f137_0 (α:Type)(a b c:Int)(k1:Int->Int->Op α):Op α:=f137_0g J137_0_2 J137_0_5 f150_0 α a b c k1
def pa137_0:PT (List DV):=pA [pV false [(dI .u64)],pV false [(dI .u64)],pV false [(dI .u64)]]
def Fn137_0 (v:Tf137_0)(α:Type)(k:RT α):Int->Int->Int->Op α:=fun a b c=>v α a b c (fun d e=>ur137_0_0 k d e)
def cm137_0g (a:TJ137_0_2)(b:TJ137_0_5):MCode:=(MCode.put (.m [⟨p137_0_0,F137_0_2 a⟩]) [1,1,1,1,1,1,1,1,1,1,1,1,1,1] (MCode.put (.m [⟨p137_0_0,F137_0_1 L137_0_1⟩]) [1,1,1,1,1,1,1,1,1,1,1,1,1,1,0,0] (MCode.put (.m [⟨p137_0_0,F137_0_0 J137_0_0⟩]) [1,1,1,1,1,1,1,1,1,1,1,1,1,1,0,0,0] (MCode.put (.m [⟨p137_0_3,F137_0_5 b⟩]) [1,1,1,1,1,1,1,1,1,1,1,1,1,1,1,1,1,1] (MCode.put (.m [⟨p137_0_3,F137_0_4 L137_0_4⟩]) [1,1,1,1,1,1,1,1,1,1,1,1,1,1,1,1,1,1,0,0] (MCode.put (.m [⟨p137_0_3,F137_0_3 J137_0_3⟩]) [1,1,1,1,1,1,1,1,1,1,1,1,1,1,1,1,1,1,0,0,0] (emb ac137)))))))
def cm137_0:MCode:=cm137_0g J137_0_2 J137_0_5
theorem gm137_0:cm137_0.Good Pg E137_0 sh137:=(put_seq (by kernel_rfl) (put_loop (td:=td137_41) (by kernel_rfl) (put_seq (by kernel_rfl) (put_seq (by kernel_rfl) (put_loop (td:=td137_62) (by kernel_rfl) (put_seq (by kernel_rfl) (emb_good ac137) ⟨m137_0_3,TT⟩) ⟨m137_0_4,TT⟩) ⟨m137_0_5,TT⟩) ⟨m137_0_0,TT⟩) ⟨m137_0_1,TT⟩) ⟨m137_0_2,TT⟩)
theorem em137_0:cm137_0.erase=ac137:=((put_erase _ _).trans ((put_erase _ _).trans ((put_erase _ _).trans ((put_erase _ _).trans ((put_erase _ _).trans ((put_erase _ _).trans (emb_erase _)))))))
theorem fm137_0g (a:Tf150_0)(b:TJ137_0_2)(c:TJ137_0_5)(α:Type)(k:RT α):Fn137_0 (f137_0g b c a) α k=pa137_0.unc fun ds=>fnM Pg (E137_0g a) sh137 (cm137_0g b c) rs137 k ds:=by kernel_rfl
theorem fm137_0:∀ (α:Type) (k:RT α),Fn137_0 f137_0 α k=pa137_0.unc fun ds=>fnM Pg E137_0 sh137 cm137_0 rs137 k ds:=fm137_0g f150_0 J137_0_2 J137_0_5
theorem is137:FnIs Pg 137 nt137 tr137 tl137 ac137 rs137:=codeF_is Tryz.func137 (by kernel_rfl)
theorem io137_0:InstOk Pg 137 nt137 ⟨pa137_0,Fn137_0 f137_0⟩:=inst_ok eo137_0 followsTry is137 ⟨⟨sh137,cm137_0,em137_0,gm137_0,fm137_0⟩⟩
abbrev nt101:Nat:=6
def sh101:SG:=[(3,iS 2)]
def tr101:TG:=[tT 0 [1],tT 1 [2]]
def tl101:TG:=[]
def ac101:ACode:=codeF Pg Tryz.f101 tr101 tl101
def rs101:List AResV:=resF Pg Tryz.f101
def pr101_0_0:PT (List RV):=pRs [wI]
def ur101_0_0 {β:Type}(g:List RV->β):Int->β:=pr101_0_0.unc g
def E101_0g (a:Tf127_0)(b:Tf103_0):EnvK:=EnvK.of [⟨127,nt127,[⟨pa127_0,Fn127_0 a⟩]⟩,⟨103,nt103,[⟨pa103_0,Fn103_0 b⟩]⟩] noSeq
def E101_0:EnvK:=E101_0g f127_0 f103_0
theorem eo101_0:E101_0.Ok Pg:=EnvK.of_ok noSeq_ok ⟨⟨io127_0,TT⟩,⟨io103_0,TT⟩,TT⟩
abbrev Tf101_0:Type 1:=(α:Type)->Int->Int->(Int->Op α)->Op α
def f101_0g (a:Tf103_0)(b:Tf127_0)(α:Type)(c d:Int)(k1:Int->Op α):Op α:=
 b α c d
 (fun e=>a α e
 (fun g=>k1 g))
def f101_0 (α:Type)(a b:Int)(k1:Int->Op α):Op α:=f101_0g f103_0 f127_0 α a b k1
def pa101_0:PT (List DV):=pA [pV true [(dI .i64),(dI .i64)]]
def Fn101_0 (v:Tf101_0)(α:Type)(k:RT α):Int->Int->Op α:=fun a b=>v α a b (fun c=>ur101_0_0 k c)
def cm101_0g:MCode:=(emb ac101)
def cm101_0:MCode:=cm101_0g
theorem gm101_0:cm101_0.Good Pg E101_0 sh101:=(emb_good ac101)
theorem em101_0:cm101_0.erase=ac101:=(emb_erase _)
theorem fm101_0g (a:Tf127_0)(b:Tf103_0)(α:Type)(k:RT α):Fn101_0 (f101_0g b a) α k=pa101_0.unc fun ds=>fnM Pg (E101_0g a b) sh101 (cm101_0g ) rs101 k ds:=by kernel_rfl
theorem fm101_0:∀ (α:Type) (k:RT α),Fn101_0 f101_0 α k=pa101_0.unc fun ds=>fnM Pg E101_0 sh101 cm101_0 rs101 k ds:=fm101_0g f127_0 f103_0
theorem is101:FnIs Pg 101 nt101 tr101 tl101 ac101 rs101:=codeF_is Tryz.func101 (by kernel_rfl)
theorem io101_0:InstOk Pg 101 nt101 ⟨pa101_0,Fn101_0 f101_0⟩:=inst_ok eo101_0 followsTry is101 ⟨⟨sh101,cm101_0,em101_0,gm101_0,fm101_0⟩⟩
abbrev nt106:Nat:=14
def sh106:SG:=[]
def tr106:TG:=[tT 0 [0],tT 1 [0,3],tT 2 [3,10],tT 3 [3],tT 4 [2]]
def tl106:TG:=[]
def ac106:ACode:=codeF Pg Tryz.f106 tr106 tl106
def rs106:List AResV:=resF Pg Tryz.f106
def pr106_0_0:PT (List RV):=pRs [wI]
def ur106_0_0 {β:Type}(g:List RV->β):Int->β:=pr106_0_0.unc g
def E106_0g (a:Tf103_0):EnvK:=EnvK.of [⟨103,nt103,[⟨pa103_0,Fn103_0 a⟩]⟩] noSeq
def E106_0:EnvK:=E106_0g f103_0
theorem eo106_0:E106_0.Ok Pg:=EnvK.of_ok noSeq_ok ⟨⟨io103_0,TT⟩,TT⟩
abbrev Tf106_0:Type 1:=(α:Type)->Int->(Int->Op α)->Op α
def f106_0g (c:Tf103_0)(α:Type)(b:Int)(k1:Int->Op α):Op α:=
 c α b
 (fun a=>cK (decide ((w64 (a*a)) < b))
 (k1 (w64 (a+1)))
 (k1 a))
def f106_0 (α:Type)(a:Int)(k1:Int->Op α):Op α:=f106_0g f103_0 α a k1
def pa106_0:PT (List DV):=pA [vI]
def Fn106_0 (v:Tf106_0)(α:Type)(k:RT α):Int->Op α:=fun a=>v α a (fun b=>ur106_0_0 k b)
def cm106_0g:MCode:=(emb ac106)
def cm106_0:MCode:=cm106_0g
theorem gm106_0:cm106_0.Good Pg E106_0 sh106:=(emb_good ac106)
theorem em106_0:cm106_0.erase=ac106:=(emb_erase _)
theorem fm106_0g (a:Tf103_0)(α:Type)(k:RT α):Fn106_0 (f106_0g a) α k=pa106_0.unc fun ds=>fnM Pg (E106_0g a) sh106 (cm106_0g ) rs106 k ds:=by kernel_rfl
theorem fm106_0:∀ (α:Type) (k:RT α),Fn106_0 f106_0 α k=pa106_0.unc fun ds=>fnM Pg E106_0 sh106 cm106_0 rs106 k ds:=fm106_0g f103_0
theorem is106:FnIs Pg 106 nt106 tr106 tl106 ac106 rs106:=codeF_is Tryz.func106 (by kernel_rfl)
theorem io106_0:InstOk Pg 106 nt106 ⟨pa106_0,Fn106_0 f106_0⟩:=inst_ok eo106_0 followsTry is106 ⟨⟨sh106,cm106_0,em106_0,gm106_0,fm106_0⟩⟩
abbrev nt132:Nat:=19
def sh132:SG:=[(5,iT),(8,iS 3),(10,iS 2),(11,iT),(17,iT)]
def tr132:TG:=[tT 0 [1,2,3],tT 1 [1,2,3,7],tT 2 [3,4],tT 3 [3,4]]
def tl132:TG:=[]
def ac132:ACode:=codeF Pg Tryz.f132 tr132 tl132
def rs132:List AResV:=resF Pg Tryz.f132
def pr132_0_0:PT (List RV):=pRs [pR true [rD (dI .i64),rD (dI .i64),rD (dI .i64)],wI]
def ur132_0_0 {β:Type}(g:List RV->β):I4 β:=pr132_0_0.unc g
def E132_0g (a:Tf102_0)(b:Tf133_0):EnvK:=EnvK.of [⟨102,nt102,[⟨pa102_0,Fn102_0 a⟩]⟩,⟨133,nt133,[⟨pa133_0,Fn133_0 b⟩]⟩] noSeq
def E132_0:EnvK:=E132_0g f102_0 f133_0
theorem eo132_0:E132_0.Ok Pg:=EnvK.of_ok noSeq_ok ⟨⟨io102_0,TT⟩,⟨io133_0,TT⟩,TT⟩
abbrev Tf132_0:Type 1:=(α:Type)->Int->Int->Int->(Int->Int->Int->Op α)->Op α
def f132_0g (d:Tf102_0)(e:Tf133_0)(α:Type)(a b c:Int)(k1:Int->Int->Int->Op α):Op α:=
 d α c 1000000000
 (fun g=>cK (!g)
 (k1 a b 2)
 (e α a b (Int.tmod (w64 ((Int.tmod c 4)+4)) 4)
 (fun h i=>k1 h i 0)))
def f132_0 (α:Type)(a b c:Int)(k1:Int->Int->Int->Op α):Op α:=f132_0g f102_0 f133_0 α a b c k1
def pa132_0:PT (List DV):=pA [pV true [(dI .i64),(dI .i64),(dI .i64)],pV false [(dP [(dI .i64)] 0)]]
def Fn132_0 (v:Tf132_0)(α:Type)(k:RT α):I4 (Op α):=fun a b c d=>v α a b d (fun e g h=>ur132_0_0 k e g c h)
def cm132_0g:MCode:=(emb ac132)
def cm132_0:MCode:=cm132_0g
theorem gm132_0:cm132_0.Good Pg E132_0 sh132:=(emb_good ac132)
theorem em132_0:cm132_0.erase=ac132:=(emb_erase _)
theorem fm132_0g (a:Tf102_0)(b:Tf133_0)(α:Type)(k:RT α):Fn132_0 (f132_0g a b) α k=pa132_0.unc fun ds=>fnM Pg (E132_0g a b) sh132 (cm132_0g ) rs132 k ds:=by kernel_rfl
theorem fm132_0:∀ (α:Type) (k:RT α),Fn132_0 f132_0 α k=pa132_0.unc fun ds=>fnM Pg E132_0 sh132 cm132_0 rs132 k ds:=fm132_0g f102_0 f133_0
theorem is132:FnIs Pg 132 nt132 tr132 tl132 ac132 rs132:=codeF_is Tryz.func132 (by kernel_rfl)
theorem io132_0:InstOk Pg 132 nt132 ⟨pa132_0,Fn132_0 f132_0⟩:=inst_ok eo132_0 followsTry is132 ⟨⟨sh132,cm132_0,em132_0,gm132_0,fm132_0⟩⟩
abbrev nt138:Nat:=12
def sh138:SG:=[]
def tr138:TG:=[tT 0 [0],tT 1 [2]]
def tl138:TG:=[]
def ac138:ACode:=codeF Pg Tryz.f138 tr138 tl138
def rs138:List AResV:=resF Pg Tryz.f138
def pr138_0_0:PT (List RV):=pRs [pR false [rD dB]]
def ur138_0_0 {β:Type}(g:List RV->β):Bool->β:=pr138_0_0.unc g
def E138_0g (a:Tf151_0)(b:Tf152_0):EnvK:=EnvK.of [⟨151,nt151,[⟨pa151_0,Fn151_0 a⟩]⟩,⟨152,nt152,[⟨pa152_0,Fn152_0 b⟩]⟩] noSeq
def E138_0:EnvK:=E138_0g f151_0 f152_0
theorem eo138_0:E138_0.Ok Pg:=EnvK.of_ok noSeq_ok ⟨⟨io151_0,TT⟩,⟨io152_0,TT⟩,TT⟩
abbrev Tf138_0:Type 1:=(α:Type)->Nat->(Bool->Op α)->Op α
def f138_0g (b:Tf151_0)(c:Tf152_0)(α:Type)(a:Nat)(k1:Bool->Op α):Op α:=
 b α a
 (k1 false)
 (fun d=>cK ((FloatKind.format .f64).order d a == some Ordering.eq)
 (c α a 0
 (fun e=>k1 (!e)))
 (k1 false))
def f138_0 (α:Type)(a:Nat)(k1:Bool->Op α):Op α:=f138_0g f151_0 f152_0 α a k1
def pa138_0:PT (List DV):=pA [pV false [(dF .f64)]]
def Fn138_0 (v:Tf138_0)(α:Type)(k:RT α):Nat->Op α:=fun a=>v α a (fun b=>ur138_0_0 k b)
def cm138_0g:MCode:=(emb ac138)
def cm138_0:MCode:=cm138_0g
theorem gm138_0:cm138_0.Good Pg E138_0 sh138:=(emb_good ac138)
theorem em138_0:cm138_0.erase=ac138:=(emb_erase _)
theorem fm138_0g (a:Tf151_0)(b:Tf152_0)(α:Type)(k:RT α):Fn138_0 (f138_0g a b) α k=pa138_0.unc fun ds=>fnM Pg (E138_0g a b) sh138 (cm138_0g ) rs138 k ds:=by kernel_rfl
theorem fm138_0:∀ (α:Type) (k:RT α),Fn138_0 f138_0 α k=pa138_0.unc fun ds=>fnM Pg E138_0 sh138 cm138_0 rs138 k ds:=fm138_0g f151_0 f152_0
theorem is138:FnIs Pg 138 nt138 tr138 tl138 ac138 rs138:=codeF_is Tryz.func138 (by kernel_rfl)
theorem io138_0:InstOk Pg 138 nt138 ⟨pa138_0,Fn138_0 f138_0⟩:=inst_ok eo138_0 followsTry is138 ⟨⟨sh138,cm138_0,em138_0,gm138_0,fm138_0⟩⟩
abbrev nt134:Nat:=29
def sh134:SG:=[(6,iT),(12,iT),(18,iT),(24,iS 2),(27,iT)]
def tr134:TG:=[tT 0 [1,2],tT 1 [1,2,21],tT 2 [2,3],tT 3 [2,3]]
def tl134:TG:=[]
def ac134:ACode:=codeF Pg Tryz.f134 tr134 tl134
def rs134:List AResV:=resF Pg Tryz.f134
def p134_0_0:PT St:=pS [sP 1,sP 2] [eBox 1 (xs 3),eBox 2 [(cD (dX .f64)),xI]]
def u134_0_0 {β:Type}(g:St->β):Int->Int->Int->Nat->Nat->Int->β:=p134_0_0.unc g
def p134_0_1:PT St:=pS [sP 1,sP 2,sY 21 dB] [eBox 1 (xs 3),eBox 2 [(cD (dX .f64)),xI]]
def u134_0_1 {β:Type}(g:St->β):Bool->Int->Int->Int->Nat->Nat->Int->β:=p134_0_1.unc g
def pr134_0_0:PT (List RV):=pRs [pR true [rD (dX .f64),rD (dI .i64)],wI]
def ur134_0_0 {β:Type}(g:List RV->β):Nat->Nat->Int->Int->β:=pr134_0_0.unc g
def E134_0g (a:Tf102_0)(b:Tf108_0)(c:Tf148_0):EnvK:=EnvK.of [⟨102,nt102,[⟨pa102_0,Fn102_0 a⟩]⟩,⟨108,nt108,[⟨pa108_0,Fn108_0 b⟩]⟩,⟨148,nt148,[⟨pa148_0,Fn148_0 c⟩]⟩] noSeq
def E134_0:EnvK:=E134_0g f102_0 f108_0 f148_0
theorem eo134_0:E134_0.Ok Pg:=EnvK.of_ok noSeq_ok ⟨⟨io102_0,TT⟩,⟨io108_0,TT⟩,⟨io148_0,TT⟩,TT⟩
def c134_0_4g:MCode:=MCode.sub [1,0,0] (emb ac134)
def c134_0_4:MCode:=c134_0_4g
abbrev TJ134_0_0:Type 1:=(α:Type)->Int->Int->Int->(Bool->Op α)->Op α
def J134_0_0g (a:Tf102_0)(b:Tf108_0)(α:Type)(c d e:Int)(k1:Bool->Op α):Op α:=
 a α c 67108864
 (fun g=>cK (!g)
 (k1 true)
 (a α d 67108864
 (fun h=>cK (!h)
 (k1 true)
 (b α e 0 67108864
 (fun i=>k1 (!i))))))
def J134_0_0 (α:Type)(a b c:Int)(k1:Bool->Op α):Op α:=J134_0_0g f102_0 f108_0 α a b c k1
def F134_0_0 (v:TJ134_0_0)(α:Type)(K:KT α):Int->Int->Int->Nat->Nat->Int->Op α:=fun a b c d e g=>v α a b c (fun h=>u134_0_1 (K .normal) h a b c d e g)
theorem m134_0_0g (a:Tf102_0)(b:Tf108_0)(c:Tf148_0)(α:Type)(K:KT α):F134_0_0 (J134_0_0g a b) α K=p134_0_0.unc fun σ=>runM Pg (E134_0g a b c) sh134 (c134_0_4g ) K σ:=by kernel_rfl
theorem m134_0_0:∀ (α:Type) (K:KT α),F134_0_0 J134_0_0 α K=p134_0_0.unc fun σ=>runM Pg E134_0 sh134 c134_0_4 K σ:=m134_0_0g f102_0 f108_0 f148_0
abbrev Tf134_0:Type 1:=(α:Type)->Int->Int->Int->(Nat->Nat->Int->Int->Op α)->Op α
def f134_0g (d:TJ134_0_0)(e:Tf148_0)(α:Type)(a b c:Int)(k1:Nat->Nat->Int->Int->Op α):Op α:=
 d α a b c
 (fun g=>cK g
 (k1 0 0 0 8)
 (e α a b
 (fun h i=>k1 h i c 0)))
def f134_0 (α:Type)(a b c:Int)(k1:Nat->Nat->Int->Int->Op α):Op α:=f134_0g J134_0_0 f148_0 α a b c k1
def pa134_0:PT (List DV):=pA [pV true [(dI .i64),(dI .i64),(dI .i64)]]
def Fn134_0 (v:Tf134_0)(α:Type)(k:RT α):Int->Int->Int->Op α:=fun a b c=>v α a b c (fun d e g h=>ur134_0_0 k d e g h)
def cm134_0g (a:TJ134_0_0):MCode:=(MCode.put (.m [⟨p134_0_0,F134_0_0 a⟩]) [1,0] (emb ac134))
def cm134_0:MCode:=cm134_0g J134_0_0
theorem gm134_0:cm134_0.Good Pg E134_0 sh134:=(put_seq (by kernel_rfl) (emb_good ac134) ⟨m134_0_0,TT⟩)
theorem em134_0:cm134_0.erase=ac134:=((put_erase _ _).trans (emb_erase _))
theorem fm134_0g (c:Tf102_0)(d:Tf108_0)(a:Tf148_0)(b:TJ134_0_0)(α:Type)(k:RT α):Fn134_0 (f134_0g b a) α k=pa134_0.unc fun ds=>fnM Pg (E134_0g c d a) sh134 (cm134_0g b) rs134 k ds:=by kernel_rfl
theorem fm134_0:∀ (α:Type) (k:RT α),Fn134_0 f134_0 α k=pa134_0.unc fun ds=>fnM Pg E134_0 sh134 cm134_0 rs134 k ds:=fm134_0g f102_0 f108_0 f148_0 J134_0_0
theorem is134:FnIs Pg 134 nt134 tr134 tl134 ac134 rs134:=codeF_is Tryz.func134 (by kernel_rfl)
theorem io134_0:InstOk Pg 134 nt134 ⟨pa134_0,Fn134_0 f134_0⟩:=inst_ok eo134_0 followsTry is134 ⟨⟨sh134,cm134_0,em134_0,gm134_0,fm134_0⟩⟩
abbrev nt79:Nat:=24
def sh79:SG:=[(8,iT),(14,iT),(20,iT),(22,iT)]
def tr79:TG:=[tT 0 [1,2],tT 1 [2,5],tT 2 [4],tT 3 [18],tT 4 [4],tT 5 [4]]
def tl79:TG:=[]
def ac79:ACode:=codeF Pg Tryz.f79 tr79 tl79
def rs79:List AResV:=resF Pg Tryz.f79
def p79_0_0:PT St:=pS [sY 1 (dFn 80 []),sP 2] [eBox 2 [xI,xI]]
def u79_0_0 {β:Type}(g:St->β):Int->Int->β:=p79_0_0.unc g
def p79_0_1:PT St:=pS [sP 2,sY 5 dB] [eBox 2 [xI,xI]]
def u79_0_1 {β:Type}(g:St->β):Bool->Int->Int->β:=p79_0_1.unc g
def pr79_0_0:PT (List RV):=pRs [wI]
def ur79_0_0 {β:Type}(g:List RV->β):Int->β:=pr79_0_0.unc g
def E79_0g (a:Tf80_0):EnvK:=EnvK.of [⟨80,nt80,[⟨pa80_0,Fn80_0 a⟩]⟩] noSeq
def E79_0:EnvK:=E79_0g f80_0
theorem eo79_0:E79_0.Ok Pg:=EnvK.of_ok noSeq_ok ⟨⟨io80_0,TT⟩,TT⟩
def c79_0_5g:MCode:=MCode.sub [1,0,0,0] (emb ac79)
def c79_0_5:MCode:=c79_0_5g
abbrev TJ79_0_0:Type 1:=(α:Type)->Int->Int->(Bool->Op α)->Op α
def J79_0_0g (a:Tf80_0)(α:Type)(b c:Int)(k1:Bool->Op α):Op α:=
 a α b
 (fun d=>cK (!d)
 (k1 true)
 (a α c
 (fun e=>k1 (!e))))
def J79_0_0 (α:Type)(a b:Int)(k1:Bool->Op α):Op α:=J79_0_0g f80_0 α a b k1
def F79_0_0 (v:TJ79_0_0)(α:Type)(K:KT α):Int->Int->Op α:=fun a b=>v α a b (fun c=>u79_0_1 (K .normal) c a b)
theorem m79_0_0g (a:Tf80_0)(α:Type)(K:KT α):F79_0_0 (J79_0_0g a) α K=p79_0_0.unc fun σ=>runM Pg (E79_0g a) sh79 (c79_0_5g ) K σ:=by kernel_rfl
theorem m79_0_0:∀ (α:Type) (K:KT α),F79_0_0 J79_0_0 α K=p79_0_0.unc fun σ=>runM Pg E79_0 sh79 c79_0_5 K σ:=m79_0_0g f80_0
abbrev Tf79_0:Type 1:=(α:Type)->Int->Int->(Int->Op α)->Op α
def f79_0g (c:TJ79_0_0)(α:Type)(a b:Int)(k1:Int->Op α):Op α:=
 c α a b
 (fun d=>cK d
 (k1 2)
 (cK (decide (b < a))
 (k1 10)
 (k1 0)))
def f79_0 (α:Type)(a b:Int)(k1:Int->Op α):Op α:=f79_0g J79_0_0 α a b k1
def pa79_0:PT (List DV):=pA [pV true [(dI .i64),(dI .i64)],pV false [(dFn 80 [])]]
def Fn79_0 (v:Tf79_0)(α:Type)(k:RT α):Int->Int->Op α:=fun a b=>v α a b (fun c=>ur79_0_0 k c)
def cm79_0g (a:TJ79_0_0):MCode:=(MCode.put (.m [⟨p79_0_0,F79_0_0 a⟩]) [1,0,0] (emb ac79))
def cm79_0:MCode:=cm79_0g J79_0_0
theorem gm79_0:cm79_0.Good Pg E79_0 sh79:=(put_seq (by kernel_rfl) (emb_good ac79) ⟨m79_0_0,TT⟩)
theorem em79_0:cm79_0.erase=ac79:=((put_erase _ _).trans (emb_erase _))
theorem fm79_0g (b:Tf80_0)(a:TJ79_0_0)(α:Type)(k:RT α):Fn79_0 (f79_0g a) α k=pa79_0.unc fun ds=>fnM Pg (E79_0g b) sh79 (cm79_0g a) rs79 k ds:=by kernel_rfl
theorem fm79_0:∀ (α:Type) (k:RT α),Fn79_0 f79_0 α k=pa79_0.unc fun ds=>fnM Pg E79_0 sh79 cm79_0 rs79 k ds:=fm79_0g f80_0 J79_0_0
theorem is79:FnIs Pg 79 nt79 tr79 tl79 ac79 rs79:=codeF_is Tryz.func79 (by kernel_rfl)
theorem io79_0:InstOk Pg 79 nt79 ⟨pa79_0,Fn79_0 f79_0⟩:=inst_ok eo79_0 followsTry is79 ⟨⟨sh79,cm79_0,em79_0,gm79_0,fm79_0⟩⟩
def p79_1_0:PT St:=pS [sY 1 (dFn 82 []),sP 2] [eBox 2 [xI,xI]]
def u79_1_0 {β:Type}(g:St->β):Int->Int->β:=p79_1_0.unc g
def p79_1_1:PT St:=pS [sP 2,sY 5 dB] [eBox 2 [xI,xI]]
def u79_1_1 {β:Type}(g:St->β):Bool->Int->Int->β:=p79_1_1.unc g
def pr79_1_0:PT (List RV):=pRs [wI]
def ur79_1_0 {β:Type}(g:List RV->β):Int->β:=pr79_1_0.unc g
def E79_1g (a:Tf82_0):EnvK:=EnvK.of [⟨82,nt82,[⟨pa82_0,Fn82_0 a⟩]⟩] noSeq
def E79_1:EnvK:=E79_1g f82_0
theorem eo79_1:E79_1.Ok Pg:=EnvK.of_ok noSeq_ok ⟨⟨io82_0,TT⟩,TT⟩
def c79_1_5g:MCode:=MCode.sub [1,0,0,0] (emb ac79)
def c79_1_5:MCode:=c79_1_5g
abbrev TJ79_1_0:Type 1:=(α:Type)->Int->Int->(Bool->Op α)->Op α
def J79_1_0g (a:Tf82_0)(α:Type)(b c:Int)(k1:Bool->Op α):Op α:=
 a α b
 (fun d=>cK (!d)
 (k1 true)
 (a α c
 (fun e=>k1 (!e))))
def J79_1_0 (α:Type)(a b:Int)(k1:Bool->Op α):Op α:=J79_1_0g f82_0 α a b k1
def F79_1_0 (v:TJ79_1_0)(α:Type)(K:KT α):Int->Int->Op α:=fun a b=>v α a b (fun c=>u79_1_1 (K .normal) c a b)
theorem m79_1_0g (a:Tf82_0)(α:Type)(K:KT α):F79_1_0 (J79_1_0g a) α K=p79_1_0.unc fun σ=>runM Pg (E79_1g a) sh79 (c79_1_5g ) K σ:=by kernel_rfl
theorem m79_1_0:∀ (α:Type) (K:KT α),F79_1_0 J79_1_0 α K=p79_1_0.unc fun σ=>runM Pg E79_1 sh79 c79_1_5 K σ:=m79_1_0g f82_0
abbrev Tf79_1:Type 1:=(α:Type)->Int->Int->(Int->Op α)->Op α
def f79_1g (c:TJ79_1_0)(α:Type)(a b:Int)(k1:Int->Op α):Op α:=
 c α a b
 (fun d=>cK d
 (k1 2)
 (cK (decide (b < a))
 (k1 10)
 (k1 0)))
def f79_1 (α:Type)(a b:Int)(k1:Int->Op α):Op α:=f79_1g J79_1_0 α a b k1
def pa79_1:PT (List DV):=pA [pV true [(dI .i64),(dI .i64)],pV false [(dFn 82 [])]]
def Fn79_1 (v:Tf79_1)(α:Type)(k:RT α):Int->Int->Op α:=fun a b=>v α a b (fun c=>ur79_1_0 k c)
def cm79_1g (a:TJ79_1_0):MCode:=(MCode.put (.m [⟨p79_1_0,F79_1_0 a⟩]) [1,0,0] (emb ac79))
def cm79_1:MCode:=cm79_1g J79_1_0
theorem gm79_1:cm79_1.Good Pg E79_1 sh79:=(put_seq (by kernel_rfl) (emb_good ac79) ⟨m79_1_0,TT⟩)
theorem em79_1:cm79_1.erase=ac79:=((put_erase _ _).trans (emb_erase _))
theorem fm79_1g (b:Tf82_0)(a:TJ79_1_0)(α:Type)(k:RT α):Fn79_1 (f79_1g a) α k=pa79_1.unc fun ds=>fnM Pg (E79_1g b) sh79 (cm79_1g a) rs79 k ds:=by kernel_rfl
theorem fm79_1:∀ (α:Type) (k:RT α),Fn79_1 f79_1 α k=pa79_1.unc fun ds=>fnM Pg E79_1 sh79 cm79_1 rs79 k ds:=fm79_1g f82_0 J79_1_0
theorem io79_1:InstOk Pg 79 nt79 ⟨pa79_1,Fn79_1 f79_1⟩:=inst_ok eo79_1 followsTry is79 ⟨⟨sh79,cm79_1,em79_1,gm79_1,fm79_1⟩⟩
abbrev nt110:Nat:=56
def sh110:SG:=[(4,iS 9),(9,iT),(14,iS 2),(21,iT),(24,iT),(28,iS 2),(34,iT),(37,iT),(41,iT),(46,iT),(52,iT),(54,iT)]
def tr110:TG:=[tT 0 [1],tT 1 [1,3],tT 2 [2],tT 3 [1,7],tT 4 [2],tT 5 [1,18],tT 6 [2],tT 7 [1,26],tT 8 [2],tT 9 [1,31],tT 10 [2],tT 11 [1,39],tT 12 [2],tT 13 [50],tT 14 [2],tT 15 [2]]
def tl110:TG:=[]
def ac110:ACode:=codeF Pg Tryz.f110 tr110 tl110
def rs110:List AResV:=resF Pg Tryz.f110
def p110_0_0:PT St:=pS [sP 1,sY 3 dB] [eBox 1 (xs 9)]
def u110_0_0 {β:Type}(g:St->β):Bool->I9 β:=p110_0_0.unc g
def p110_0_1:PT St:=pS [sP 1,sY 7 dB] [eBox 1 (xs 9)]
def u110_0_1 {β:Type}(g:St->β):Bool->I9 β:=p110_0_1.unc g
def p110_0_2:PT St:=pS [sP 1,sY 31 dB] [eBox 1 (xs 9)]
def u110_0_2 {β:Type}(g:St->β):Bool->I9 β:=p110_0_2.unc g
def p110_0_3:PT St:=pS [sP 1,sY 39 dB] [eBox 1 (xs 9)]
def u110_0_3 {β:Type}(g:St->β):Bool->I9 β:=p110_0_3.unc g
def pr110_0_0:PT (List RV):=pRs [wI]
def ur110_0_0 {β:Type}(g:List RV->β):Int->β:=pr110_0_0.unc g
def E110_0g (a:Tf141_0)(b:Tf20_0)(c:Tf142_0):EnvK:=EnvK.of [⟨141,nt141,[⟨pa141_0,Fn141_0 a⟩]⟩,⟨20,nt20,[⟨pa20_0,Fn20_0 b⟩]⟩,⟨142,nt142,[⟨pa142_0,Fn142_0 c⟩]⟩] noSeq
def E110_0:EnvK:=E110_0g f141_0 f20_0 f142_0
theorem eo110_0:E110_0.Ok Pg:=EnvK.of_ok noSeq_ok ⟨⟨io141_0,TT⟩,⟨io20_0,TT⟩,⟨io142_0,TT⟩,TT⟩
def c110_0_30g:MCode:=MCode.sub [1,0,0,1,1,1,1,1,1,1,1,1,1,0] (emb ac110)
def c110_0_30:MCode:=c110_0_30g
abbrev TJ110_0_1:Type 1:=(α:Type)->Int->Int->(Bool->Op α)->Op α
def J110_0_1g (a:Tf20_0)(α:Type)(b c:Int)(k1:Bool->Op α):Op α:=
 a α b 0 10000
 (fun d=>cK (!d)
 (k1 true)
 (a α c 0 10000
 (fun e=>k1 (!e))))
def J110_0_1 (α:Type)(a b:Int)(k1:Bool->Op α):Op α:=J110_0_1g f20_0 α a b k1
def F110_0_1 (v:TJ110_0_1)(α:Type)(K:KT α):Bool->I9 (Op α):=fun m c d e g h i j a b=>v α a b (fun l=>u110_0_3 (K .normal) l c d e g h i j a b)
theorem m110_0_1g (b:Tf141_0)(a:Tf20_0)(c:Tf142_0)(α:Type)(K:KT α):F110_0_1 (J110_0_1g a) α K=p110_0_2.unc fun σ=>runM Pg (E110_0g b a c) sh110 (c110_0_30g ) K σ:=by kernel_rfl
theorem m110_0_1:∀ (α:Type) (K:KT α),F110_0_1 J110_0_1 α K=p110_0_2.unc fun σ=>runM Pg E110_0 sh110 c110_0_30 K σ:=m110_0_1g f141_0 f20_0 f142_0
def c110_0_10g:MCode:=MCode.sub [1,0,0,1,1,0] (emb ac110)
def c110_0_10:MCode:=c110_0_10g
abbrev TJ110_0_0:Type 1:=(α:Type)->Int->Int->Int->(Bool->Op α)->Op α
def J110_0_0g (a:Tf142_0)(b:Tf20_0)(α:Type)(c d e:Int)(k1:Bool->Op α):Op α:=
 b α c 5000 80000
 (fun g=>cK (!g)
 (k1 true)
 (a α d e 0 9999
 (fun h=>k1 (!h))))
def J110_0_0 (α:Type)(a b c:Int)(k1:Bool->Op α):Op α:=J110_0_0g f142_0 f20_0 α a b c k1
def F110_0_0 (v:TJ110_0_0)(α:Type)(K:KT α):Bool->I9 (Op α):=fun m d e a b c g h i j=>v α a b c (fun l=>u110_0_1 (K .normal) l d e a b c g h i j)
theorem m110_0_0g (c:Tf141_0)(a:Tf20_0)(b:Tf142_0)(α:Type)(K:KT α):F110_0_0 (J110_0_0g b a) α K=p110_0_0.unc fun σ=>runM Pg (E110_0g c a b) sh110 (c110_0_10g ) K σ:=by kernel_rfl
theorem m110_0_0:∀ (α:Type) (K:KT α),F110_0_0 J110_0_0 α K=p110_0_0.unc fun σ=>runM Pg E110_0 sh110 c110_0_10 K σ:=m110_0_0g f141_0 f20_0 f142_0
abbrev Tf110_0:Type 1:=(α:Type)->Int->Int->Int->Int->Int->Int->Int->Int->Int->(Int->Op α)->Op α
def f110_0g (h:TJ110_0_0)(i:TJ110_0_1)(j:Tf141_0)(l:Tf142_0)(α:Type)(m o p a b c d e g:Int)(k1:Int->Op α):Op α:=
 j α m o
 (fun q=>cK (!q)
 (k1 11)
 (h α p a b
 (fun r=>cK r
 (k1 2)
 (cK (decide (b < a))
 (k1 10)
 (l α c d 1000 200000
 (fun s=>cK (!s)
 (k1 2)
 (cK (decide (d < c))
 (k1 10)
 (i α e g
 (fun t=>cK t
 (k1 2)
 (cK (decide (g < e))
 (k1 24)
 (k1 0)))))))))))
def f110_0 (α:Type)(a b c d e g h i j:Int)(k1:Int->Op α):Op α:=f110_0g J110_0_0 J110_0_1 f141_0 f142_0 α a b c d e g h i j k1
def pa110_0:PT (List DV):=pA [pV true [(dI .i64),(dI .i64),(dI .i64),(dI .i64),(dI .i64),(dI .i64),(dI .i64),(dI .i64),(dI .i64)]]
def Fn110_0 (v:Tf110_0)(α:Type)(k:RT α):I9 (Op α):=fun a b c d e g h i j=>v α a b c d e g h i j (fun l=>ur110_0_0 k l)
def cm110_0g (a:TJ110_0_0)(b:TJ110_0_1):MCode:=(MCode.put (.m [⟨p110_0_0,F110_0_0 a⟩]) [1,0,0,1,1] (MCode.put (.m [⟨p110_0_2,F110_0_1 b⟩]) [1,0,0,1,1,1,1,1,1,1,1,1,1] (emb ac110)))
def cm110_0:MCode:=cm110_0g J110_0_0 J110_0_1
theorem gm110_0:cm110_0.Good Pg E110_0 sh110:=(put_seq (by kernel_rfl) (put_seq (by kernel_rfl) (emb_good ac110) ⟨m110_0_1,TT⟩) ⟨m110_0_0,TT⟩)
theorem em110_0:cm110_0.erase=ac110:=((put_erase _ _).trans ((put_erase _ _).trans (emb_erase _)))
theorem fm110_0g (a:Tf141_0)(e:Tf20_0)(b:Tf142_0)(c:TJ110_0_0)(d:TJ110_0_1)(α:Type)(k:RT α):Fn110_0 (f110_0g c d a b) α k=pa110_0.unc fun ds=>fnM Pg (E110_0g a e b) sh110 (cm110_0g c d) rs110 k ds:=by kernel_rfl
theorem fm110_0:∀ (α:Type) (k:RT α),Fn110_0 f110_0 α k=pa110_0.unc fun ds=>fnM Pg E110_0 sh110 cm110_0 rs110 k ds:=fm110_0g f141_0 f20_0 f142_0 J110_0_0 J110_0_1
theorem is110:FnIs Pg 110 nt110 tr110 tl110 ac110 rs110:=codeF_is Tryz.func110 (by kernel_rfl)
theorem io110_0:InstOk Pg 110 nt110 ⟨pa110_0,Fn110_0 f110_0⟩:=inst_ok eo110_0 followsTry is110 ⟨⟨sh110,cm110_0,em110_0,gm110_0,fm110_0⟩⟩
abbrev nt117:Nat:=32
def sh117:SG:=[(6,iS 2),(14,iT),(17,iT),(23,iT),(26,iT),(31,iS 2)]
def tr117:TG:=[tT 0 [1,2],tT 1 [1,2,4],tT 2 [1,2,4,9],tT 3 [2,3],tT 4 [1,2,5],tT 5 [1,2,5,15],tT 6 [1,2,5],tT 7 [1,2,5,24],tT 8 [2,5],tT 9 [2,3]]
def tl117:TG:=[]
def ac117:ACode:=codeF Pg Tryz.f117 tr117 tl117
def rs117:List AResV:=resF Pg Tryz.f117
def p117_0_0:PT St:=pS [sP 1,sP 2,sP 5] [eBox 1 [xI,xI],eBox 2 [xI,xI],eBox 5 [xI,xI]]
def u117_0_0 {β:Type}(g:St->β):I6 β:=p117_0_0.unc g
def p117_0_1:PT St:=pS [sP 1,sP 2,sP 5,sY 15 dB] [eBox 1 [xI,xI],eBox 2 [xI,xI],eBox 5 [xI,xI]]
def u117_0_1 {β:Type}(g:St->β):Bool->I6 β:=p117_0_1.unc g
def pr117_0_0:PT (List RV):=pRs [pR true [rD (dI .i64),rD (dI .i64)],wI]
def ur117_0_0 {β:Type}(g:List RV->β):Int->Int->Int->β:=pr117_0_0.unc g
def E117_0g (a:Tf143_0)(b:Tf145_0)(c:Tf68_0)(d:Tf146_0)(e:Tf69_0):EnvK:=EnvK.of [⟨143,nt143,[⟨pa143_0,Fn143_0 a⟩]⟩,⟨145,nt145,[⟨pa145_0,Fn145_0 b⟩]⟩,⟨68,nt68,[⟨pa68_0,Fn68_0 c⟩]⟩,⟨146,nt146,[⟨pa146_0,Fn146_0 d⟩]⟩,⟨69,nt69,[⟨pa69_0,Fn69_0 e⟩]⟩] noSeq
def E117_0:EnvK:=E117_0g f143_0 f145_0 f68_0 f146_0 f69_0
theorem eo117_0:E117_0.Ok Pg:=EnvK.of_ok noSeq_ok ⟨⟨io143_0,TT⟩,⟨io145_0,TT⟩,⟨io68_0,TT⟩,⟨io146_0,TT⟩,⟨io69_0,TT⟩,TT⟩
def c117_0_13g:MCode:=MCode.sub [1,1,1,0] (emb ac117)
def c117_0_13:MCode:=c117_0_13g
abbrev TJ117_0_0:Type 1:=(α:Type)->Int->(Int->Op α)->(Bool->Op α)->Op α
def J117_0_0g (c:Tf145_0)(d:Tf68_0)(α:Type)(a:Int)(k1:Int->Op α)(k2:Bool->Op α):Op α:=
 cK (decide (a<=16777216))
 (c α a
 (fun e=>d α e 1024
 (fun b=>k1 (if b > 0 then b else 0))))
 (k2 (decide (a<=16777216)))
def J117_0_0 (α:Type)(a:Int)(k1:Int->Op α)(k2:Bool->Op α):Op α:=J117_0_0g f145_0 f68_0 α a k1 k2
def F117_0_0 (v:TJ117_0_0)(α:Type)(K:KT α):I6 (Op α):=fun c a d e h g=>v α a (fun b=>u117_0_0 (K .normal) c a d e b g) (fun b=>u117_0_1 (K .normal) b c a d e h g)
theorem m117_0_0g (c:Tf143_0)(a:Tf145_0)(b:Tf68_0)(d:Tf146_0)(e:Tf69_0)(α:Type)(K:KT α):F117_0_0 (J117_0_0g a b) α K=p117_0_0.unc fun σ=>runM Pg (E117_0g c a b d e) sh117 (c117_0_13g ) K σ:=by kernel_rfl
theorem m117_0_0:∀ (α:Type) (K:KT α),F117_0_0 J117_0_0 α K=p117_0_0.unc fun σ=>runM Pg E117_0 sh117 c117_0_13 K σ:=m117_0_0g f143_0 f145_0 f68_0 f146_0 f69_0
abbrev Tf117_0:Type 1:=(α:Type)->Int->Int->(Int->Int->Int->Op α)->Op α
def f117_0g (j:TJ117_0_0)(l:Tf143_0)(b:Tf146_0)(c:Tf69_0)(α:Type)(a d:Int)(k1:Int->Int->Int->Op α):Op α:=
 l α a d 0
 (fun e=>cK (e != 0)
 (k1 0 0 e)
 (j α d
 (fun g=>cK (decide (a<=16777216))
 (b α a
 (fun m=>c α m 1024
 (fun h=>k1 g (if h < 1048576 then h else 1048576) 0)))
 (k1 g 1 0))
 (fun p=>cK (decide (a<=16777216))
 (b α a
 (fun o=>c α o 1024
 (fun i=>k1 0 (if i < 1048576 then i else 1048576) 0)))
 (k1 0 1 0))))
def f117_0 (α:Type)(a b:Int)(k1:Int->Int->Int->Op α):Op α:=f117_0g J117_0_0 f143_0 f146_0 f69_0 α a b k1
def pa117_0:PT (List DV):=pA [pV true [(dI .i64),(dI .i64)]]
def Fn117_0 (v:Tf117_0)(α:Type)(k:RT α):Int->Int->Op α:=fun a b=>v α a b (fun c d e=>ur117_0_0 k c d e)
def cm117_0g (a:TJ117_0_0):MCode:=(MCode.put (.m [⟨p117_0_0,F117_0_0 a⟩]) [1,1,1] (emb ac117))
def cm117_0:MCode:=cm117_0g J117_0_0
theorem gm117_0:cm117_0.Good Pg E117_0 sh117:=(put_seq (by kernel_rfl) (emb_good ac117) ⟨m117_0_0,TT⟩)
theorem em117_0:cm117_0.erase=ac117:=((put_erase _ _).trans (emb_erase _))
theorem fm117_0g (a:Tf143_0)(e:Tf145_0)(g:Tf68_0)(b:Tf146_0)(c:Tf69_0)(d:TJ117_0_0)(α:Type)(k:RT α):Fn117_0 (f117_0g d a b c) α k=pa117_0.unc fun ds=>fnM Pg (E117_0g a e g b c) sh117 (cm117_0g d) rs117 k ds:=by kernel_rfl
theorem fm117_0:∀ (α:Type) (k:RT α),Fn117_0 f117_0 α k=pa117_0.unc fun ds=>fnM Pg E117_0 sh117 cm117_0 rs117 k ds:=fm117_0g f143_0 f145_0 f68_0 f146_0 f69_0 J117_0_0
theorem is117:FnIs Pg 117 nt117 tr117 tl117 ac117 rs117:=codeF_is Tryz.func117 (by kernel_rfl)
theorem io117_0:InstOk Pg 117 nt117 ⟨pa117_0,Fn117_0 f117_0⟩:=inst_ok eo117_0 followsTry is117 ⟨⟨sh117,cm117_0,em117_0,gm117_0,fm117_0⟩⟩
abbrev nt160:Nat:=42
def sh160:SG:=[(27,iS 2),(28,iS 2),(34,iS 2),(36,iS 2),(40,iS 2),(41,iS 2)]
def tr160:TG:=[tT 0 [0,2],tT 1 [0,2,3],tT 2 [0,2,4,5],tT 3 [0,2,4,5,6,7],tT 4 [0,2,4,5,6,7,22],tT 5 [0,2,4,5,6,7,8],tT 6 [0,2,4,5,6,7,8,9],tT 7 [0,2,4,5,6,7,8,9,32],tT 8 [0,2,4,5,6,7],tT 9 [0,2,4,5,6,7],tT 10 [2,4,5,39],tT 11 [2],tT 12 [2]]
def tl160:TG:=[tT 4 [0,2,4,5,6,7]]
def ac160:ACode:=codeF Pg Tryz.f160 tr160 tl160
def rs160:List AResV:=resF Pg Tryz.f160
def td160_11:OT:=tdC (MCode.sub [1,1,1,1,0,0] (emb ac160))
def p160_0_0:PT St:=pS [sI 0,sP 2,sP 4,sP 5,sI 6,sI 7] [eBox 2 [xI,xI],eBox 4 [xI,xI],eBox 5 [xI,xI]]
def u160_0_0 {β:Type}(g:St->β):I9 β:=p160_0_0.unc g
def p160_0_1:PT St:=pS [sI 0,sP 2,sP 4,sP 5,sI 6,sI 7,sY 22 dB] [eBox 2 [xI,xI],eBox 4 [xI,xI],eBox 5 [xI,xI]]
def u160_0_1 {β:Type}(g:St->β):Int->Int->Int->Bool->I6 β:=p160_0_1.unc g
def pr160_0_0:PT (List RV):=pRs [pR true [rD (dI .i64),rD (dI .i64)]]
def ur160_0_0 {β:Type}(g:List RV->β):Int->Int->β:=pr160_0_0.unc g
def E160_0g (a:Tf103_0)(b:Tf162_0):EnvK:=EnvK.of [⟨103,nt103,[⟨pa103_0,Fn103_0 a⟩]⟩,⟨162,nt162,[⟨pa162_0,Fn162_0 b⟩]⟩] noSeq
def E160_0:EnvK:=E160_0g f103_0 f162_0
theorem eo160_0:E160_0.Ok Pg:=EnvK.of_ok noSeq_ok ⟨⟨io103_0,TT⟩,⟨io162_0,TT⟩,TT⟩
def c160_0_11g:MCode:=MCode.sub [1,1,1,1,0,0,0] (emb ac160)
def c160_0_11:MCode:=c160_0_11g
def S160_0_0g (l:Tf162_0)(α:Type)(c b a d e g h:Int)(kn:I6 (Op α))(k1:Int->Int->Bool->I4 (Op α)):Op α:=
 cK (c != b)
 (cK (c != a)
 (l α d e g h
 (fun i j=>cK (decide ((w64 (Int.tdiv (w64 (b+a)) 2))<=c))
 (kn (w64 (Int.tdiv (w64 (b+a)) 2)) a i j g h)
 (kn b (w64 (Int.tdiv (w64 (b+a)) 2)) d e i j)))
 (k1 b a (c != a) d e g h))
 (k1 b a false d e g h)
def S160_0_0 (α:Type)(a b c d e g h:Int)(kn:I6 (Op α))(k1:Int->Int->Bool->I4 (Op α)):Op α:=S160_0_0g f162_0 α a b c d e g h kn k1
def R160_0_0 (α:Type)(a:Int)(k1:Int->Int->Bool->I4 (Op α)):Nat->I6 (Op α)
 | 0,_,_,_,_,_,_=>none
 | n+1,b,c,d,e,g,h=>S160_0_0 α a b c d e g h (R160_0_0 α a k1 n) k1
def L160_0_0 (α:Type)(a:Int)(k1:Int->Int->Bool->I4 (Op α))(b c d e g h:Int):Op α:=R160_0_0 α a k1 fuel b c d e g h
abbrev TL160_0_0:Type 1:=(α:Type)->Int->(Int->Int->Bool->I4 (Op α))->I6 (Op α)
def F160_0_0 (v:TL160_0_0)(α:Type)(K:KT α):I9 (Op α):=fun a b c d e g h i j=>v α a (fun l m o p q r s=>u160_0_1 (K (.exit 0)) a l m o d e p q r s) b c g h i j
theorem r160_0_0g (m:Tf103_0)(l:Tf162_0)(α:Type)(K:KT α)(Kn:SK α)(a b c i j d e g h:Int):u160_0_0 (fun σ=>runM Pg (E160_0g m l) sh160 (c160_0_11g ) (thenK (fun σ=>tidyK td160_11 σ Kn) K) σ) a b c i j d e g h=S160_0_0g l α a b c d e g h (fun b c d e g h=>u160_0_0 Kn a b c i j d e g h) (fun o p q r s t w=>u160_0_1 (K (.exit 0)) a o p q i j r s t w):=by kernel_rfl
theorem r160_0_0 (α:Type)(K:KT α)(Kn:SK α)(a b c i j d e g h:Int):u160_0_0 (fun σ=>runM Pg E160_0 sh160 c160_0_11 (thenK (fun σ=>tidyK td160_11 σ Kn) K) σ) a b c i j d e g h=S160_0_0 α a b c d e g h (fun b c d e g h=>u160_0_0 Kn a b c i j d e g h) (fun l m o p q r s=>u160_0_1 (K (.exit 0)) a l m o i j p q r s):=r160_0_0g f103_0 f162_0 α K Kn a b c i j d e g h
theorem t160_0_0 (α:Type)(K:KT α):∀ (n:Nat) (a b c i j d e g h:Int),R160_0_0 α a (fun l m o p q r s=>u160_0_1 (K (.exit 0)) a l m o i j p q r s) n b c d e g h=u160_0_0 (loopT (runM Pg E160_0 sh160 c160_0_11) td160_11 K n) a b c i j d e g h:=by
 intro n
 induction n with
 | zero=>intros;rfl
 | succ n ih=>intro a b c i j d e g h;exact (congrArg (fun kn=>S160_0_0 α a b c d e g h kn (fun l m o p q r s=>u160_0_1 (K (.exit 0)) a l m o i j p q r s)) (funext fun b=>funext fun c=>funext fun d=>funext fun e=>funext fun g=>funext fun h=>ih a b c i j d e g h)).trans (r160_0_0 α K (loopT (runM Pg E160_0 sh160 c160_0_11) td160_11 K n) a b c i j d e g h).symm
theorem m160_0_0:∀ (α:Type) (K:KT α),F160_0_0 L160_0_0 α K=p160_0_0.unc fun σ=>loopT (runM Pg E160_0 sh160 c160_0_11) td160_11 K fuel σ:=fun α K=>by funext a b c d e g h i j;exact t160_0_0 α K fuel a b c d e g h i j
abbrev Tf160_0:Type 1:=(α:Type)->Int->(Int->Int->Op α)->Op α
def f160_0g (c:TL160_0_0)(d:Tf103_0)(α:Type)(a:Int)(k1:Int->Int->Op α):Op α:=
 d α 2251799813685248
 (fun b=>c α a
 (fun e l m g h i j=>cK (a == e)
 (k1 g h)
 (k1 i j)) 0 524288 67108864 0 b b)
def f160_0 (α:Type)(a:Int)(k1:Int->Int->Op α):Op α:=f160_0g L160_0_0 f103_0 α a k1
def pa160_0:PT (List DV):=pA [vI]
def Fn160_0 (v:Tf160_0)(α:Type)(k:RT α):Int->Op α:=fun a=>v α a (fun b c=>ur160_0_0 k b c)
def cm160_0g (a:TL160_0_0):MCode:=(MCode.put (.m [⟨p160_0_0,F160_0_0 a⟩]) [1,1,1,1,0,0] (emb ac160))
def cm160_0:MCode:=cm160_0g L160_0_0
theorem gm160_0:cm160_0.Good Pg E160_0 sh160:=(put_loop (td:=td160_11) (by kernel_rfl) (emb_good ac160) ⟨m160_0_0,TT⟩)
theorem em160_0:cm160_0.erase=ac160:=((put_erase _ _).trans (emb_erase _))
theorem fm160_0g (a:Tf103_0)(c:Tf162_0)(b:TL160_0_0)(α:Type)(k:RT α):Fn160_0 (f160_0g b a) α k=pa160_0.unc fun ds=>fnM Pg (E160_0g a c) sh160 (cm160_0g b) rs160 k ds:=by kernel_rfl
theorem fm160_0:∀ (α:Type) (k:RT α),Fn160_0 f160_0 α k=pa160_0.unc fun ds=>fnM Pg E160_0 sh160 cm160_0 rs160 k ds:=fm160_0g f103_0 f162_0 L160_0_0
theorem is160:FnIs Pg 160 nt160 tr160 tl160 ac160 rs160:=codeF_is Tryz.func160 (by kernel_rfl)
theorem io160_0:InstOk Pg 160 nt160 ⟨pa160_0,Fn160_0 f160_0⟩:=inst_ok eo160_0 followsTry is160 ⟨⟨sh160,cm160_0,em160_0,gm160_0,fm160_0⟩⟩
abbrev nt128:Nat:=39
def sh128:SG:=[]
def tr128:TG:=[tT 0 [0,1,2],tT 1 [2,7,8],tT 2 [2,7,8,22],tT 3 [6],tT 4 [9,10],tT 5 [9,10,32],tT 6 [6],tT 7 [9,34],tT 8 [9],tT 9 [6]]
def tl128:TG:=[]
def ac128:ACode:=codeF Pg Tryz.f128 tr128 tl128
def rs128:List AResV:=resF Pg Tryz.f128
def pr128_0_0:PT (List RV):=pRs [wI]
def ur128_0_0 {β:Type}(g:List RV->β):Int->β:=pr128_0_0.unc g
def E128_0g (a:Tf136_0)(b:Tf137_0):EnvK:=EnvK.of [⟨136,nt136,[⟨pa136_0,Fn136_0 a⟩]⟩,⟨137,nt137,[⟨pa137_0,Fn137_0 b⟩]⟩] noSeq
def E128_0:EnvK:=E128_0g f136_0 f137_0
theorem eo128_0:E128_0.Ok Pg:=EnvK.of_ok noSeq_ok ⟨⟨io136_0,TT⟩,⟨io137_0,TT⟩,TT⟩
abbrev Tf128_0:Type 1:=(α:Type)->Int->Int->Int->(Int->Op α)->Op α
def f128_0g (d:Tf136_0)(e:Tf137_0)(α:Type)(g h b:Int)(k1:Int->Op α):Op α:=
 d α (IntKind.wrap .u64 (g)) (IntKind.wrap .u64 (h))
 (fun c i=>cK (decide ((IntKind.wrap .u64 (b))<=c))
 (k1 2147483647)
 (e α c i (IntKind.wrap .u64 (b))
 (fun a j=>cK (decide (2147483647<=a))
 (k1 2147483647)
 (cK (j != 0)
 (k1 (w64 ((IntKind.wrap .u64 (a+1)))))
 (k1 (w64 (a)))))))
def f128_0 (α:Type)(a b c:Int)(k1:Int->Op α):Op α:=f128_0g f136_0 f137_0 α a b c k1
def pa128_0:PT (List DV):=pA [vI,vI,vI]
def Fn128_0 (v:Tf128_0)(α:Type)(k:RT α):Int->Int->Int->Op α:=fun a b c=>v α a b c (fun d=>ur128_0_0 k d)
def cm128_0g:MCode:=(emb ac128)
def cm128_0:MCode:=cm128_0g
theorem gm128_0:cm128_0.Good Pg E128_0 sh128:=(emb_good ac128)
theorem em128_0:cm128_0.erase=ac128:=(emb_erase _)
theorem fm128_0g (a:Tf136_0)(b:Tf137_0)(α:Type)(k:RT α):Fn128_0 (f128_0g a b) α k=pa128_0.unc fun ds=>fnM Pg (E128_0g a b) sh128 (cm128_0g ) rs128 k ds:=by kernel_rfl
theorem fm128_0:∀ (α:Type) (k:RT α),Fn128_0 f128_0 α k=pa128_0.unc fun ds=>fnM Pg E128_0 sh128 cm128_0 rs128 k ds:=fm128_0g f136_0 f137_0
theorem is128:FnIs Pg 128 nt128 tr128 tl128 ac128 rs128:=codeF_is Tryz.func128 (by kernel_rfl)
theorem io128_0:InstOk Pg 128 nt128 ⟨pa128_0,Fn128_0 f128_0⟩:=inst_ok eo128_0 followsTry is128 ⟨⟨sh128,cm128_0,em128_0,gm128_0,fm128_0⟩⟩
abbrev nt105:Nat:=63
def sh105:SG:=[]
def tr105:TG:=[tT 0 [0,1,2],tT 1 [0,2,8,9],tT 2 [0,2,8,9,24],tT 3 [6,7],tT 4 [0,2,10,11],tT 5 [0,2,10,11,34],tT 6 [6,7],tT 7 [0,2,6,7,11],tT 8 [0,6,7,54],tT 9 [0,6,7],tT 10 [6,7,58],tT 11 [6,7],tT 12 [6,7]]
def tl105:TG:=[]
def ac105:ACode:=codeF Pg Tryz.f105 tr105 tl105
def rs105:List AResV:=resF Pg Tryz.f105
def p105_0_0:PT St:=pS [sI 0,sI 2,sI 6,sY 7 dB,sY 11 (dI .u64)] []
def u105_0_0 {β:Type}(g:St->β):Int->Int->Int->Bool->Int->β:=p105_0_0.unc g
def p105_0_1:PT St:=pS [sI 0,sI 6,sY 7 dB,sY 54 dB] []
def u105_0_1 {β:Type}(g:St->β):Int->Int->Bool->Bool->β:=p105_0_1.unc g
def pr105_0_0:PT (List RV):=pRs [wI,pR false [rD dB]]
def ur105_0_0 {β:Type}(g:List RV->β):Int->Bool->β:=pr105_0_0.unc g
def E105_0g (a:Tf104_0)(b:Tf136_0)(c:Tf137_0):EnvK:=EnvK.of [⟨104,nt104,[⟨pa104_0,Fn104_0 a⟩]⟩,⟨136,nt136,[⟨pa136_0,Fn136_0 b⟩]⟩,⟨137,nt137,[⟨pa137_0,Fn137_0 c⟩]⟩] noSeq
def E105_0:EnvK:=E105_0g f104_0 f136_0 f137_0
theorem eo105_0:E105_0.Ok Pg:=EnvK.of_ok noSeq_ok ⟨⟨io104_0,TT⟩,⟨io136_0,TT⟩,⟨io137_0,TT⟩,TT⟩
def c105_0_22g:MCode:=MCode.sub [1,1,1,1,1,1,0,0] (emb ac105)
def c105_0_22:MCode:=c105_0_22g
abbrev TJ105_0_0:Type 1:=(α:Type)->Int->Int->Int->(Bool->Op α)->Op α
def J105_0_0g (α:Type)(c a b:Int)(k1:Bool->Op α):Op α:=
 cK (decide ((IntKind.wrap .u64 (a)) < (IntKind.wrap .u64 (2*b))))
 (k1 true)
 (cK (decide (0<=c))
 (k1 ((IntKind.wrap .u64 (2*b)) == (IntKind.wrap .u64 (a))))
 (k1 false))
def J105_0_0 (α:Type)(a b c:Int)(k1:Bool->Op α):Op α:=J105_0_0g α a b c k1
def F105_0_0 (v:TJ105_0_0)(α:Type)(K:KT α):Int->Int->Int->Bool->Int->Op α:=fun a b c d e=>v α a b e (fun g=>u105_0_1 (K .normal) a c d g)
theorem m105_0_0g (a:Tf104_0)(b:Tf136_0)(c:Tf137_0)(α:Type)(K:KT α):F105_0_0 (J105_0_0g ) α K=p105_0_0.unc fun σ=>runM Pg (E105_0g a b c) sh105 (c105_0_22g ) K σ:=by kernel_rfl
theorem m105_0_0:∀ (α:Type) (K:KT α),F105_0_0 J105_0_0 α K=p105_0_0.unc fun σ=>runM Pg E105_0 sh105 c105_0_22 K σ:=m105_0_0g f104_0 f136_0 f137_0
abbrev Tf105_0:Type 1:=(α:Type)->Int->Int->Int->(Int->Bool->Op α)->Op α
def f105_0g (g:TJ105_0_0)(h:Tf104_0)(i:Tf136_0)(j:Tf137_0)(α:Type)(c l d:Int)(k1:Int->Bool->Op α):Op α:=
 h α c
 (fun m=>i α (IntKind.wrap .u64 (m)) (IntKind.wrap .u64 (l))
 (fun e o=>cK (decide ((IntKind.wrap .u64 (d))<=e))
 (k1 2147483647 false)
 (j α e o (IntKind.wrap .u64 (d))
 (fun a b=>cK (decide (2147483647 < a))
 (k1 2147483647 false)
 (g α c d b
 (fun p=>cK p
 (cK (decide (c < 0))
 (k1 (w64 (0 - (w64 ((w64 (a))+1)))) (b != 0))
 (k1 (w64 ((w64 (a))+1)) (b != 0)))
 (cK (decide (c < 0))
 (k1 (w64 (0 - (w64 (a)))) (b != 0))
 (k1 (w64 (a)) (b != 0)))))))))
def f105_0 (α:Type)(a b c:Int)(k1:Int->Bool->Op α):Op α:=f105_0g J105_0_0 f104_0 f136_0 f137_0 α a b c k1
def pa105_0:PT (List DV):=pA [vI,vI,vI]
def Fn105_0 (v:Tf105_0)(α:Type)(k:RT α):Int->Int->Int->Op α:=fun a b c=>v α a b c (fun d e=>ur105_0_0 k d e)
def cm105_0g (a:TJ105_0_0):MCode:=(MCode.put (.m [⟨p105_0_0,F105_0_0 a⟩]) [1,1,1,1,1,1,0] (emb ac105))
def cm105_0:MCode:=cm105_0g J105_0_0
theorem gm105_0:cm105_0.Good Pg E105_0 sh105:=(put_seq (by kernel_rfl) (emb_good ac105) ⟨m105_0_0,TT⟩)
theorem em105_0:cm105_0.erase=ac105:=((put_erase _ _).trans (emb_erase _))
theorem fm105_0g (a:Tf104_0)(b:Tf136_0)(c:Tf137_0)(d:TJ105_0_0)(α:Type)(k:RT α):Fn105_0 (f105_0g d a b c) α k=pa105_0.unc fun ds=>fnM Pg (E105_0g a b c) sh105 (cm105_0g d) rs105 k ds:=by kernel_rfl
theorem fm105_0:∀ (α:Type) (k:RT α),Fn105_0 f105_0 α k=pa105_0.unc fun ds=>fnM Pg E105_0 sh105 cm105_0 rs105 k ds:=fm105_0g f104_0 f136_0 f137_0 J105_0_0
theorem is105:FnIs Pg 105 nt105 tr105 tl105 ac105 rs105:=codeF_is Tryz.func105 (by kernel_rfl)
theorem io105_0:InstOk Pg 105 nt105 ⟨pa105_0,Fn105_0 f105_0⟩:=inst_ok eo105_0 followsTry is105 ⟨⟨sh105,cm105_0,em105_0,gm105_0,fm105_0⟩⟩
abbrev nt109:Nat:=6
def sh109:SG:=[(3,iS 2)]
def tr109:TG:=[tT 0 [1],tT 1 [2]]
def tl109:TG:=[]
def ac109:ACode:=codeF Pg Tryz.f109 tr109 tl109
def rs109:List AResV:=resF Pg Tryz.f109
def pr109_0_0:PT (List RV):=pRs [wI]
def ur109_0_0 {β:Type}(g:List RV->β):Int->β:=pr109_0_0.unc g
def E109_0g (a:Tf127_0)(b:Tf106_0):EnvK:=EnvK.of [⟨127,nt127,[⟨pa127_0,Fn127_0 a⟩]⟩,⟨106,nt106,[⟨pa106_0,Fn106_0 b⟩]⟩] noSeq
def E109_0:EnvK:=E109_0g f127_0 f106_0
theorem eo109_0:E109_0.Ok Pg:=EnvK.of_ok noSeq_ok ⟨⟨io127_0,TT⟩,⟨io106_0,TT⟩,TT⟩
abbrev Tf109_0:Type 1:=(α:Type)->Int->Int->(Int->Op α)->Op α
def f109_0g (a:Tf106_0)(b:Tf127_0)(α:Type)(c d:Int)(k1:Int->Op α):Op α:=
 b α c d
 (fun e=>a α e
 (fun g=>k1 g))
def f109_0 (α:Type)(a b:Int)(k1:Int->Op α):Op α:=f109_0g f106_0 f127_0 α a b k1
def pa109_0:PT (List DV):=pA [pV true [(dI .i64),(dI .i64)]]
def Fn109_0 (v:Tf109_0)(α:Type)(k:RT α):Int->Int->Op α:=fun a b=>v α a b (fun c=>ur109_0_0 k c)
def cm109_0g:MCode:=(emb ac109)
def cm109_0:MCode:=cm109_0g
theorem gm109_0:cm109_0.Good Pg E109_0 sh109:=(emb_good ac109)
theorem em109_0:cm109_0.erase=ac109:=(emb_erase _)
theorem fm109_0g (a:Tf127_0)(b:Tf106_0)(α:Type)(k:RT α):Fn109_0 (f109_0g b a) α k=pa109_0.unc fun ds=>fnM Pg (E109_0g a b) sh109 (cm109_0g ) rs109 k ds:=by kernel_rfl
theorem fm109_0:∀ (α:Type) (k:RT α),Fn109_0 f109_0 α k=pa109_0.unc fun ds=>fnM Pg E109_0 sh109 cm109_0 rs109 k ds:=fm109_0g f127_0 f106_0
theorem is109:FnIs Pg 109 nt109 tr109 tl109 ac109 rs109:=codeF_is Tryz.func109 (by kernel_rfl)
theorem io109_0:InstOk Pg 109 nt109 ⟨pa109_0,Fn109_0 f109_0⟩:=inst_ok eo109_0 followsTry is109 ⟨⟨sh109,cm109_0,em109_0,gm109_0,fm109_0⟩⟩
abbrev nt107:Nat:=37
def sh107:SG:=[(16,[.flt .f64,.flt .f64]),(25,[.flt .f64,.flt .f64])]
def tr107:TG:=[tT 0 [0,1,4],tT 1 [0,1,4,6],tT 2 [0,1,4,6,16,17],tT 3 [0,1,4,6,16,17,18],tT 4 [0,1,4,6,8,16,17],tT 5 [0,1,4,6,16,17,22],tT 6 [4,5],tT 7 [0,1,4,6,16,17],tT 8 [0,1,4,25,26],tT 9 [0,1,4,25,26,27],tT 10 [0,1,4,10,25,26],tT 11 [0,1,4,25,26,32],tT 12 [4,5],tT 13 [0,1,4,25,26],tT 14 [4,5]]
def tl107:TG:=[tT 3 [0,1,4,6,16,17],tT 9 [0,1,4,25,26]]
def ac107:ACode:=codeF Pg Tryz.f107 tr107 tl107
def rs107:List AResV:=resF Pg Tryz.f107
def td107_9:OT:=tdC (MCode.sub [1,1,0,1,0] (emb ac107))
def td107_28:OT:=tdC (MCode.sub [1,1,1,0,1,0] (emb ac107))
def p107_0_0:PT St:=pS [sY 0 (dX .f64),sY 1 (dF .f64),sP 4,sP 6,sl 16 (aV true [(cD (dF .f64)),(cD (dF .f64))]),sI 17,sY 18 dB] [eBox 4 [xI,xI],eBox 6 [(cD (dF .f64)),(cD (dF .f64))]]
def u107_0_0 {β:Type}(g:St->β):Nat->Nat->Nat->Nat->Nat->Int->Bool->Int->Int->Nat->Nat->β:=p107_0_0.unc g
def p107_0_1:PT St:=pS [sY 0 (dX .f64),sY 1 (dF .f64),sP 4,sP 6,sY 8 (dF .f64),sl 16 (aV true [(cD (dF .f64)),(cD (dF .f64))]),sI 17] [eBox 4 [xI,xI],eBox 6 [(cD (dF .f64)),(cD (dF .f64))]]
def u107_0_1 {β:Type}(g:St->β):Nat->Nat->Nat->Nat->Nat->Nat->Int->Int->Int->Nat->Nat->β:=p107_0_1.unc g
def p107_0_2:PT St:=pS [sY 0 (dX .f64),sY 1 (dF .f64),sP 4,sP 6,sl 16 (aV true [(cD (dF .f64)),(cD (dF .f64))]),sI 17] [eBox 4 [xI,xI],eBox 6 [(cD (dF .f64)),(cD (dF .f64))]]
def u107_0_2 {β:Type}(g:St->β):Nat->Nat->Nat->Nat->Nat->Int->Int->Int->Nat->Nat->β:=p107_0_2.unc g
def p107_0_3:PT St:=pS [sP 4,sI 5] [eBox 4 [xI,xI]]
def u107_0_3 {β:Type}(g:St->β):Int->Int->Int->β:=p107_0_3.unc g
def p107_0_4:PT St:=pS [sY 0 (dX .f64),sY 1 (dF .f64),sP 4,sl 25 (aV true [(cD (dF .f64)),(cD (dF .f64))]),sI 26,sY 27 dB] [eBox 4 [xI,xI]]
def u107_0_4 {β:Type}(g:St->β):Nat->Nat->Nat->Nat->Nat->Int->Bool->Int->Int->β:=p107_0_4.unc g
def p107_0_5:PT St:=pS [sY 0 (dX .f64),sY 1 (dF .f64),sP 4,sY 10 (dF .f64),sl 25 (aV true [(cD (dF .f64)),(cD (dF .f64))]),sI 26] [eBox 4 [xI,xI]]
def u107_0_5 {β:Type}(g:St->β):Nat->Nat->Nat->Nat->Nat->Nat->Int->Int->Int->β:=p107_0_5.unc g
def p107_0_6:PT St:=pS [sY 0 (dX .f64),sY 1 (dF .f64),sP 4,sl 25 (aV true [(cD (dF .f64)),(cD (dF .f64))]),sI 26] [eBox 4 [xI,xI]]
def u107_0_6 {β:Type}(g:St->β):Nat->Nat->Nat->Nat->Nat->Int->Int->Int->β:=p107_0_6.unc g
def pr107_0_0:PT (List RV):=pRs [pR true [rD (dI .i64),rD (dI .i64)],wI]
def ur107_0_0 {β:Type}(g:List RV->β):Int->Int->Int->β:=pr107_0_0.unc g
def E107_0g (a:Tf138_0)(b:Tf139_0)(c:Tf140_0):EnvK:=EnvK.of [⟨138,nt138,[⟨pa138_0,Fn138_0 a⟩]⟩,⟨139,nt139,[⟨pa139_0,Fn139_0 b⟩]⟩,⟨140,nt140,[⟨pa140_0,Fn140_0 c⟩]⟩] noSeq
def E107_0:EnvK:=E107_0g f138_0 f139_0 f140_0
theorem eo107_0:E107_0.Ok Pg:=EnvK.of_ok noSeq_ok ⟨⟨io138_0,TT⟩,⟨io139_0,TT⟩,⟨io140_0,TT⟩,TT⟩
def c107_0_35g:MCode:=MCode.sub [1,1,1,0,1,0,0,1,1,0,0,0] (emb ac107)
def c107_0_35:MCode:=c107_0_35g
abbrev TJ107_0_2:Type 1:=(α:Type)->Nat->Nat->Int->(Nat->Op α)->Op α
def J107_0_2g (α:Type)(b c:Nat)(a:Int)(k1:Nat->Op α):Op α:=
 cK (a == 1)
 (k1 c)
 (cK (a == 0)
 (k1 b)
 (none))
def J107_0_2 (α:Type)(a b:Nat)(c:Int)(k1:Nat->Op α):Op α:=J107_0_2g α a b c k1
def F107_0_2 (v:TJ107_0_2)(α:Type)(K:KT α):Nat->Nat->Nat->Nat->Nat->Int->Bool->Int->Int->Op α:=fun d e g a b c l h i=>v α a b c (fun j=>u107_0_5 (K .normal) d e g j a b c h i)
theorem m107_0_2g (a:Tf138_0)(b:Tf139_0)(c:Tf140_0)(α:Type)(K:KT α):F107_0_2 (J107_0_2g ) α K=p107_0_4.unc fun σ=>runM Pg (E107_0g a b c) sh107 (c107_0_35g ) K σ:=by kernel_rfl
theorem m107_0_2:∀ (α:Type) (K:KT α),F107_0_2 J107_0_2 α K=p107_0_4.unc fun σ=>runM Pg E107_0 sh107 c107_0_35 K σ:=m107_0_2g f138_0 f139_0 f140_0
def c107_0_28g (a:TJ107_0_2):MCode:=MCode.sub [1,1,1,0,1,0,0] (MCode.put (.m [⟨p107_0_4,F107_0_2 a⟩]) [1,1,1,0,1,0,0,1,1,0,0] (emb ac107))
def c107_0_28:MCode:=c107_0_28g J107_0_2
def S107_0_3g (b:TJ107_0_2)(c:Tf139_0)(α:Type)(d e g:Nat)(a:Int)(kn:Int->Op α)(k1:Op α)(k2:Int->Bool->Op α):Op α:=
 cK (decide (a < 2))
 (b α e g a
 (fun h=>c α h
 (fun i=>cK ((FloatKind.format .f64).order i d == some Ordering.gt)
 (k1)
 (kn (w64 (a+1))))))
 (k2 a (decide (a < 2)))
def S107_0_3 (α:Type)(a b c:Nat)(d:Int)(kn:Int->Op α)(k1:Op α)(k2:Int->Bool->Op α):Op α:=S107_0_3g J107_0_2 f139_0 α a b c d kn k1 k2
def R107_0_3 (α:Type)(a b c:Nat)(k1:Op α)(k2:Int->Bool->Op α):Nat->Int->Op α
 | 0,_=>none
 | n+1,d=>S107_0_3 α a b c d (R107_0_3 α a b c k1 k2 n) k1 k2
def L107_0_3 (α:Type)(a b c:Nat)(k1:Op α)(k2:Int->Bool->Op α)(d:Int):Op α:=R107_0_3 α a b c k1 k2 fuel d
abbrev TL107_0_3:Type 1:=(α:Type)->Nat->Nat->Nat->(Op α)->(Int->Bool->Op α)->Int->Op α
def F107_0_3 (v:TL107_0_3)(α:Type)(K:KT α):Nat->Nat->Nat->Nat->Nat->Int->Int->Int->Op α:=fun d e a b c g h i=>v α a b c (u107_0_3 (K .ret) 2 0 0) (fun j l=>u107_0_4 (K (.exit 2)) d e a b c j l h i) g
theorem r107_0_3g (m:Tf138_0)(j:Tf139_0)(o:Tf140_0)(l:TJ107_0_2)(α:Type)(K:KT α)(Kn:SK α)(e g a b c:Nat)(d h i:Int):u107_0_6 (fun σ=>runM Pg (E107_0g m j o) sh107 (c107_0_28g l) (thenK (fun σ=>tidyK td107_28 σ Kn) K) σ) e g a b c d h i=S107_0_3g l j α a b c d (fun d=>u107_0_6 Kn e g a b c d h i) (u107_0_3 (K .ret) 2 0 0) (fun p q=>u107_0_4 (K (.exit 2)) e g a b c p q h i):=by kernel_rfl
theorem r107_0_3 (α:Type)(K:KT α)(Kn:SK α)(e g a b c:Nat)(d h i:Int):u107_0_6 (fun σ=>runM Pg E107_0 sh107 c107_0_28 (thenK (fun σ=>tidyK td107_28 σ Kn) K) σ) e g a b c d h i=S107_0_3 α a b c d (fun d=>u107_0_6 Kn e g a b c d h i) (u107_0_3 (K .ret) 2 0 0) (fun j l=>u107_0_4 (K (.exit 2)) e g a b c j l h i):=r107_0_3g f138_0 f139_0 f140_0 J107_0_2 α K Kn e g a b c d h i
theorem t107_0_3 (α:Type)(K:KT α):∀ (n:Nat) (e g a b c:Nat) (d h i:Int),R107_0_3 α a b c (u107_0_3 (K .ret) 2 0 0) (fun j l=>u107_0_4 (K (.exit 2)) e g a b c j l h i) n d=u107_0_6 (loopT (runM Pg E107_0 sh107 c107_0_28) td107_28 K n) e g a b c d h i:=by
 intro n
 induction n with
 | zero=>intros;rfl
 | succ n ih=>intro e g a b c d h i;exact (congrArg (fun kn=>S107_0_3 α a b c d kn (u107_0_3 (K .ret) 2 0 0) (fun j l=>u107_0_4 (K (.exit 2)) e g a b c j l h i)) (funext fun d=>ih e g a b c d h i)).trans (r107_0_3 α K (loopT (runM Pg E107_0 sh107 c107_0_28) td107_28 K n) e g a b c d h i).symm
theorem m107_0_3:∀ (α:Type) (K:KT α),F107_0_3 L107_0_3 α K=p107_0_6.unc fun σ=>loopT (runM Pg E107_0 sh107 c107_0_28) td107_28 K fuel σ:=fun α K=>by funext a b c d e g h i;exact t107_0_3 α K fuel a b c d e g h i
def c107_0_16g:MCode:=MCode.sub [1,1,0,1,0,0,1,1,0,0,0] (emb ac107)
def c107_0_16:MCode:=c107_0_16g
abbrev TJ107_0_0:Type 1:=(α:Type)->Nat->Nat->Int->(Nat->Op α)->Op α
def J107_0_0g (α:Type)(b c:Nat)(a:Int)(k1:Nat->Op α):Op α:=
 cK (a == 1)
 (k1 c)
 (cK (a == 0)
 (k1 b)
 (none))
def J107_0_0 (α:Type)(a b:Nat)(c:Int)(k1:Nat->Op α):Op α:=J107_0_0g α a b c k1
def F107_0_0 (v:TJ107_0_0)(α:Type)(K:KT α):Nat->Nat->Nat->Nat->Nat->Int->Bool->Int->Int->Nat->Nat->Op α:=fun d e g a b c o h i j l=>v α a b c (fun m=>u107_0_1 (K .normal) d e g m a b c h i j l)
theorem m107_0_0g (a:Tf138_0)(b:Tf139_0)(c:Tf140_0)(α:Type)(K:KT α):F107_0_0 (J107_0_0g ) α K=p107_0_0.unc fun σ=>runM Pg (E107_0g a b c) sh107 (c107_0_16g ) K σ:=by kernel_rfl
theorem m107_0_0:∀ (α:Type) (K:KT α),F107_0_0 J107_0_0 α K=p107_0_0.unc fun σ=>runM Pg E107_0 sh107 c107_0_16 K σ:=m107_0_0g f138_0 f139_0 f140_0
def c107_0_9g (a:TJ107_0_0):MCode:=MCode.sub [1,1,0,1,0,0] (MCode.put (.m [⟨p107_0_0,F107_0_0 a⟩]) [1,1,0,1,0,0,1,1,0,0] (emb ac107))
def c107_0_9:MCode:=c107_0_9g J107_0_0
def S107_0_1g (b:TJ107_0_0)(c:Tf138_0)(α:Type)(d e:Nat)(a:Int)(kn:Int->Op α)(k1:Op α)(k2:Int->Bool->Op α):Op α:=
 cK (decide (a < 2))
 (b α d e a
 (fun g=>c α g
 (fun h=>cK (!h)
 (k1)
 (kn (w64 (a+1))))))
 (k2 a (decide (a < 2)))
def S107_0_1 (α:Type)(a b:Nat)(c:Int)(kn:Int->Op α)(k1:Op α)(k2:Int->Bool->Op α):Op α:=S107_0_1g J107_0_0 f138_0 α a b c kn k1 k2
def R107_0_1 (α:Type)(a b:Nat)(k1:Op α)(k2:Int->Bool->Op α):Nat->Int->Op α
 | 0,_=>none
 | n+1,c=>S107_0_1 α a b c (R107_0_1 α a b k1 k2 n) k1 k2
def L107_0_1 (α:Type)(a b:Nat)(k1:Op α)(k2:Int->Bool->Op α)(c:Int):Op α:=R107_0_1 α a b k1 k2 fuel c
abbrev TL107_0_1:Type 1:=(α:Type)->Nat->Nat->(Op α)->(Int->Bool->Op α)->Int->Op α
def F107_0_1 (v:TL107_0_1)(α:Type)(K:KT α):Nat->Nat->Nat->Nat->Nat->Int->Int->Int->Nat->Nat->Op α:=fun c d e a b g h i j l=>v α a b (u107_0_3 (K .ret) 27 0 0) (fun m o=>u107_0_0 (K (.exit 0)) c d e a b m o h i j l) g
theorem r107_0_1g (m:Tf138_0)(p:Tf139_0)(q:Tf140_0)(o:TJ107_0_0)(α:Type)(K:KT α)(Kn:SK α)(d e g a b:Nat)(c h i:Int)(j l:Nat):u107_0_2 (fun σ=>runM Pg (E107_0g m p q) sh107 (c107_0_9g o) (thenK (fun σ=>tidyK td107_9 σ Kn) K) σ) d e g a b c h i j l=S107_0_1g o m α a b c (fun c=>u107_0_2 Kn d e g a b c h i j l) (u107_0_3 (K .ret) 27 0 0) (fun r s=>u107_0_0 (K (.exit 0)) d e g a b r s h i j l):=by kernel_rfl
theorem r107_0_1 (α:Type)(K:KT α)(Kn:SK α)(d e g a b:Nat)(c h i:Int)(j l:Nat):u107_0_2 (fun σ=>runM Pg E107_0 sh107 c107_0_9 (thenK (fun σ=>tidyK td107_9 σ Kn) K) σ) d e g a b c h i j l=S107_0_1 α a b c (fun c=>u107_0_2 Kn d e g a b c h i j l) (u107_0_3 (K .ret) 27 0 0) (fun m o=>u107_0_0 (K (.exit 0)) d e g a b m o h i j l):=r107_0_1g f138_0 f139_0 f140_0 J107_0_0 α K Kn d e g a b c h i j l
theorem t107_0_1 (α:Type)(K:KT α):∀ (n:Nat) (d e g a b:Nat) (c h i:Int) (j l:Nat),R107_0_1 α a b (u107_0_3 (K .ret) 27 0 0) (fun m o=>u107_0_0 (K (.exit 0)) d e g a b m o h i j l) n c=u107_0_2 (loopT (runM Pg E107_0 sh107 c107_0_9) td107_9 K n) d e g a b c h i j l:=by
 intro n
 induction n with
 | zero=>intros;rfl
 | succ n ih=>intro d e g a b c h i j l;exact (congrArg (fun kn=>S107_0_1 α a b c kn (u107_0_3 (K .ret) 27 0 0) (fun m o=>u107_0_0 (K (.exit 0)) d e g a b m o h i j l)) (funext fun c=>ih d e g a b c h i j l)).trans (r107_0_1 α K (loopT (runM Pg E107_0 sh107 c107_0_9) td107_9 K n) d e g a b c h i j l).symm
theorem m107_0_1:∀ (α:Type) (K:KT α),F107_0_1 L107_0_1 α K=p107_0_2.unc fun σ=>loopT (runM Pg E107_0 sh107 c107_0_9) td107_9 K fuel σ:=fun α K=>by funext a b c d e g h i j l;exact t107_0_1 α K fuel a b c d e g h i j l
abbrev Tf107_0:Type 1:=(α:Type)->Nat->Nat->Nat->(Int->Int->Int->Op α)->Op α
def f107_0g (c:TL107_0_1)(d:TL107_0_3)(e:Tf140_0)(α:Type)(a b g:Nat)(k1:Int->Int->Int->Op α):Op α:=
 c α a b
 (k1 0 0 27)
 (fun j l=>d α g a b
 (k1 0 0 2)
 (fun m o=>e α a b
 (fun h i=>k1 h i 0)) 0) 0
def f107_0 (α:Type)(a b c:Nat)(k1:Int->Int->Int->Op α):Op α:=f107_0g L107_0_1 L107_0_3 f140_0 α a b c k1
def pa107_0:PT (List DV):=pA [pV false [(dX .f64)],pV false [(dF .f64)]]
def Fn107_0 (v:Tf107_0)(α:Type)(k:RT α):Nat->Nat->Nat->Op α:=fun a b c=>v α a b c (fun d e g=>ur107_0_0 k d e g)
def cm107_0g (a:TL107_0_1)(b:TL107_0_3):MCode:=(MCode.put (.m [⟨p107_0_2,F107_0_1 a⟩]) [1,1,0,1,0] (MCode.put (.m [⟨p107_0_0,F107_0_0 J107_0_0⟩]) [1,1,0,1,0,0,1,1,0,0] (MCode.put (.m [⟨p107_0_6,F107_0_3 b⟩]) [1,1,1,0,1,0] (MCode.put (.m [⟨p107_0_4,F107_0_2 J107_0_2⟩]) [1,1,1,0,1,0,0,1,1,0,0] (emb ac107)))))
def cm107_0:MCode:=cm107_0g L107_0_1 L107_0_3
theorem gm107_0:cm107_0.Good Pg E107_0 sh107:=(put_loop (td:=td107_9) (by kernel_rfl) (put_seq (by kernel_rfl) (put_loop (td:=td107_28) (by kernel_rfl) (put_seq (by kernel_rfl) (emb_good ac107) ⟨m107_0_2,TT⟩) ⟨m107_0_3,TT⟩) ⟨m107_0_0,TT⟩) ⟨m107_0_1,TT⟩)
theorem em107_0:cm107_0.erase=ac107:=((put_erase _ _).trans ((put_erase _ _).trans ((put_erase _ _).trans ((put_erase _ _).trans (emb_erase _)))))
theorem fm107_0g (d:Tf138_0)(e:Tf139_0)(a:Tf140_0)(b:TL107_0_1)(c:TL107_0_3)(α:Type)(k:RT α):Fn107_0 (f107_0g b c a) α k=pa107_0.unc fun ds=>fnM Pg (E107_0g d e a) sh107 (cm107_0g b c) rs107 k ds:=by kernel_rfl
theorem fm107_0:∀ (α:Type) (k:RT α),Fn107_0 f107_0 α k=pa107_0.unc fun ds=>fnM Pg E107_0 sh107 cm107_0 rs107 k ds:=fm107_0g f138_0 f139_0 f140_0 L107_0_1 L107_0_3
theorem is107:FnIs Pg 107 nt107 tr107 tl107 ac107 rs107:=codeF_is Tryz.func107 (by kernel_rfl)
theorem io107_0:InstOk Pg 107 nt107 ⟨pa107_0,Fn107_0 f107_0⟩:=inst_ok eo107_0 followsTry is107 ⟨⟨sh107,cm107_0,em107_0,gm107_0,fm107_0⟩⟩
abbrev nt131:Nat:=32
def sh131:SG:=[]
def tr131:TG:=[tT 0 [0,1,4],tT 1 [0,1,4,15],tT 2 [4,5],tT 3 [4,6,7],tT 4 [4,5]]
def tl131:TG:=[]
def ac131:ACode:=codeF Pg Tryz.f131 tr131 tl131
def rs131:List AResV:=resF Pg Tryz.f131
def pr131_0_0:PT (List RV):=pRs [pR true [rD (dX .f64),rD (dI .i64)],wI]
def ur131_0_0 {β:Type}(g:List RV->β):Nat->Nat->Int->Int->β:=pr131_0_0.unc g
def E131_0g (a:Tf102_0)(b:Tf108_0)(c:Tf123_0)(d:Tf124_0)(e:Tf134_0):EnvK:=EnvK.of [⟨102,nt102,[⟨pa102_0,Fn102_0 a⟩]⟩,⟨108,nt108,[⟨pa108_0,Fn108_0 b⟩]⟩,⟨123,nt123,[⟨pa123_0,Fn123_0 c⟩]⟩,⟨124,nt124,[⟨pa124_0,Fn124_0 d⟩]⟩,⟨134,nt134,[⟨pa134_0,Fn134_0 e⟩]⟩] noSeq
def E131_0:EnvK:=E131_0g f102_0 f108_0 f123_0 f124_0 f134_0
theorem eo131_0:E131_0.Ok Pg:=EnvK.of_ok noSeq_ok ⟨⟨io102_0,TT⟩,⟨io108_0,TT⟩,⟨io123_0,TT⟩,⟨io124_0,TT⟩,⟨io134_0,TT⟩,TT⟩
abbrev Tf131_0:Type 1:=(α:Type)->Int->Int->(Nat->Nat->Int->Int->Op α)->Op α
def f131_0g (c:Tf102_0)(d:Tf108_0)(e:Tf123_0)(g:Tf124_0)(h:Tf134_0)(α:Type)(a b:Int)(k1:Nat->Nat->Int->Int->Op α):Op α:=
 c α a 1000000000
 (fun i=>cK (!i)
 (k1 0 0 0 2)
 (d α b 1 1000000000
 (fun j=>cK (!j)
 (k1 0 0 0 2)
 (e α (w64 (a*1048576)) b
 (fun l m=>g α m
 (fun o=>h α l 0 o
 (fun p q r s=>k1 p q r s)))))))
def f131_0 (α:Type)(a b:Int)(k1:Nat->Nat->Int->Int->Op α):Op α:=f131_0g f102_0 f108_0 f123_0 f124_0 f134_0 α a b k1
def pa131_0:PT (List DV):=pA [vI,vI]
def Fn131_0 (v:Tf131_0)(α:Type)(k:RT α):Int->Int->Op α:=fun a b=>v α a b (fun c d e g=>ur131_0_0 k c d e g)
def cm131_0g:MCode:=(emb ac131)
def cm131_0:MCode:=cm131_0g
theorem gm131_0:cm131_0.Good Pg E131_0 sh131:=(emb_good ac131)
theorem em131_0:cm131_0.erase=ac131:=(emb_erase _)
theorem fm131_0g (a:Tf102_0)(b:Tf108_0)(c:Tf123_0)(d:Tf124_0)(e:Tf134_0)(α:Type)(k:RT α):Fn131_0 (f131_0g a b c d e) α k=pa131_0.unc fun ds=>fnM Pg (E131_0g a b c d e) sh131 (cm131_0g ) rs131 k ds:=by kernel_rfl
theorem fm131_0:∀ (α:Type) (k:RT α),Fn131_0 f131_0 α k=pa131_0.unc fun ds=>fnM Pg E131_0 sh131 cm131_0 rs131 k ds:=fm131_0g f102_0 f108_0 f123_0 f124_0 f134_0
theorem is131:FnIs Pg 131 nt131 tr131 tl131 ac131 rs131:=codeF_is Tryz.func131 (by kernel_rfl)
theorem io131_0:InstOk Pg 131 nt131 ⟨pa131_0,Fn131_0 f131_0⟩:=inst_ok eo131_0 followsTry is131 ⟨⟨sh131,cm131_0,em131_0,gm131_0,fm131_0⟩⟩
abbrev nt98:Nat:=40
def sh98:SG:=[(7,iT),(12,iT),(19,iT),(21,iT),(25,iT),(27,iT),(33,iT)]
def tr98:TG:=[tT 0 [1,2],tT 1 [1,2,5],tT 2 [2,3],tT 3 [1,2,17],tT 4 [2,3],tT 5 [1,2,4],tT 6 [2,3]]
def tl98:TG:=[]
def ac98:ACode:=codeF Pg Tryz.f98 tr98 tl98
def rs98:List AResV:=resF Pg Tryz.f98
def p98_0_0:PT St:=pS [sP 1,sP 2] [eBox 1 [xI,xI],eBox 2 [(cD (dX .f64)),xI]]
def u98_0_0 {β:Type}(g:St->β):Int->Int->Nat->Nat->Int->β:=p98_0_0.unc g
def p98_0_1:PT St:=pS [sP 1,sP 2,sY 5 dB] [eBox 1 [xI,xI],eBox 2 [(cD (dX .f64)),xI]]
def u98_0_1 {β:Type}(g:St->β):Bool->Int->Int->Nat->Nat->Int->β:=p98_0_1.unc g
def pr98_0_0:PT (List RV):=pRs [pR true [rD (dX .f64),rD (dI .i64)],wI]
def ur98_0_0 {β:Type}(g:List RV->β):Nat->Nat->Int->Int->β:=pr98_0_0.unc g
def E98_0g (a:Tf102_0)(b:Tf68_0)(c:Tf134_0):EnvK:=EnvK.of [⟨102,nt102,[⟨pa102_0,Fn102_0 a⟩]⟩,⟨68,nt68,[⟨pa68_0,Fn68_0 b⟩]⟩,⟨134,nt134,[⟨pa134_0,Fn134_0 c⟩]⟩] noSeq
def E98_0:EnvK:=E98_0g f102_0 f68_0 f134_0
theorem eo98_0:E98_0.Ok Pg:=EnvK.of_ok noSeq_ok ⟨⟨io102_0,TT⟩,⟨io68_0,TT⟩,⟨io134_0,TT⟩,TT⟩
def c98_0_5g:MCode:=MCode.sub [1,0,0,0] (emb ac98)
def c98_0_5:MCode:=c98_0_5g
abbrev TJ98_0_0:Type 1:=(α:Type)->Int->Int->(Bool->Op α)->Op α
def J98_0_0g (a:Tf102_0)(α:Type)(b c:Int)(k1:Bool->Op α):Op α:=
 a α b 67108864
 (fun d=>cK (!d)
 (k1 true)
 (a α c 67108864
 (fun e=>k1 (!e))))
def J98_0_0 (α:Type)(a b:Int)(k1:Bool->Op α):Op α:=J98_0_0g f102_0 α a b k1
def F98_0_0 (v:TJ98_0_0)(α:Type)(K:KT α):Int->Int->Nat->Nat->Int->Op α:=fun a b c d e=>v α a b (fun g=>u98_0_1 (K .normal) g a b c d e)
theorem m98_0_0g (a:Tf102_0)(b:Tf68_0)(c:Tf134_0)(α:Type)(K:KT α):F98_0_0 (J98_0_0g a) α K=p98_0_0.unc fun σ=>runM Pg (E98_0g a b c) sh98 (c98_0_5g ) K σ:=by kernel_rfl
theorem m98_0_0:∀ (α:Type) (K:KT α),F98_0_0 J98_0_0 α K=p98_0_0.unc fun σ=>runM Pg E98_0 sh98 c98_0_5 K σ:=m98_0_0g f102_0 f68_0 f134_0
abbrev Tf98_0:Type 1:=(α:Type)->Int->Int->(Nat->Nat->Int->Int->Op α)->Op α
def f98_0g (d:TJ98_0_0)(e:Tf134_0)(g:Tf68_0)(α:Type)(b a:Int)(k1:Nat->Nat->Int->Int->Op α):Op α:=
 d α b a
 (fun h=>cK h
 (k1 0 0 0 2)
 (cK (decide (a < b))
 (k1 0 0 0 10)
 (g α (w64 (b+a)) 2
 (fun c=>e α c 0 (w64 (a - c))
 (fun i j l m=>k1 i j l m)))))
def f98_0 (α:Type)(a b:Int)(k1:Nat->Nat->Int->Int->Op α):Op α:=f98_0g J98_0_0 f134_0 f68_0 α a b k1
def pa98_0:PT (List DV):=pA [pV true [(dI .i64),(dI .i64)]]
def Fn98_0 (v:Tf98_0)(α:Type)(k:RT α):Int->Int->Op α:=fun a b=>v α a b (fun c d e g=>ur98_0_0 k c d e g)
def cm98_0g (a:TJ98_0_0):MCode:=(MCode.put (.m [⟨p98_0_0,F98_0_0 a⟩]) [1,0,0] (emb ac98))
def cm98_0:MCode:=cm98_0g J98_0_0
theorem gm98_0:cm98_0.Good Pg E98_0 sh98:=(put_seq (by kernel_rfl) (emb_good ac98) ⟨m98_0_0,TT⟩)
theorem em98_0:cm98_0.erase=ac98:=((put_erase _ _).trans (emb_erase _))
theorem fm98_0g (d:Tf102_0)(a:Tf68_0)(b:Tf134_0)(c:TJ98_0_0)(α:Type)(k:RT α):Fn98_0 (f98_0g c b a) α k=pa98_0.unc fun ds=>fnM Pg (E98_0g d a b) sh98 (cm98_0g c) rs98 k ds:=by kernel_rfl
theorem fm98_0:∀ (α:Type) (k:RT α),Fn98_0 f98_0 α k=pa98_0.unc fun ds=>fnM Pg E98_0 sh98 cm98_0 rs98 k ds:=fm98_0g f102_0 f68_0 f134_0 J98_0_0
theorem is98:FnIs Pg 98 nt98 tr98 tl98 ac98 rs98:=codeF_is Tryz.func98 (by kernel_rfl)
theorem io98_0:InstOk Pg 98 nt98 ⟨pa98_0,Fn98_0 f98_0⟩:=inst_ok eo98_0 followsTry is98 ⟨⟨sh98,cm98_0,em98_0,gm98_0,fm98_0⟩⟩
abbrev nt53:Nat:=107
def sh53:SG:=[(9,iT),(13,iS 2),(19,iT),(23,iS 2),(29,[.sl]),(33,[.sl]),(38,iS 5),(39,iS 5),(43,iT),(49,iT),(56,iT),(63,iT),(69,iT),(78,iT),(81,iT),(86,iT),(89,iT),(97,iT),(103,iT)]
def tr53:TG:=[tT 0 [1],tT 1 [1,11],tT 2 [2,3],tT 3 [1,4],tT 4 [1,4,16],tT 5 [2,3],tT 6 [1,21],tT 7 [2,3],tT 8 [1,5],tT 9 [1,5,26],tT 10 [2,3],tT 11 [1,31],tT 12 [2,3],tT 13 [1,33,34,35],tT 14 [1,33,34,35,36],tT 15 [1,6,7,33,34,35],tT 16 [1,6,7,33,34,35,40],tT 17 [2,3],tT 18 [1,6,33,34,35,75],tT 19 [2,3],tT 20 [1,33,34,35],tT 21 [106],tT 22 [2,3],tT 23 [2,3]]
def tl53:TG:=[(14,⟨[1,33,34,35],true,[⟨false,33,0,20033,5⟩,⟨true,1,6,30106,5⟩],[]⟩)]
def ac53:ACode:=codeF Pg Tryz.f53 tr53 tl53
def rs53:List AResV:=resF Pg Tryz.f53
def td53_41:OT:=tdC (MCode.sub [1,1,1,1,1,1,0,1,0] (emb ac53))
def p53_0_0:PT St:=pS [sP 1,sI 6,sP 7,sY 33 dL,sI 34,sI 35] [eBox 1 [xI,xI,xI,xI,xI,xI,(cD dL),xI,xI],eBox 7 (xs 5)]
def u53_0_0 {β:Type}(g:St->β):Int->Rows->Int->Int->Int->Int->Int->Int->Int->Int->Rows->I7 β:=p53_0_0.unc g
def p53_0_1:PT St:=pS [sP 1,sI 6,sP 7,sY 33 dL,sI 34,sI 35,sY 40 dB] [eBox 1 [xI,xI,xI,xI,xI,xI,(cD dL),xI,xI],eBox 7 (xs 5)]
def u53_0_1 {β:Type}(g:St->β):Int->Rows->Int->Int->Bool->Int->Int->Int->Int->Int->Int->Rows->I7 β:=p53_0_1.unc g
def p53_0_2:PT St:=pS [sP 1,sY 33 dL,sI 34,sI 35] [eBox 1 [xI,xI,xI,xI,xI,xI,(cD dL),xI,xI]]
def u53_0_2 {β:Type}(g:St->β):Rows->Int->Int->Int->Int->Int->Int->Int->Int->Rows->Int->Int->β:=p53_0_2.unc g
def p53_0_3:PT St:=pS [sI 2,sI 3] []
def u53_0_3 {β:Type}(g:St->β):Int->Int->β:=p53_0_3.unc g
def p53_0_4:PT St:=pS [sP 1,sY 33 dL,sI 34,sI 35,sY 36 dB] [eBox 1 [xI,xI,xI,xI,xI,xI,(cD dL),xI,xI]]
def u53_0_4 {β:Type}(g:St->β):Rows->Int->Int->Bool->Int->Int->Int->Int->Int->Int->Rows->Int->Int->β:=p53_0_4.unc g
def pr53_0_0:PT (List RV):=pRs [wI,wI]
def ur53_0_0 {β:Type}(g:List RV->β):Int->Int->β:=pr53_0_0.unc g
def E53_0g (a:Tf78_0)(b:Tf79_0)(c:Tf81_0)(d:Tf79_1)(e:Tf83_0)(g:Tf84_0):EnvK:=EnvK.of [⟨78,nt78,[⟨pa78_0,Fn78_0 a⟩]⟩,⟨79,nt79,[⟨pa79_0,Fn79_0 b⟩,⟨pa79_1,Fn79_1 d⟩]⟩,⟨81,nt81,[⟨pa81_0,Fn81_0 c⟩]⟩,⟨83,nt83,[⟨pa83_0,Fn83_0 e⟩]⟩,⟨84,nt84,[⟨pa84_0,Fn84_0 g⟩]⟩] noSeq
def E53_0:EnvK:=E53_0g f78_0 f79_0 f81_0 f79_1 f83_0 f84_0
theorem eo53_0:E53_0.Ok Pg:=EnvK.of_ok noSeq_ok ⟨⟨io78_0,TT⟩,⟨io79_0,io79_1,TT⟩,⟨io81_0,TT⟩,⟨io83_0,TT⟩,⟨io84_0,TT⟩,TT⟩
def c53_0_51g:MCode:=MCode.sub [1,1,1,1,1,1,0,1,0,0,1,1,0,0,1,0,0] (emb ac53)
def c53_0_51:MCode:=c53_0_51g
abbrev TJ53_0_0:Type 1:=(α:Type)->Int->Int->Int->Int->Int->(Bool->Op α)->Op α
def J53_0_0g (a:Tf78_0)(b:Tf83_0)(c:Tf84_0)(α:Type)(d e g h i:Int)(k1:Bool->Op α):Op α:=
 a α d
 (fun j=>cK (!j)
 (k1 true)
 (a α e
 (fun l=>cK (!l)
 (k1 true)
 (b α g
 (fun m=>cK (!m)
 (k1 true)
 (b α h
 (fun o=>cK (!o)
 (k1 true)
 (c α i
 (fun p=>k1 (!p))))))))))
def J53_0_0 (α:Type)(a b c d e:Int)(k1:Bool->Op α):Op α:=J53_0_0g f78_0 f83_0 f84_0 α a b c d e k1
def F53_0_0 (v:TJ53_0_0)(α:Type)(K:KT α):Int->Rows->Int->Int->Int->Int->Int->Int->Int->Int->Rows->I7 (Op α):=fun g h i j l m o p q r s t w a b c d e=>v α a b c d e (fun z=>u53_0_1 (K .normal) g h i j z l m o p q r s t w a b c d e)
theorem m53_0_0g (a:Tf78_0)(d:Tf79_0)(e:Tf81_0)(g:Tf79_1)(b:Tf83_0)(c:Tf84_0)(α:Type)(K:KT α):F53_0_0 (J53_0_0g a b c) α K=p53_0_0.unc fun σ=>runM Pg (E53_0g a d e g b c) sh53 (c53_0_51g ) K σ:=by kernel_rfl
theorem m53_0_0:∀ (α:Type) (K:KT α),F53_0_0 J53_0_0 α K=p53_0_0.unc fun σ=>runM Pg E53_0 sh53 c53_0_51 K σ:=m53_0_0g f78_0 f79_0 f81_0 f79_1 f83_0 f84_0
def c53_0_41g (a:TJ53_0_0):MCode:=MCode.sub [1,1,1,1,1,1,0,1,0,0] (MCode.put (.m [⟨p53_0_0,F53_0_0 a⟩]) [1,1,1,1,1,1,0,1,0,0,1,1,0,0,1,0] (emb ac53))
def c53_0_41:MCode:=c53_0_41g J53_0_0
def S53_0_1g (h:TJ53_0_0)(α:Type)(i:Rows)(b a:Int)(kn:Int->Op α)(k1:Int->Int->Op α)(k2:Int->Bool->Op α):Op α:=
 cK (decide (a < b))
 (rowK i a [.int .i64,.int .i64,.int .i64,.int .i64,.int .i64]
 (fun c d e g j=>h α c d e g j
 (fun l=>cK l
 (k1 (w64 (a+1)) 2)
 (cK (decide (d < c))
 (k1 (w64 (a+1)) 10)
 (cK (decide (g < e))
 (k1 (w64 (a+1)) 10)
 (kn (w64 (a+1))))))))
 (k2 a (decide (a < b)))
def S53_0_1 (α:Type)(a:Rows)(b c:Int)(kn:Int->Op α)(k1:Int->Int->Op α)(k2:Int->Bool->Op α):Op α:=S53_0_1g J53_0_0 α a b c kn k1 k2
def R53_0_1 (α:Type)(a:Rows)(b:Int)(k1:Int->Int->Op α)(k2:Int->Bool->Op α):Nat->Int->Op α
 | 0,_=>none
 | n+1,c=>S53_0_1 α a b c (R53_0_1 α a b k1 k2 n) k1 k2
def L53_0_1 (α:Type)(a:Rows)(b:Int)(k1:Int->Int->Op α)(k2:Int->Bool->Op α)(c:Int):Op α:=R53_0_1 α a b k1 k2 fuel c
abbrev TL53_0_1:Type 1:=(α:Type)->Rows->Int->(Int->Int->Op α)->(Int->Bool->Op α)->Int->Op α
def F53_0_1 (v:TL53_0_1)(α:Type)(K:KT α):Rows->Int->Int->Int->Int->Int->Int->Int->Int->Rows->Int->Int->Op α:=fun c d e g h i j l m o p q=>v α c d (fun a b=>u53_0_3 (K .ret) a b) (fun a b=>u53_0_4 (K (.exit 0)) c d a b g h i j l m o p q) e
theorem r53_0_1g (s:Tf78_0)(t:Tf79_0)(w:Tf81_0)(z:Tf79_1)(A:Tf83_0)(B:Tf84_0)(r:TJ53_0_0)(α:Type)(K:KT α)(Kn:SK α)(a:Rows)(b c d e g h i j:Int)(l:Rows)(m o:Int):u53_0_2 (fun σ=>runM Pg (E53_0g s t w z A B) sh53 (c53_0_41g r) (thenK (fun σ=>tidyK td53_41 σ Kn) K) σ) a b c d e g h i j l m o=S53_0_1g r α a b c (fun c=>u53_0_2 Kn a b c d e g h i j l m o) (fun p q=>u53_0_3 (K .ret) p q) (fun p q=>u53_0_4 (K (.exit 0)) a b p q d e g h i j l m o):=by kernel_rfl
theorem r53_0_1 (α:Type)(K:KT α)(Kn:SK α)(a:Rows)(b c d e g h i j:Int)(l:Rows)(m o:Int):u53_0_2 (fun σ=>runM Pg E53_0 sh53 c53_0_41 (thenK (fun σ=>tidyK td53_41 σ Kn) K) σ) a b c d e g h i j l m o=S53_0_1 α a b c (fun c=>u53_0_2 Kn a b c d e g h i j l m o) (fun p q=>u53_0_3 (K .ret) p q) (fun p q=>u53_0_4 (K (.exit 0)) a b p q d e g h i j l m o):=r53_0_1g f78_0 f79_0 f81_0 f79_1 f83_0 f84_0 J53_0_0 α K Kn a b c d e g h i j l m o
theorem t53_0_1 (α:Type)(K:KT α):∀ (n:Nat) (a:Rows) (b c g h i j l m:Int) (o:Rows) (p q:Int),R53_0_1 α a b (fun d e=>u53_0_3 (K .ret) d e) (fun d e=>u53_0_4 (K (.exit 0)) a b d e g h i j l m o p q) n c=u53_0_2 (loopT (runM Pg E53_0 sh53 c53_0_41) td53_41 K n) a b c g h i j l m o p q:=by
 intro n
 induction n with
 | zero=>intros;rfl
 | succ n ih=>intro a b c g h i j l m o p q;exact (congrArg (fun kn=>S53_0_1 α a b c kn (fun d e=>u53_0_3 (K .ret) d e) (fun d e=>u53_0_4 (K (.exit 0)) a b d e g h i j l m o p q)) (funext fun c=>ih a b c g h i j l m o p q)).trans (r53_0_1 α K (loopT (runM Pg E53_0 sh53 c53_0_41) td53_41 K n) a b c g h i j l m o p q).symm
theorem m53_0_1:∀ (α:Type) (K:KT α),F53_0_1 L53_0_1 α K=p53_0_2.unc fun σ=>loopT (runM Pg E53_0 sh53 c53_0_41) td53_41 K fuel σ:=fun α K=>by funext a b c d e g h i j l m o;exact t53_0_1 α K fuel a b c d e g h i j l m o
abbrev Tf53_0:Type 1:=(α:Type)->Int->Int->Int->Int->Int->Int->Rows->Int->Int->(Int->Int->Op α)->Op α
def f53_0g (e:TL53_0_1)(b:Tf78_0)(g:Tf79_0)(h:Tf79_1)(i:Tf81_0)(j:Tf84_0)(α:Type)(l m o p q r:Int)(a:Rows)(s t:Int)(k1:Int->Int->Op α):Op α:=
 b α l
 (fun w=>cK (!w)
 (k1 0 2)
 (g α m o
 (fun c=>cK (c != 0)
 (k1 0 c)
 (i α p 0 1
 (fun z=>cK (!z)
 (k1 0 11)
 (h α q r
 (fun d=>cK (d != 0)
 (k1 0 d)
 (cK (decide (40 < ((List.length a:Nat):Int)))
 (k1 0 8)
 (e α a ((List.length a:Nat):Int)
 (fun A B=>k1 A B)
 (fun F G=>b α s
 (fun C=>cK (!C)
 (k1 0 2)
 (j α t
 (fun D=>cK (!D)
 (k1 0 2)
 (k1 0 0))))) 0)))))))))
def f53_0 (α:Type)(a b c d e g:Int)(h:Rows)(i j:Int)(k1:Int->Int->Op α):Op α:=f53_0g L53_0_1 f78_0 f79_0 f79_1 f81_0 f84_0 α a b c d e g h i j k1
def pa53_0:PT (List DV):=pA [pV true [(dI .i64),(dI .i64),(dI .i64),(dI .i64),(dI .i64),(dI .i64),dL,(dI .i64),(dI .i64)]]
def Fn53_0 (v:Tf53_0)(α:Type)(k:RT α):Int->Int->Int->Int->Int->Int->Rows->Int->Int->Op α:=fun a b c d e g h i j=>v α a b c d e g h i j (fun l m=>ur53_0_0 k l m)
def cm53_0g (a:TL53_0_1):MCode:=(MCode.put (.m [⟨p53_0_2,F53_0_1 a⟩]) [1,1,1,1,1,1,0,1,0] (MCode.put (.m [⟨p53_0_0,F53_0_0 J53_0_0⟩]) [1,1,1,1,1,1,0,1,0,0,1,1,0,0,1,0] (emb ac53)))
def cm53_0:MCode:=cm53_0g L53_0_1
theorem gm53_0:cm53_0.Good Pg E53_0 sh53:=(put_loop (td:=td53_41) (by kernel_rfl) (put_seq (by kernel_rfl) (emb_good ac53) ⟨m53_0_0,TT⟩) ⟨m53_0_1,TT⟩)
theorem em53_0:cm53_0.erase=ac53:=((put_erase _ _).trans ((put_erase _ _).trans (emb_erase _)))
theorem fm53_0g (a:Tf78_0)(b:Tf79_0)(c:Tf81_0)(d:Tf79_1)(h:Tf83_0)(e:Tf84_0)(g:TL53_0_1)(α:Type)(k:RT α):Fn53_0 (f53_0g g a b d c e) α k=pa53_0.unc fun ds=>fnM Pg (E53_0g a b c d h e) sh53 (cm53_0g g) rs53 k ds:=by kernel_rfl
theorem fm53_0:∀ (α:Type) (k:RT α),Fn53_0 f53_0 α k=pa53_0.unc fun ds=>fnM Pg E53_0 sh53 cm53_0 rs53 k ds:=fm53_0g f78_0 f79_0 f81_0 f79_1 f83_0 f84_0 L53_0_1
theorem is53:FnIs Pg 53 nt53 tr53 tl53 ac53 rs53:=codeF_is Tryz.func53 (by kernel_rfl)
theorem io53_0:InstOk Pg 53 nt53 ⟨pa53_0,Fn53_0 f53_0⟩:=inst_ok eo53_0 followsTry is53 ⟨⟨sh53,cm53_0,em53_0,gm53_0,fm53_0⟩⟩
end
end Go.AM.K
