/- Printed by KGen. -/
import Derived.Test.YtamjfkiklngagaaGreatRb
namespace Go.AM.K
open Go.Proofs
set_option maxRecDepth 100000
set_option linter.unusedVariables false
noncomputable section
abbrev nt71:Nat:=29
def sh71:SG:=[(20,iS 9),(21,iS 9),(22,iS 9)]
def tr71:TG:=[tT 0 [0],tT 1 [0,7],tT 2 [2,3],tT 3 [0,11],tT 4 [2,3],tT 5 [15,16,17],tT 6 [15,16,17,18],tT 7 [4,5,15,16,17],tT 8 [4,6,15,16,17],tT 9 [4,6,15,16,17,25],tT 10 [2,3],tT 11 [15,16,17],tT 12 [2,3]]
def tl71:TG:=[(6,⟨[15,16,17],true,[⟨false,15,0,20015,9⟩],[]⟩)]
def ac71:ACode:=codeF Pg Tryz.f71 tr71 tl71
def rs71:List AResV:=resF Pg Tryz.f71
def td71_19:OT:=tdC (MCode.sub [1,1,0,1,0] (emb ac71))
def p71_0_0:PT St:=pS [sY 15 dL,sI 16,sI 17] []
def u71_0_0 {β:Type}(g:St->β):Rows->Int->Int->β:=p71_0_0.unc g
def p71_0_1:PT St:=pS [sI 2,sI 3] []
def u71_0_1 {β:Type}(g:St->β):Int->Int->β:=p71_0_1.unc g
def p71_0_2:PT St:=pS [sY 15 dL,sI 16,sI 17,sY 18 dB] []
def u71_0_2 {β:Type}(g:St->β):Rows->Int->Int->Bool->β:=p71_0_2.unc g
def pr71_0_0:PT (List RV):=pRs [wI,wI]
def ur71_0_0 {β:Type}(g:List RV->β):Int->Int->β:=pr71_0_0.unc g
def E71_0g (a:Tf110_0):EnvK:=EnvK.of [⟨110,nt110,[⟨pa110_0,Fn110_0 a⟩]⟩] noSeq
def E71_0:EnvK:=E71_0g f110_0
theorem eo71_0:E71_0.Ok Pg:=EnvK.of_ok noSeq_ok ⟨⟨io110_0,TT⟩,TT⟩
def c71_0_19g:MCode:=MCode.sub [1,1,0,1,0,0] (emb ac71)
def c71_0_19:MCode:=c71_0_19g
def S71_0_0g (d:Tf110_0)(α:Type)(e:Rows)(b a:Int)(kn:Int->Op α)(k1:Int->Int->Op α)(k2:Int->Bool->Op α):Op α:=
 cK (decide (a < b))
 (rowK e a [.int .i64,.int .i64,.int .i64,.int .i64,.int .i64,.int .i64,.int .i64,.int .i64,.int .i64]
 (fun g h i j l m o p q=>d α g h i j l m o p q
 (fun c=>cK (c != 0)
 (k1 a c)
 (kn (w64 (a+1))))))
 (k2 a (decide (a < b)))
def S71_0_0 (α:Type)(a:Rows)(b c:Int)(kn:Int->Op α)(k1:Int->Int->Op α)(k2:Int->Bool->Op α):Op α:=S71_0_0g f110_0 α a b c kn k1 k2
def R71_0_0 (α:Type)(a:Rows)(b:Int)(k1:Int->Int->Op α)(k2:Int->Bool->Op α):Nat->Int->Op α
 | 0,_=>none
 | n+1,c=>S71_0_0 α a b c (R71_0_0 α a b k1 k2 n) k1 k2
def L71_0_0 (α:Type)(a:Rows)(b:Int)(k1:Int->Int->Op α)(k2:Int->Bool->Op α)(c:Int):Op α:=R71_0_0 α a b k1 k2 fuel c
abbrev TL71_0_0:Type 1:=(α:Type)->Rows->Int->(Int->Int->Op α)->(Int->Bool->Op α)->Int->Op α
def F71_0_0 (v:TL71_0_0)(α:Type)(K:KT α):Rows->Int->Int->Op α:=fun c d e=>v α c d (fun a b=>u71_0_1 (K .ret) a b) (fun a b=>u71_0_2 (K (.exit 1)) c d a b) e
theorem r71_0_0g (g:Tf110_0)(α:Type)(K:KT α)(Kn:SK α)(a:Rows)(b c:Int):u71_0_0 (fun σ=>runM Pg (E71_0g g) sh71 (c71_0_19g ) (thenK (fun σ=>tidyK td71_19 σ Kn) K) σ) a b c=S71_0_0g g α a b c (fun c=>u71_0_0 Kn a b c) (fun d e=>u71_0_1 (K .ret) d e) (fun d e=>u71_0_2 (K (.exit 1)) a b d e):=by kernel_rfl
theorem r71_0_0 (α:Type)(K:KT α)(Kn:SK α)(a:Rows)(b c:Int):u71_0_0 (fun σ=>runM Pg E71_0 sh71 c71_0_19 (thenK (fun σ=>tidyK td71_19 σ Kn) K) σ) a b c=S71_0_0 α a b c (fun c=>u71_0_0 Kn a b c) (fun d e=>u71_0_1 (K .ret) d e) (fun d e=>u71_0_2 (K (.exit 1)) a b d e):=r71_0_0g f110_0 α K Kn a b c
theorem t71_0_0 (α:Type)(K:KT α):∀ (n:Nat) (a:Rows) (b c:Int),R71_0_0 α a b (fun d e=>u71_0_1 (K .ret) d e) (fun d e=>u71_0_2 (K (.exit 1)) a b d e) n c=u71_0_0 (loopT (runM Pg E71_0 sh71 c71_0_19) td71_19 K n) a b c:=by
 intro n
 induction n with
 | zero=>intros;rfl
 | succ n ih=>intro a b c;exact (congrArg (fun kn=>S71_0_0 α a b c kn (fun d e=>u71_0_1 (K .ret) d e) (fun d e=>u71_0_2 (K (.exit 1)) a b d e)) (funext fun c=>ih a b c)).trans (r71_0_0 α K (loopT (runM Pg E71_0 sh71 c71_0_19) td71_19 K n) a b c).symm
theorem m71_0_0:∀ (α:Type) (K:KT α),F71_0_0 L71_0_0 α K=p71_0_0.unc fun σ=>loopT (runM Pg E71_0 sh71 c71_0_19) td71_19 K fuel σ:=fun α K=>by funext a b c;exact t71_0_0 α K fuel a b c
abbrev Tf71_0:Type 1:=(α:Type)->Rows->(Int->Int->Op α)->Op α
def f71_0g (b:TL71_0_0)(α:Type)(a:Rows)(k1:Int->Int->Op α):Op α:=
 cK (((List.length a:Nat):Int) == 0)
 (k1 0 12)
 (cK (decide (8 < ((List.length a:Nat):Int)))
 (k1 0 8)
 (b α a ((List.length a:Nat):Int)
 (fun c d=>k1 c d)
 (fun e g=>k1 0 0) 0))
def f71_0 (α:Type)(a:Rows)(k1:Int->Int->Op α):Op α:=f71_0g L71_0_0 α a k1
def pa71_0:PT (List DV):=pA [pV false [dL]]
def Fn71_0 (v:Tf71_0)(α:Type)(k:RT α):Rows->Op α:=fun a=>v α a (fun b c=>ur71_0_0 k b c)
def cm71_0g (a:TL71_0_0):MCode:=(MCode.put (.m [⟨p71_0_0,F71_0_0 a⟩]) [1,1,0,1,0] (emb ac71))
def cm71_0:MCode:=cm71_0g L71_0_0
theorem gm71_0:cm71_0.Good Pg E71_0 sh71:=(put_loop (td:=td71_19) (by kernel_rfl) (emb_good ac71) ⟨m71_0_0,TT⟩)
theorem em71_0:cm71_0.erase=ac71:=((put_erase _ _).trans (emb_erase _))
theorem fm71_0g (b:Tf110_0)(a:TL71_0_0)(α:Type)(k:RT α):Fn71_0 (f71_0g a) α k=pa71_0.unc fun ds=>fnM Pg (E71_0g b) sh71 (cm71_0g a) rs71 k ds:=by kernel_rfl
theorem fm71_0:∀ (α:Type) (k:RT α),Fn71_0 f71_0 α k=pa71_0.unc fun ds=>fnM Pg E71_0 sh71 cm71_0 rs71 k ds:=fm71_0g f110_0 L71_0_0
theorem is71:FnIs Pg 71 nt71 tr71 tl71 ac71 rs71:=codeF_is Tryz.func71 (by kernel_rfl)
theorem io71_0:InstOk Pg 71 nt71 ⟨pa71_0,Fn71_0 f71_0⟩:=inst_ok eo71_0 followsTry is71 ⟨⟨sh71,cm71_0,em71_0,gm71_0,fm71_0⟩⟩
abbrev nt67:Nat:=17
def sh67:SG:=[(4,iS 2),(7,iT),(11,iS 2),(14,iT)]
def tr67:TG:=[tT 0 [1,2],tT 1 [2]]
def tl67:TG:=[]
def ac67:ACode:=codeF Pg Tryz.f67 tr67 tl67
def rs67:List AResV:=resF Pg Tryz.f67
def pr67_0_0:PT (List RV):=pRs [pR true [rD (dI .i64),rD (dI .i64)]]
def ur67_0_0 {β:Type}(g:List RV->β):Int->Int->β:=pr67_0_0.unc g
def E67_0g (a:Tf101_0)(b:Tf109_0):EnvK:=EnvK.of [⟨101,nt101,[⟨pa101_0,Fn101_0 a⟩]⟩,⟨109,nt109,[⟨pa109_0,Fn109_0 b⟩]⟩] noSeq
def E67_0:EnvK:=E67_0g f101_0 f109_0
theorem eo67_0:E67_0.Ok Pg:=EnvK.of_ok noSeq_ok ⟨⟨io101_0,TT⟩,⟨io109_0,TT⟩,TT⟩
abbrev Tf67_0:Type 1:=(α:Type)->Int->Int->Int->(Int->Int->Op α)->Op α
def f67_0g (e:Tf101_0)(g:Tf109_0)(α:Type)(b c a:Int)(k1:Int->Int->Op α):Op α:=
 e α b c
 (fun d=>g α b c
 (fun h=>k1 (if (w64 (d - a)) > 0 then (w64 (d - a)) else 0) (w64 (h+a))))
def f67_0 (α:Type)(a b c:Int)(k1:Int->Int->Op α):Op α:=f67_0g f101_0 f109_0 α a b c k1
def pa67_0:PT (List DV):=pA [pV true [(dI .i64),(dI .i64),(dI .i64)]]
def Fn67_0 (v:Tf67_0)(α:Type)(k:RT α):Int->Int->Int->Op α:=fun a b c=>v α a b c (fun d e=>ur67_0_0 k d e)
def cm67_0g:MCode:=(emb ac67)
def cm67_0:MCode:=cm67_0g
theorem gm67_0:cm67_0.Good Pg E67_0 sh67:=(emb_good ac67)
theorem em67_0:cm67_0.erase=ac67:=(emb_erase _)
theorem fm67_0g (a:Tf101_0)(b:Tf109_0)(α:Type)(k:RT α):Fn67_0 (f67_0g a b) α k=pa67_0.unc fun ds=>fnM Pg (E67_0g a b) sh67 (cm67_0g ) rs67 k ds:=by kernel_rfl
theorem fm67_0:∀ (α:Type) (k:RT α),Fn67_0 f67_0 α k=pa67_0.unc fun ds=>fnM Pg E67_0 sh67 cm67_0 rs67 k ds:=fm67_0g f101_0 f109_0
theorem is67:FnIs Pg 67 nt67 tr67 tl67 ac67 rs67:=codeF_is Tryz.func67 (by kernel_rfl)
theorem io67_0:InstOk Pg 67 nt67 ⟨pa67_0,Fn67_0 f67_0⟩:=inst_ok eo67_0 followsTry is67 ⟨⟨sh67,cm67_0,em67_0,gm67_0,fm67_0⟩⟩
abbrev nt155:Nat:=36
def sh155:SG:=[(30,iT),(32,iT)]
def tr155:TG:=[tT 0 [0,2],tT 1 [0,2],tT 2 [0,2,9],tT 3 [2],tT 4 [0,2,16],tT 5 [2],tT 6 [0,2,23],tT 7 [2,3],tT 8 [2],tT 9 [2]]
def tl155:TG:=[]
def ac155:ACode:=codeF Pg Tryz.f155 tr155 tl155
def rs155:List AResV:=resF Pg Tryz.f155
def pr155_2_0:PT (List RV):=pRs [pR true [rD (dI .i64),rD (dI .i64)]]
def ur155_2_0 {β:Type}(g:List RV->β):Int->Int->β:=pr155_2_0.unc g
def E155_2g (a:Tf68_0)(b:Tf160_0):EnvK:=EnvK.of [⟨68,nt68,[⟨pa68_0,Fn68_0 a⟩]⟩,⟨160,nt160,[⟨pa160_0,Fn160_0 b⟩]⟩] noSeq
def E155_2:EnvK:=E155_2g f68_0 f160_0
theorem eo155_2:E155_2.Ok Pg:=EnvK.of_ok noSeq_ok ⟨⟨io68_0,TT⟩,⟨io160_0,TT⟩,TT⟩
abbrev Tf155_2:Type 1:=(α:Type)->Int->(Int->Int->Op α)->Op α
def f155_2g (c:Tf160_0)(d:Tf68_0)(α:Type)(a:Int)(k1:Int->Int->Op α):Op α:=
 d α a 4194304
 (fun b=>cK (decide (2097152<=(w64 (a - (w64 (4194304*b))))))
 (none)
 (cK (decide (1048576<=(w64 (a - (w64 (4194304*b))))))
 (none)
 (cK (decide (524288 < (w64 (a - (w64 (4194304*b))))))
 (c α (w64 (1048576 - (w64 (a - (w64 (4194304*b))))))
 (fun e g=>k1 g e))
 (c α (w64 (a - (w64 (4194304*b))))
 (fun h i=>k1 h i)))))
def f155_2 (α:Type)(a:Int)(k1:Int->Int->Op α):Op α:=f155_2g f160_0 f68_0 α a k1
def pa155_2:PT (List DV):=pA [vI]
def Fn155_2 (v:Tf155_2)(α:Type)(k:RT α):Int->Op α:=fun a=>v α a (fun b c=>ur155_2_0 k b c)
def cm155_2g:MCode:=(emb ac155)
def cm155_2:MCode:=cm155_2g
theorem gm155_2:cm155_2.Good Pg E155_2 sh155:=(emb_good ac155)
theorem em155_2:cm155_2.erase=ac155:=(emb_erase _)
theorem fm155_2g (a:Tf68_0)(b:Tf160_0)(α:Type)(k:RT α):Fn155_2 (f155_2g b a) α k=pa155_2.unc fun ds=>fnM Pg (E155_2g a b) sh155 (cm155_2g ) rs155 k ds:=by kernel_rfl
theorem fm155_2:∀ (α:Type) (k:RT α),Fn155_2 f155_2 α k=pa155_2.unc fun ds=>fnM Pg E155_2 sh155 cm155_2 rs155 k ds:=fm155_2g f68_0 f160_0
theorem is155:FnIs Pg 155 nt155 tr155 tl155 ac155 rs155:=codeF_is Tryz.func155 (by kernel_rfl)
theorem io155_2:InstOk Pg 155 nt155 ⟨pa155_2,Fn155_2 f155_2⟩:=inst_ok eo155_2 followsTry is155 ⟨⟨sh155,cm155_2,em155_2,gm155_2,fm155_2⟩⟩
def pr155_1_0:PT (List RV):=pRs [pR true [rD (dI .i64),rD (dI .i64)]]
def ur155_1_0 {β:Type}(g:List RV->β):Int->Int->β:=pr155_1_0.unc g
def E155_1g (a:Tf68_0)(b:Tf155_2)(c:Tf133_0)(d:Tf160_0):EnvK:=EnvK.of [⟨68,nt68,[⟨pa68_0,Fn68_0 a⟩]⟩,⟨155,nt155,[⟨pa155_2,Fn155_2 b⟩]⟩,⟨133,nt133,[⟨pa133_0,Fn133_0 c⟩]⟩,⟨160,nt160,[⟨pa160_0,Fn160_0 d⟩]⟩] noSeq
def E155_1:EnvK:=E155_1g f68_0 f155_2 f133_0 f160_0
theorem eo155_1:E155_1.Ok Pg:=EnvK.of_ok noSeq_ok ⟨⟨io68_0,TT⟩,⟨io155_2,TT⟩,⟨io133_0,TT⟩,⟨io160_0,TT⟩,TT⟩
abbrev Tf155_1:Type 1:=(α:Type)->Int->(Int->Int->Op α)->Op α
def f155_1g (c:Tf133_0)(d:Tf155_2)(e:Tf160_0)(g:Tf68_0)(α:Type)(a:Int)(k1:Int->Int->Op α):Op α:=
 g α a 4194304
 (fun b=>cK (decide (2097152<=(w64 (a - (w64 (4194304*b))))))
 (d α (w64 ((w64 (a - (w64 (4194304*b)))) - 2097152))
 (fun h i=>c α h i 2
 (fun j l=>k1 j l)))
 (cK (decide (1048576<=(w64 (a - (w64 (4194304*b))))))
 (d α (w64 ((w64 (a - (w64 (4194304*b)))) - 1048576))
 (fun m o=>c α m o 1
 (fun p q=>k1 p q)))
 (cK (decide (524288 < (w64 (a - (w64 (4194304*b))))))
 (e α (w64 (1048576 - (w64 (a - (w64 (4194304*b))))))
 (fun r s=>k1 s r))
 (e α (w64 (a - (w64 (4194304*b))))
 (fun t w=>k1 t w)))))
def f155_1 (α:Type)(a:Int)(k1:Int->Int->Op α):Op α:=f155_1g f133_0 f155_2 f160_0 f68_0 α a k1
def pa155_1:PT (List DV):=pA [vI]
def Fn155_1 (v:Tf155_1)(α:Type)(k:RT α):Int->Op α:=fun a=>v α a (fun b c=>ur155_1_0 k b c)
def cm155_1g:MCode:=(emb ac155)
def cm155_1:MCode:=cm155_1g
theorem gm155_1:cm155_1.Good Pg E155_1 sh155:=(emb_good ac155)
theorem em155_1:cm155_1.erase=ac155:=(emb_erase _)
theorem fm155_1g (a:Tf68_0)(b:Tf155_2)(c:Tf133_0)(d:Tf160_0)(α:Type)(k:RT α):Fn155_1 (f155_1g c b d a) α k=pa155_1.unc fun ds=>fnM Pg (E155_1g a b c d) sh155 (cm155_1g ) rs155 k ds:=by kernel_rfl
theorem fm155_1:∀ (α:Type) (k:RT α),Fn155_1 f155_1 α k=pa155_1.unc fun ds=>fnM Pg E155_1 sh155 cm155_1 rs155 k ds:=fm155_1g f68_0 f155_2 f133_0 f160_0
theorem io155_1:InstOk Pg 155 nt155 ⟨pa155_1,Fn155_1 f155_1⟩:=inst_ok eo155_1 followsTry is155 ⟨⟨sh155,cm155_1,em155_1,gm155_1,fm155_1⟩⟩
def pr155_0_0:PT (List RV):=pRs [pR true [rD (dI .i64),rD (dI .i64)]]
def ur155_0_0 {β:Type}(g:List RV->β):Int->Int->β:=pr155_0_0.unc g
def E155_0g (a:Tf68_0)(b:Tf155_1)(c:Tf133_0)(d:Tf160_0):EnvK:=EnvK.of [⟨68,nt68,[⟨pa68_0,Fn68_0 a⟩]⟩,⟨155,nt155,[⟨pa155_1,Fn155_1 b⟩]⟩,⟨133,nt133,[⟨pa133_0,Fn133_0 c⟩]⟩,⟨160,nt160,[⟨pa160_0,Fn160_0 d⟩]⟩] noSeq
def E155_0:EnvK:=E155_0g f68_0 f155_1 f133_0 f160_0
theorem eo155_0:E155_0.Ok Pg:=EnvK.of_ok noSeq_ok ⟨⟨io68_0,TT⟩,⟨io155_1,TT⟩,⟨io133_0,TT⟩,⟨io160_0,TT⟩,TT⟩
abbrev Tf155_0:Type 1:=(α:Type)->Int->(Int->Int->Op α)->Op α
def f155_0g (c:Tf133_0)(d:Tf155_1)(e:Tf160_0)(g:Tf68_0)(α:Type)(a:Int)(k1:Int->Int->Op α):Op α:=
 g α a 4194304
 (fun b=>cK (decide (2097152<=(w64 (a - (w64 (4194304*b))))))
 (d α (w64 ((w64 (a - (w64 (4194304*b)))) - 2097152))
 (fun h i=>c α h i 2
 (fun j l=>k1 j l)))
 (cK (decide (1048576<=(w64 (a - (w64 (4194304*b))))))
 (d α (w64 ((w64 (a - (w64 (4194304*b)))) - 1048576))
 (fun m o=>c α m o 1
 (fun p q=>k1 p q)))
 (cK (decide (524288 < (w64 (a - (w64 (4194304*b))))))
 (e α (w64 (1048576 - (w64 (a - (w64 (4194304*b))))))
 (fun r s=>k1 s r))
 (e α (w64 (a - (w64 (4194304*b))))
 (fun t w=>k1 t w)))))
def f155_0 (α:Type)(a:Int)(k1:Int->Int->Op α):Op α:=f155_0g f133_0 f155_1 f160_0 f68_0 α a k1
def pa155_0:PT (List DV):=pA [vI]
def Fn155_0 (v:Tf155_0)(α:Type)(k:RT α):Int->Op α:=fun a=>v α a (fun b c=>ur155_0_0 k b c)
def cm155_0g:MCode:=(emb ac155)
def cm155_0:MCode:=cm155_0g
theorem gm155_0:cm155_0.Good Pg E155_0 sh155:=(emb_good ac155)
theorem em155_0:cm155_0.erase=ac155:=(emb_erase _)
theorem fm155_0g (a:Tf68_0)(b:Tf155_1)(c:Tf133_0)(d:Tf160_0)(α:Type)(k:RT α):Fn155_0 (f155_0g c b d a) α k=pa155_0.unc fun ds=>fnM Pg (E155_0g a b c d) sh155 (cm155_0g ) rs155 k ds:=by kernel_rfl
theorem fm155_0:∀ (α:Type) (k:RT α),Fn155_0 f155_0 α k=pa155_0.unc fun ds=>fnM Pg E155_0 sh155 cm155_0 rs155 k ds:=fm155_0g f68_0 f155_1 f133_0 f160_0
theorem io155_0:InstOk Pg 155 nt155 ⟨pa155_0,Fn155_0 f155_0⟩:=inst_ok eo155_0 followsTry is155 ⟨⟨sh155,cm155_0,em155_0,gm155_0,fm155_0⟩⟩
abbrev nt125:Nat:=76
def sh125:SG:=[(14,iS 2),(18,iT),(20,iS 3),(22,iS 2),(24,iS 2),(29,iT),(31,iS 2),(38,iT),(40,iS 2),(46,iT),(48,iS 2),(52,iS 2),(55,iT),(60,iT)]
def tr125:TG:=[tT 0 [2,3,4],tT 1 [2,3,4,6],tT 2 [2,3,4,6,19],tT 3 [4,5],tT 4 [2,3,4,6,7],tT 5 [2,3,4,6,7,8,9],tT 6 [2,3,4,6,8,9,10,11],tT 7 [4,8,9,10,11,12],tT 8 [4,5]]
def tl125:TG:=[]
def ac125:ACode:=codeF Pg Tryz.f125 tr125 tl125
def rs125:List AResV:=resF Pg Tryz.f125
def pr125_0_0:PT (List RV):=pRs [pR true [rD (dI .i64),rD (dI .i64),rD (dI .i64)],wI]
def ur125_0_0 {β:Type}(g:List RV->β):I4 β:=pr125_0_0.unc g
def E125_0g (a:Tf101_0)(b:Tf126_0)(c:Tf122_0)(d:Tf127_0)(e:Tf105_0)(g:Tf109_0)(h:Tf128_0)(i:Tf124_0):EnvK:=EnvK.of [⟨101,nt101,[⟨pa101_0,Fn101_0 a⟩]⟩,⟨126,nt126,[⟨pa126_0,Fn126_0 b⟩]⟩,⟨122,nt122,[⟨pa122_0,Fn122_0 c⟩]⟩,⟨127,nt127,[⟨pa127_0,Fn127_0 d⟩]⟩,⟨105,nt105,[⟨pa105_0,Fn105_0 e⟩]⟩,⟨109,nt109,[⟨pa109_0,Fn109_0 g⟩]⟩,⟨128,nt128,[⟨pa128_0,Fn128_0 h⟩]⟩,⟨124,nt124,[⟨pa124_0,Fn124_0 i⟩]⟩] noSeq
def E125_0:EnvK:=E125_0g f101_0 f126_0 f122_0 f127_0 f105_0 f109_0 f128_0 f124_0
theorem eo125_0:E125_0.Ok Pg:=EnvK.of_ok noSeq_ok ⟨⟨io101_0,TT⟩,⟨io126_0,TT⟩,⟨io122_0,TT⟩,⟨io127_0,TT⟩,⟨io105_0,TT⟩,⟨io109_0,TT⟩,⟨io128_0,TT⟩,⟨io124_0,TT⟩,TT⟩
abbrev Tf125_0:Type 1:=(α:Type)->Int->Int->Int->Int->Int->Int->(I4 (Op α))->Op α
def f125_0g (r:Tf101_0)(h:Tf105_0)(i:Tf109_0)(s:Tf122_0)(j:Tf124_0)(t:Tf126_0)(l:Tf127_0)(w:Tf128_0)(α:Type)(c d m a b e:Int)(k1:I4 (Op α)):Op α:=
 r α a b
 (fun g=>cK (decide (g<=e))
 (k1 c d m 9)
 (t α b
 (fun z=>s α c d a z
 (fun A B=>l α a b
 (fun C=>h α A 1048576 C
 (fun o D=>l α a b
 (fun F=>h α B 1048576 F
 (fun p G=>i α a b
 (fun H=>i α c d
 (fun I=>w α (w64 ((w64 (m*H))+(w64 (I*e)))) 1048576 (w64 ((w64 (g - e))*g))
 (fun q=>cK D
 (j α true
 (fun J=>k1 o p (w64 (q+J)) 0))
 (j α G
 (fun L=>k1 o p (w64 (q+L)) 0)))))))))))))
def f125_0 (α:Type)(a b c d e g:Int)(k1:I4 (Op α)):Op α:=f125_0g f101_0 f105_0 f109_0 f122_0 f124_0 f126_0 f127_0 f128_0 α a b c d e g k1
def pa125_0:PT (List DV):=pA [pV true [(dI .i64),(dI .i64),(dI .i64)],pV true [(dI .i64),(dI .i64),(dI .i64)]]
def Fn125_0 (v:Tf125_0)(α:Type)(k:RT α):I6 (Op α):=fun a b c d e g=>v α a b c d e g (fun h i j l=>ur125_0_0 k h i j l)
def cm125_0g:MCode:=(emb ac125)
def cm125_0:MCode:=cm125_0g
theorem gm125_0:cm125_0.Good Pg E125_0 sh125:=(emb_good ac125)
theorem em125_0:cm125_0.erase=ac125:=(emb_erase _)
theorem fm125_0g (a:Tf101_0)(b:Tf126_0)(c:Tf122_0)(d:Tf127_0)(e:Tf105_0)(g:Tf109_0)(h:Tf128_0)(i:Tf124_0)(α:Type)(k:RT α):Fn125_0 (f125_0g a e g c i b d h) α k=pa125_0.unc fun ds=>fnM Pg (E125_0g a b c d e g h i) sh125 (cm125_0g ) rs125 k ds:=by kernel_rfl
theorem fm125_0:∀ (α:Type) (k:RT α),Fn125_0 f125_0 α k=pa125_0.unc fun ds=>fnM Pg E125_0 sh125 cm125_0 rs125 k ds:=fm125_0g f101_0 f126_0 f122_0 f127_0 f105_0 f109_0 f128_0 f124_0
theorem is125:FnIs Pg 125 nt125 tr125 tl125 ac125 rs125:=codeF_is Tryz.func125 (by kernel_rfl)
theorem io125_0:InstOk Pg 125 nt125 ⟨pa125_0,Fn125_0 f125_0⟩:=inst_ok eo125_0 followsTry is125 ⟨⟨sh125,cm125_0,em125_0,gm125_0,fm125_0⟩⟩
abbrev nt100:Nat:=94
def sh100:SG:=[(10,iS 2),(15,iT),(17,iS 3),(21,iT),(26,iT),(28,iT),(33,iT),(36,iS 3),(40,iT),(48,iT),(59,iT),(64,iT),(76,iT),(81,iS 2),(83,iT)]
def tr100:TG:=[tT 0 [1,2],tT 1 [1,2,4],tT 2 [1,2,4,12],tT 3 [2,3],tT 4 [1,2,4,18],tT 5 [2,3],tT 6 [1,2,4,5],tT 7 [1,2,4,5,6],tT 8 [1,2,4,5,8],tT 9 [1,2,4,5,8,60],tT 10 [1,2,4,5,6,8],tT 11 [1,2,4,5,8],tT 12 [1,2,4,5,8,77],tT 13 [1,2,4,5,8],tT 14 [2,3]]
def tl100:TG:=[]
def ac100:ACode:=codeF Pg Tryz.f100 tr100 tl100
def rs100:List AResV:=resF Pg Tryz.f100
def p100_0_0:PT St:=pS [sP 1,sP 2,sI 4,sY 12 dB] [eBox 1 (xs 3),eBox 2 (xs 3)]
def u100_0_0 {β:Type}(g:St->β):Int->Bool->I6 β:=p100_0_0.unc g
def p100_0_1:PT St:=pS [sP 1,sP 2,sI 4,sY 18 dB] [eBox 1 (xs 3),eBox 2 (xs 3)]
def u100_0_1 {β:Type}(g:St->β):Int->Bool->I6 β:=p100_0_1.unc g
def p100_0_2:PT St:=pS [sP 1,sP 2,sI 4,sI 5,sP 8] [eBox 1 (xs 3),eBox 2 (xs 3),eBox 8 [xI,xI]]
def u100_0_2 {β:Type}(g:St->β):I10 β:=p100_0_2.unc g
def p100_0_3:PT St:=pS [sP 1,sP 2,sI 4,sI 5,sP 8,sY 77 dB] [eBox 1 (xs 3),eBox 2 (xs 3),eBox 8 [xI,xI]]
def u100_0_3 {β:Type}(g:St->β):Int->Int->Bool->I8 β:=p100_0_3.unc g
def p100_0_4:PT St:=pS [sP 1,sP 2,sI 4,sI 5,sP 8,sY 60 dB] [eBox 1 (xs 3),eBox 2 (xs 3),eBox 8 [xI,xI]]
def u100_0_4 {β:Type}(g:St->β):Int->Int->Bool->I8 β:=p100_0_4.unc g
def pr100_0_0:PT (List RV):=pRs [pR true [rD (dI .i64),rD (dI .i64),rD (dI .i64)],wI]
def ur100_0_0 {β:Type}(g:List RV->β):I4 β:=pr100_0_0.unc g
def E100_0g (a:Tf101_0)(b:Tf102_0)(c:Tf104_0)(d:Tf103_0)(e:Tf105_0)(g:Tf69_0):EnvK:=EnvK.of [⟨101,nt101,[⟨pa101_0,Fn101_0 a⟩]⟩,⟨102,nt102,[⟨pa102_0,Fn102_0 b⟩]⟩,⟨104,nt104,[⟨pa104_0,Fn104_0 c⟩]⟩,⟨103,nt103,[⟨pa103_0,Fn103_0 d⟩]⟩,⟨105,nt105,[⟨pa105_0,Fn105_0 e⟩]⟩,⟨69,nt69,[⟨pa69_0,Fn69_0 g⟩]⟩] noSeq
def E100_0:EnvK:=E100_0g f101_0 f102_0 f104_0 f103_0 f105_0 f69_0
theorem eo100_0:E100_0.Ok Pg:=EnvK.of_ok noSeq_ok ⟨⟨io101_0,TT⟩,⟨io102_0,TT⟩,⟨io104_0,TT⟩,⟨io103_0,TT⟩,⟨io105_0,TT⟩,⟨io69_0,TT⟩,TT⟩
def c100_0_23g:MCode:=MCode.sub [1,1,1,1,1,1,0] (emb ac100)
def c100_0_23:MCode:=c100_0_23g
abbrev TJ100_0_1:Type 1:=(α:Type)->Int->Int->Int->(Int->Int->Op α)->(Bool->Int->Op α)->(Bool->Op α)->Op α
def J100_0_1g (e:Tf104_0)(g:Tf105_0)(α:Type)(b c a:Int)(k1:Int->Int->Op α)(k2:Bool->Int->Op α)(k3:Bool->Op α):Op α:=
 cK (decide (c < 0))
 (e α a
 (fun h=>g α h 1048576 (w64 (2*b))
 (fun d i=>cK (decide (a < 0))
 (k1 d (w64 (0 - b)))
 (k2 (decide (a < 0)) d))))
 (k3 (decide (c < 0)))
def J100_0_1 (α:Type)(a b c:Int)(k1:Int->Int->Op α)(k2:Bool->Int->Op α)(k3:Bool->Op α):Op α:=J100_0_1g f104_0 f105_0 α a b c k1 k2 k3
def F100_0_1 (v:TJ100_0_1)(α:Type)(K:KT α):I10 (Op α):=fun e a c d g h i j m o=>v α a c d (fun b l=>u100_0_2 (K .normal) e a c d g h i j b l) (fun b l=>u100_0_3 (K .normal) e a b c d g h i j l a) (fun b=>u100_0_4 (K .normal) e a b c d g h i j m o)
theorem m100_0_1g (c:Tf101_0)(d:Tf102_0)(a:Tf104_0)(e:Tf103_0)(b:Tf105_0)(g:Tf69_0)(α:Type)(K:KT α):F100_0_1 (J100_0_1g a b) α K=p100_0_2.unc fun σ=>runM Pg (E100_0g c d a e b g) sh100 (c100_0_23g ) K σ:=by kernel_rfl
theorem m100_0_1:∀ (α:Type) (K:KT α),F100_0_1 J100_0_1 α K=p100_0_2.unc fun σ=>runM Pg E100_0 sh100 c100_0_23 K σ:=m100_0_1g f101_0 f102_0 f104_0 f103_0 f105_0 f69_0
def c100_0_12g:MCode:=MCode.sub [1,1,0,0,1,1,0] (emb ac100)
def c100_0_12:MCode:=c100_0_12g
abbrev TJ100_0_0:Type 1:=(α:Type)->Int->Int->Int->(Bool->Op α)->Op α
def J100_0_0g (b:Tf102_0)(α:Type)(c d a:Int)(k1:Bool->Op α):Op α:=
 cK (decide (c < 0))
 (b α d a
 (fun e=>cK e
 (k1 (a != 0))
 (k1 false)))
 (k1 false)
def J100_0_0 (α:Type)(a b c:Int)(k1:Bool->Op α):Op α:=J100_0_0g f102_0 α a b c k1
def F100_0_0 (v:TJ100_0_0)(α:Type)(K:KT α):Int->Bool->I6 (Op α):=fun d j a b c e g h=>v α a b c (fun i=>u100_0_1 (K .normal) d i a b c e g h)
theorem m100_0_0g (b:Tf101_0)(a:Tf102_0)(c:Tf104_0)(d:Tf103_0)(e:Tf105_0)(g:Tf69_0)(α:Type)(K:KT α):F100_0_0 (J100_0_0g a) α K=p100_0_0.unc fun σ=>runM Pg (E100_0g b a c d e g) sh100 (c100_0_12g ) K σ:=by kernel_rfl
theorem m100_0_0:∀ (α:Type) (K:KT α),F100_0_0 J100_0_0 α K=p100_0_0.unc fun σ=>runM Pg E100_0 sh100 c100_0_12 K σ:=m100_0_0g f101_0 f102_0 f104_0 f103_0 f105_0 f69_0
abbrev Tf100_0:Type 1:=(α:Type)->Int->Int->Int->(I4 (Op α))->Op α
def f100_0g (i:TJ100_0_0)(j:TJ100_0_1)(l:Tf101_0)(h:Tf103_0)(m:Tf104_0)(o:Tf105_0)(c:Tf69_0)(α:Type)(d e a:Int)(k1:I4 (Op α)):Op α:=
 l α d e
 (fun g=>cK (decide (g<=a))
 (k1 d e a 9)
 (i α d e a
 (fun p=>cK p
 (k1 d e a 14)
 (m α d
 (fun q=>h α (w64 ((w64 (g+q))*524288))
 (fun b=>o α e 1048576 (w64 (2*b))
 (fun r J=>j α b d e
 (fun s t=>h α (w64 (g*1048576))
 (fun w=>c α (w64 (a*1048576)) w
 (fun z=>c α 1048576 b
 (fun A=>k1 s t (w64 ((w64 (z+3))+A)) 0))))
 (fun L B=>h α (w64 (g*1048576))
 (fun C=>c α (w64 (a*1048576)) C
 (fun D=>c α 1048576 b
 (fun F=>k1 B b (w64 ((w64 (D+3))+F)) 0))))
 (fun M=>h α (w64 (g*1048576))
 (fun G=>c α (w64 (a*1048576)) G
 (fun H=>c α 1048576 b
 (fun I=>k1 b r (w64 ((w64 (H+3))+I)) 0)))))))))))
def f100_0 (α:Type)(a b c:Int)(k1:I4 (Op α)):Op α:=f100_0g J100_0_0 J100_0_1 f101_0 f103_0 f104_0 f105_0 f69_0 α a b c k1
def pa100_0:PT (List DV):=pA [pV true [(dI .i64),(dI .i64),(dI .i64)]]
def Fn100_0 (v:Tf100_0)(α:Type)(k:RT α):Int->Int->Int->Op α:=fun a b c=>v α a b c (fun d e g h=>ur100_0_0 k d e g h)
def cm100_0g (a:TJ100_0_0)(b:TJ100_0_1):MCode:=(MCode.put (.m [⟨p100_0_0,F100_0_0 a⟩]) [1,1,0,0,1,1] (MCode.put (.m [⟨p100_0_2,F100_0_1 b⟩]) [1,1,1,1,1,1] (emb ac100)))
def cm100_0:MCode:=cm100_0g J100_0_0 J100_0_1
theorem gm100_0:cm100_0.Good Pg E100_0 sh100:=(put_seq (by kernel_rfl) (put_seq (by kernel_rfl) (emb_good ac100) ⟨m100_0_1,TT⟩) ⟨m100_0_0,TT⟩)
theorem em100_0:cm100_0.erase=ac100:=((put_erase _ _).trans ((put_erase _ _).trans (emb_erase _)))
theorem fm100_0g (a:Tf101_0)(i:Tf102_0)(b:Tf104_0)(c:Tf103_0)(d:Tf105_0)(e:Tf69_0)(g:TJ100_0_0)(h:TJ100_0_1)(α:Type)(k:RT α):Fn100_0 (f100_0g g h a c b d e) α k=pa100_0.unc fun ds=>fnM Pg (E100_0g a i b c d e) sh100 (cm100_0g g h) rs100 k ds:=by kernel_rfl
theorem fm100_0:∀ (α:Type) (k:RT α),Fn100_0 f100_0 α k=pa100_0.unc fun ds=>fnM Pg E100_0 sh100 cm100_0 rs100 k ds:=fm100_0g f101_0 f102_0 f104_0 f103_0 f105_0 f69_0 J100_0_0 J100_0_1
theorem is100:FnIs Pg 100 nt100 tr100 tl100 ac100 rs100:=codeF_is Tryz.func100 (by kernel_rfl)
theorem io100_0:InstOk Pg 100 nt100 ⟨pa100_0,Fn100_0 f100_0⟩:=inst_ok eo100_0 followsTry is100 ⟨⟨sh100,cm100_0,em100_0,gm100_0,fm100_0⟩⟩
abbrev nt121:Nat:=58
def sh121:SG:=[(12,iS 2),(14,iS 2),(18,iT),(24,iT),(32,iS 2),(35,iT),(38,iS 2),(41,iT),(45,iT),(47,iT)]
def tr121:TG:=[tT 0 [2,3,4],tT 1 [2,3,4,6],tT 2 [2,3,4,6,7,8],tT 3 [2,3,4,7,8,9,10],tT 4 [4,5]]
def tl121:TG:=[]
def ac121:ACode:=codeF Pg Tryz.f121 tr121 tl121
def rs121:List AResV:=resF Pg Tryz.f121
def pr121_0_0:PT (List RV):=pRs [pR true [rD (dI .i64),rD (dI .i64),rD (dI .i64)],wI]
def ur121_0_0 {β:Type}(g:List RV->β):I4 β:=pr121_0_0.unc g
def E121_0g (a:Tf122_0)(b:Tf123_0)(c:Tf109_0)(d:Tf69_0)(e:Tf124_0):EnvK:=EnvK.of [⟨122,nt122,[⟨pa122_0,Fn122_0 a⟩]⟩,⟨123,nt123,[⟨pa123_0,Fn123_0 b⟩]⟩,⟨109,nt109,[⟨pa109_0,Fn109_0 c⟩]⟩,⟨69,nt69,[⟨pa69_0,Fn69_0 d⟩]⟩,⟨124,nt124,[⟨pa124_0,Fn124_0 e⟩]⟩] noSeq
def E121_0:EnvK:=E121_0g f122_0 f123_0 f109_0 f69_0 f124_0
theorem eo121_0:E121_0.Ok Pg:=EnvK.of_ok noSeq_ok ⟨⟨io122_0,TT⟩,⟨io123_0,TT⟩,⟨io109_0,TT⟩,⟨io69_0,TT⟩,⟨io124_0,TT⟩,TT⟩
abbrev Tf121_0:Type 1:=(α:Type)->Int->Int->Int->Int->Int->Int->(Int->Int->Int->Op α)->Op α
def f121_0g (a:Tf109_0)(p:Tf122_0)(b:Tf123_0)(c:Tf124_0)(q:Tf69_0)(α:Type)(d e g h i j:Int)(k1:Int->Int->Int->Op α):Op α:=
 p α d e h i
 (fun r s=>b α r 1048576
 (fun l t=>b α s 1048576
 (fun m w=>a α d e
 (fun z=>a α h i
 (fun A=>q α (w64 ((w64 ((w64 (z*j))+(w64 (A*g))))+(w64 (g*j)))) 1048576
 (fun o=>cK t
 (c α true
 (fun B=>k1 l m (w64 (o+B))))
 (c α w
 (fun C=>k1 l m (w64 (o+C))))))))))
def f121_0 (α:Type)(a b c d e g:Int)(k1:Int->Int->Int->Op α):Op α:=f121_0g f109_0 f122_0 f123_0 f124_0 f69_0 α a b c d e g k1
def pa121_0:PT (List DV):=pA [pV true [(dI .i64),(dI .i64),(dI .i64)],pV true [(dI .i64),(dI .i64),(dI .i64)]]
def Fn121_0 (v:Tf121_0)(α:Type)(k:RT α):I6 (Op α):=fun a b c d e g=>v α a b c d e g (fun h i j=>ur121_0_0 k h i j 0)
def cm121_0g:MCode:=(emb ac121)
def cm121_0:MCode:=cm121_0g
theorem gm121_0:cm121_0.Good Pg E121_0 sh121:=(emb_good ac121)
theorem em121_0:cm121_0.erase=ac121:=(emb_erase _)
theorem fm121_0g (a:Tf122_0)(b:Tf123_0)(c:Tf109_0)(d:Tf69_0)(e:Tf124_0)(α:Type)(k:RT α):Fn121_0 (f121_0g c a b e d) α k=pa121_0.unc fun ds=>fnM Pg (E121_0g a b c d e) sh121 (cm121_0g ) rs121 k ds:=by kernel_rfl
theorem fm121_0:∀ (α:Type) (k:RT α),Fn121_0 f121_0 α k=pa121_0.unc fun ds=>fnM Pg E121_0 sh121 cm121_0 rs121 k ds:=fm121_0g f122_0 f123_0 f109_0 f69_0 f124_0
theorem is121:FnIs Pg 121 nt121 tr121 tl121 ac121 rs121:=codeF_is Tryz.func121 (by kernel_rfl)
theorem io121_0:InstOk Pg 121 nt121 ⟨pa121_0,Fn121_0 f121_0⟩:=inst_ok eo121_0 followsTry is121 ⟨⟨sh121,cm121_0,em121_0,gm121_0,fm121_0⟩⟩
abbrev nt66:Nat:=25
def sh66:SG:=[(8,[.cpx .f64]),(16,iT),(20,iS 2),(22,iT)]
def tr66:TG:=[tT 0 [1,2],tT 1 [1,2,4,5],tT 2 [1,2,4,5,19],tT 3 [1,2,4,5],tT 4 [2,3]]
def tl66:TG:=[]
def ac66:ACode:=codeF Pg Tryz.f66 tr66 tl66
def rs66:List AResV:=resF Pg Tryz.f66
def p66_0_0:PT St:=pS [sP 1,sP 2,sP 4,sI 5] [eBox 1 [(cD (dX .f64)),xI],eBox 2 (xs 3),eBox 4 [xI,xI]]
def u66_0_0 {β:Type}(g:St->β):Int->Nat->Nat->I6 β:=p66_0_0.unc g
def p66_0_1:PT St:=pS [sP 1,sP 2,sP 4,sI 5,sY 19 dB] [eBox 1 [(cD (dX .f64)),xI],eBox 2 (xs 3),eBox 4 [xI,xI]]
def u66_0_1 {β:Type}(g:St->β):Int->Bool->Nat->Nat->I6 β:=p66_0_1.unc g
def pr66_0_0:PT (List RV):=pRs [pR true [rD (dI .i64),rD (dI .i64),rD (dI .i64)],wI]
def ur66_0_0 {β:Type}(g:List RV->β):I4 β:=pr66_0_0.unc g
def E66_0g (a:Tf107_0)(b:Tf108_0):EnvK:=EnvK.of [⟨107,nt107,[⟨pa107_0,Fn107_0 a⟩]⟩,⟨108,nt108,[⟨pa108_0,Fn108_0 b⟩]⟩] noSeq
def E66_0:EnvK:=E66_0g f107_0 f108_0
theorem eo66_0:E66_0.Ok Pg:=EnvK.of_ok noSeq_ok ⟨⟨io107_0,TT⟩,⟨io108_0,TT⟩,TT⟩
def c66_0_5g:MCode:=MCode.sub [1,1,0] (emb ac66)
def c66_0_5:MCode:=c66_0_5g
abbrev TJ66_0_0:Type 1:=(α:Type)->Int->Int->(Op α)->(Bool->Op α)->Op α
def J66_0_0g (b:Tf108_0)(α:Type)(c d:Int)(k1:Op α)(k2:Bool->Op α):Op α:=
 cK (c == 0)
 (b α d 0 67108864
 (fun a=>cK (!a)
 (k1)
 (k2 (!a))))
 (k2 false)
def J66_0_0 (α:Type)(a b:Int)(k1:Op α)(k2:Bool->Op α):Op α:=J66_0_0g f108_0 α a b k1 k2
def F66_0_0 (v:TJ66_0_0)(α:Type)(K:KT α):Int->Nat->Nat->I6 (Op α):=fun b c d a e g h i j=>v α b a (u66_0_0 (K .normal) 2 c d a e g h i j) (fun l=>u66_0_1 (K .normal) b l c d a e g h i j)
theorem m66_0_0g (b:Tf107_0)(a:Tf108_0)(α:Type)(K:KT α):F66_0_0 (J66_0_0g a) α K=p66_0_0.unc fun σ=>runM Pg (E66_0g b a) sh66 (c66_0_5g ) K σ:=by kernel_rfl
theorem m66_0_0:∀ (α:Type) (K:KT α),F66_0_0 J66_0_0 α K=p66_0_0.unc fun σ=>runM Pg E66_0 sh66 c66_0_5 K σ:=m66_0_0g f107_0 f108_0
abbrev Tf66_0:Type 1:=(α:Type)->Nat->Nat->Int->(Int->Int->Int->Op α)->Op α
def f66_0g (d:TJ66_0_0)(e:Tf107_0)(α:Type)(g h:Nat)(i:Int)(k1:Int->Int->Int->Op α):Op α:=
 e α g h 4724276009111650304
 (fun a b c=>d α c i
 (k1 a b 2)
 (fun j=>k1 a b c))
def f66_0 (α:Type)(a b:Nat)(c:Int)(k1:Int->Int->Int->Op α):Op α:=f66_0g J66_0_0 f107_0 α a b c k1
def pa66_0:PT (List DV):=pA [pV true [(dX .f64),(dI .i64)]]
def Fn66_0 (v:Tf66_0)(α:Type)(k:RT α):Nat->Nat->Int->Op α:=fun b c a=>v α b c a (fun d e g=>ur66_0_0 k d e a g)
def cm66_0g (a:TJ66_0_0):MCode:=(MCode.put (.m [⟨p66_0_0,F66_0_0 a⟩]) [1,1] (emb ac66))
def cm66_0:MCode:=cm66_0g J66_0_0
theorem gm66_0:cm66_0.Good Pg E66_0 sh66:=(put_seq (by kernel_rfl) (emb_good ac66) ⟨m66_0_0,TT⟩)
theorem em66_0:cm66_0.erase=ac66:=((put_erase _ _).trans (emb_erase _))
theorem fm66_0g (a:Tf107_0)(c:Tf108_0)(b:TJ66_0_0)(α:Type)(k:RT α):Fn66_0 (f66_0g b a) α k=pa66_0.unc fun ds=>fnM Pg (E66_0g a c) sh66 (cm66_0g b) rs66 k ds:=by kernel_rfl
theorem fm66_0:∀ (α:Type) (k:RT α),Fn66_0 f66_0 α k=pa66_0.unc fun ds=>fnM Pg E66_0 sh66 cm66_0 rs66 k ds:=fm66_0g f107_0 f108_0 J66_0_0
theorem is66:FnIs Pg 66 nt66 tr66 tl66 ac66 rs66:=codeF_is Tryz.func66 (by kernel_rfl)
theorem io66_0:InstOk Pg 66 nt66 ⟨pa66_0,Fn66_0 f66_0⟩:=inst_ok eo66_0 followsTry is66 ⟨⟨sh66,cm66_0,em66_0,gm66_0,fm66_0⟩⟩
abbrev nt96:Nat:=20
def sh96:SG:=[(10,iT)]
def tr96:TG:=[tT 0 [0,1,2,6],tT 1 [0,1,2,6,11],tT 2 [0,6],tT 3 [0,6]]
def tl96:TG:=[]
def ac96:ACode:=codeF Pg Tryz.f96 tr96 tl96
def rs96:List AResV:=resF Pg Tryz.f96
def pr96_0_0:PT (List RV):=pRs [pR true [rD (dX .f64),rD (dI .i64)],pR true [rD (dI .i64),rD (dI .i64),rD (dI .i64),rD (dI .i64),rD (dI .i64),rD (dI .i64),rD (dI .i64),rD dL,rD (dI .i64),rD (dI .i64)]]
def ur96_0_0 {β:Type}(g:List RV->β):Nat->Nat->Int->Int->Int->Int->Int->Int->Int->Int->Rows->Int->Int->β:=pr96_0_0.unc g
def E96_0g (a:Tf131_0)(b:Tf63_0):EnvK:=EnvK.ofIO [⟨131,nt131,[⟨pa131_0,Fn131_0 a⟩]⟩,⟨63,nt63,[⟨pa63_0,Fn63_0 b⟩]⟩] noSeq [(63,[0])]
def E96_0:EnvK:=E96_0g f131_0 f63_0
theorem eo96_0:E96_0.Ok Pg:=EnvK.ofIO_ok noSeq_ok ⟨⟨io131_0,TT⟩,⟨io63_0,TT⟩,TT⟩
abbrev Tf96_0:Type 1:=(α:Type)->Int->Int->Int->(Nat->Nat->Int->Int->Op α)->Op α
def f96_0g (b:Tf131_0)(c:Tf63_0)(α:Type)(a d e:Int)(k1:Nat->Nat->Int->Int->Op α):Op α:=
 cK (a != 0)
 (k1 0 0 0 a)
 (b α d e
 (fun g h i j=>c α
 (k1 g h i j)))
def f96_0 (α:Type)(a b c:Int)(k1:Nat->Nat->Int->Int->Op α):Op α:=f96_0g f131_0 f63_0 α a b c k1
def pa96_0:PT (List DV):=pA [pV false [(dMr [(dI .i64),(dI .i64),(dI .i64),(dI .i64),(dI .i64),(dI .i64),(dI .i64),dL,(dI .i64),(dI .i64)] 0)],vI,vI]
def Fn96_0 (v:Tf96_0)(α:Type)(k:RT α):Int->Int->Int->Int->Int->Int->Int->Rows->I4 (Op α):=fun a b c d e g h i j l m o=>v α a m o (fun p q r s=>ur96_0_0 k p q r s b c d e g h i j l)
def cm96_0g:MCode:=(emb ac96)
def cm96_0:MCode:=cm96_0g
theorem gm96_0:cm96_0.Good Pg E96_0 sh96:=(emb_good ac96)
theorem em96_0:cm96_0.erase=ac96:=(emb_erase _)
theorem fm96_0g (a:Tf131_0)(b:Tf63_0)(α:Type)(k:RT α):Fn96_0 (f96_0g a b) α k=pa96_0.unc fun ds=>fnM Pg (E96_0g a b) sh96 (cm96_0g ) rs96 k ds:=by kernel_rfl
theorem fm96_0:∀ (α:Type) (k:RT α),Fn96_0 f96_0 α k=pa96_0.unc fun ds=>fnM Pg E96_0 sh96 cm96_0 rs96 k ds:=fm96_0g f131_0 f63_0
theorem is96:FnIs Pg 96 nt96 tr96 tl96 ac96 rs96:=codeF_is Tryz.func96 (by kernel_rfl)
theorem io96_0:InstOk Pg 96 nt96 ⟨pa96_0,Fn96_0 f96_0⟩:=inst_ok eo96_0 followsTry is96 ⟨⟨sh96,cm96_0,em96_0,gm96_0,fm96_0⟩⟩
abbrev nt61:Nat:=21
def sh61:SG:=[(10,iT)]
def tr61:TG:=[tT 0 [0,1,2,6],tT 1 [0,1,2,6,11],tT 2 [0,6],tT 3 [0,6]]
def tl61:TG:=[]
def ac61:ACode:=codeF Pg Tryz.f61 tr61 tl61
def rs61:List AResV:=resF Pg Tryz.f61
def pr61_0_0:PT (List RV):=pRs [pR true [rD (dX .f64),rD (dI .i64)],pR true [rD (dI .i64),rD (dI .i64),rD (dI .i64),rD (dI .i64),rD (dI .i64),rD (dI .i64),rD (dI .i64),rD dL,rD (dI .i64),rD (dI .i64)]]
def ur61_0_0 {β:Type}(g:List RV->β):Nat->Nat->Int->Int->Int->Int->Int->Int->Int->Int->Rows->Int->Int->β:=pr61_0_0.unc g
def E61_0g (a:Tf98_0)(b:Tf63_0):EnvK:=EnvK.ofIO [⟨98,nt98,[⟨pa98_0,Fn98_0 a⟩]⟩,⟨63,nt63,[⟨pa63_0,Fn63_0 b⟩]⟩] noSeq [(63,[0])]
def E61_0:EnvK:=E61_0g f98_0 f63_0
theorem eo61_0:E61_0.Ok Pg:=EnvK.ofIO_ok noSeq_ok ⟨⟨io98_0,TT⟩,⟨io63_0,TT⟩,TT⟩
abbrev Tf61_0:Type 1:=(α:Type)->Int->Int->Int->(Nat->Nat->Int->Int->Op α)->Op α
def f61_0g (b:Tf63_0)(c:Tf98_0)(α:Type)(a d e:Int)(k1:Nat->Nat->Int->Int->Op α):Op α:=
 cK (a != 0)
 (k1 0 0 0 a)
 (c α d e
 (fun g h i j=>b α
 (k1 g h i j)))
def f61_0 (α:Type)(a b c:Int)(k1:Nat->Nat->Int->Int->Op α):Op α:=f61_0g f63_0 f98_0 α a b c k1
def pa61_0:PT (List DV):=pA [pV false [(dMr [(dI .i64),(dI .i64),(dI .i64),(dI .i64),(dI .i64),(dI .i64),(dI .i64),dL,(dI .i64),(dI .i64)] 0)],vI,vI]
def Fn61_0 (v:Tf61_0)(α:Type)(k:RT α):Int->Int->Int->Int->Int->Int->Int->Rows->I4 (Op α):=fun a b c d e g h i j l m o=>v α a m o (fun p q r s=>ur61_0_0 k p q r s b c d e g h i j l)
def cm61_0g:MCode:=(emb ac61)
def cm61_0:MCode:=cm61_0g
theorem gm61_0:cm61_0.Good Pg E61_0 sh61:=(emb_good ac61)
theorem em61_0:cm61_0.erase=ac61:=(emb_erase _)
theorem fm61_0g (a:Tf98_0)(b:Tf63_0)(α:Type)(k:RT α):Fn61_0 (f61_0g b a) α k=pa61_0.unc fun ds=>fnM Pg (E61_0g a b) sh61 (cm61_0g ) rs61 k ds:=by kernel_rfl
theorem fm61_0:∀ (α:Type) (k:RT α),Fn61_0 f61_0 α k=pa61_0.unc fun ds=>fnM Pg E61_0 sh61 cm61_0 rs61 k ds:=fm61_0g f98_0 f63_0
theorem is61:FnIs Pg 61 nt61 tr61 tl61 ac61 rs61:=codeF_is Tryz.func61 (by kernel_rfl)
theorem io61_0:InstOk Pg 61 nt61 ⟨pa61_0,Fn61_0 f61_0⟩:=inst_ok eo61_0 followsTry is61 ⟨⟨sh61,cm61_0,em61_0,gm61_0,fm61_0⟩⟩
abbrev nt26:Nat:=15
def sh26:SG:=[(7,[.int .i64,.int .i64,.int .i64,.int .i64,.int .i64,.int .i64,.sl,.int .i64,.int .i64]),(11,[.int .i64,.int .i64,.int .i64,.int .i64,.int .i64,.int .i64,.sl,.int .i64,.int .i64])]
def tr26:TG:=[tT 0 [1],tT 1 [1,5],tT 2 [2,3]]
def tl26:TG:=[]
def ac26:ACode:=codeF Pg Tryz.f26 tr26 tl26
def rs26:List AResV:=resF Pg Tryz.f26
def pr26_0_0:PT (List RV):=pRs [pR false [rJ [(dI .i64),(dI .i64),(dI .i64),(dI .i64),(dI .i64),(dI .i64),(dI .i64),dL,(dI .i64),(dI .i64)] 0],wI]
def ur26_0_0 {β:Type}(g:List RV->β):Int->Int->Int->Int->Int->Int->Int->Rows->Int->Int->Int->β:=pr26_0_0.unc g
def E26_0g (a:Tf53_0):EnvK:=EnvK.of [⟨53,nt53,[⟨pa53_0,Fn53_0 a⟩]⟩] noSeq
def E26_0:EnvK:=E26_0g f53_0
theorem eo26_0:E26_0.Ok Pg:=EnvK.of_ok noSeq_ok ⟨⟨io53_0,TT⟩,TT⟩
abbrev Tf26_0:Type 1:=(α:Type)->Int->Int->Int->Int->Int->Int->Rows->Int->Int->(Int->Op α)->Op α
def f26_0g (a:Tf53_0)(α:Type)(b c d e g h:Int)(i:Rows)(j l:Int)(k1:Int->Op α):Op α:=
 a α b c d e g h i j l
 (fun o m=>k1 m)
def f26_0 (α:Type)(a b c d e g:Int)(h:Rows)(i j:Int)(k1:Int->Op α):Op α:=f26_0g f53_0 α a b c d e g h i j k1
def pa26_0:PT (List DV):=pA [pV true [(dI .i64),(dI .i64),(dI .i64),(dI .i64),(dI .i64),(dI .i64),dL,(dI .i64),(dI .i64)]]
def Fn26_0 (v:Tf26_0)(α:Type)(k:RT α):Int->Int->Int->Int->Int->Int->Rows->Int->Int->Op α:=fun a b c d e g h i j=>v α a b c d e g h i j (fun l=>ur26_0_0 k 0 a b c d e g h i j l)
def cm26_0g:MCode:=(emb ac26)
def cm26_0:MCode:=cm26_0g
theorem gm26_0:cm26_0.Good Pg E26_0 sh26:=(emb_good ac26)
theorem em26_0:cm26_0.erase=ac26:=(emb_erase _)
theorem fm26_0g (a:Tf53_0)(α:Type)(k:RT α):Fn26_0 (f26_0g a) α k=pa26_0.unc fun ds=>fnM Pg (E26_0g a) sh26 (cm26_0g ) rs26 k ds:=by kernel_rfl
theorem fm26_0:∀ (α:Type) (k:RT α),Fn26_0 f26_0 α k=pa26_0.unc fun ds=>fnM Pg E26_0 sh26 cm26_0 rs26 k ds:=fm26_0g f53_0
theorem is26:FnIs Pg 26 nt26 tr26 tl26 ac26 rs26:=codeF_is Tryz.func26 (by kernel_rfl)
theorem io26_0:InstOk Pg 26 nt26 ⟨pa26_0,Fn26_0 f26_0⟩:=inst_ok eo26_0 followsTry is26 ⟨⟨sh26,cm26_0,em26_0,gm26_0,fm26_0⟩⟩
abbrev nt39:Nat:=34
def sh39:SG:=[(10,[.sl]),(19,[.sl,.sl,.int .i64,.int .i64]),(21,[.sl]),(22,iS 9),(23,iS 9),(25,[.sl]),(26,iS 9),(27,iS 9)]
def tr39:TG:=[tT 0 [1],tT 1 [1,4,5],tT 2 [1,4,5,15],tT 3 [2,3],tT 4 [7],tT 5 [2,3]]
def tl39:TG:=[]
def ac39:ACode:=codeF Pg Tryz.f39 tr39 tl39
def rs39:List AResV:=resF Pg Tryz.f39
def pr39_0_0:PT (List RV):=pRs [wI,wI]
def ur39_0_0 {β:Type}(g:List RV->β):Int->Int->β:=pr39_0_0.unc g
def E39_0g (a:Tf71_0)(b:Tf22_0)(c:Tf52_0)(d:Tf53_0):EnvK:=EnvK.of [⟨71,nt71,[⟨pa71_0,Fn71_0 a⟩]⟩,⟨22,nt22,[⟨pa22_0,Fn22_0 b⟩]⟩,⟨52,nt52,[⟨pa52_0,Fn52_0 c⟩]⟩,⟨53,nt53,[⟨pa53_0,Fn53_0 d⟩]⟩] noSeq
def E39_0:EnvK:=E39_0g f71_0 f22_0 f52_0 f53_0
theorem eo39_0:E39_0.Ok Pg:=EnvK.of_ok noSeq_ok ⟨⟨io71_0,TT⟩,⟨io22_0,TT⟩,⟨io52_0,TT⟩,⟨io53_0,TT⟩,TT⟩
abbrev Tf39_0:Type 1:=(α:Type)->Rows->Rows->Int->Int->(Int->Int->Op α)->Op α
def f39_0g (c:Tf22_0)(d:Tf52_0)(e:Tf53_0)(g:Tf71_0)(α:Type)(a h:Rows)(i j:Int)(k1:Int->Int->Op α):Op α:=
 g α a
 (fun l b=>cK (b != 0)
 (k1 l b)
 (rowK a 0 [.int .i64,.int .i64,.int .i64,.int .i64,.int .i64,.int .i64,.int .i64,.int .i64,.int .i64]
 (fun w m o z A B C D F=>rowK a 0 [.int .i64,.int .i64,.int .i64,.int .i64,.int .i64,.int .i64,.int .i64,.int .i64,.int .i64]
 (fun G H I p q r s J L=>c α
 (d α
 (e α o p q m r s h i j
 (fun M t=>k1 0 t)))))))
def f39_0 (α:Type)(a b:Rows)(c d:Int)(k1:Int->Int->Op α):Op α:=f39_0g f22_0 f52_0 f53_0 f71_0 α a b c d k1
def pa39_0:PT (List DV):=pA [pV true [dL,dL,(dI .i64),(dI .i64)]]
def Fn39_0 (v:Tf39_0)(α:Type)(k:RT α):Rows->Rows->Int->Int->Op α:=fun a b c d=>v α a b c d (fun e g=>ur39_0_0 k e g)
def cm39_0g:MCode:=(emb ac39)
def cm39_0:MCode:=cm39_0g
theorem gm39_0:cm39_0.Good Pg E39_0 sh39:=(emb_good ac39)
theorem em39_0:cm39_0.erase=ac39:=(emb_erase _)
theorem fm39_0g (a:Tf71_0)(b:Tf22_0)(c:Tf52_0)(d:Tf53_0)(α:Type)(k:RT α):Fn39_0 (f39_0g b c d a) α k=pa39_0.unc fun ds=>fnM Pg (E39_0g a b c d) sh39 (cm39_0g ) rs39 k ds:=by kernel_rfl
theorem fm39_0:∀ (α:Type) (k:RT α),Fn39_0 f39_0 α k=pa39_0.unc fun ds=>fnM Pg E39_0 sh39 cm39_0 rs39 k ds:=fm39_0g f71_0 f22_0 f52_0 f53_0
theorem is39:FnIs Pg 39 nt39 tr39 tl39 ac39 rs39:=codeF_is Tryz.func39 (by kernel_rfl)
theorem io39_0:InstOk Pg 39 nt39 ⟨pa39_0,Fn39_0 f39_0⟩:=inst_ok eo39_0 followsTry is39 ⟨⟨sh39,cm39_0,em39_0,gm39_0,fm39_0⟩⟩
abbrev nt31:Nat:=31
def sh31:SG:=[(8,[.cpx .f64,.int .i64]),(16,iS 3),(19,iT),(21,iT),(25,iT),(27,iT)]
def tr31:TG:=[tT 0 [1,2],tT 1 [2,4,5],tT 2 [2,4,5,13],tT 3 [2,3],tT 4 [2,6],tT 5 [2,3]]
def tl31:TG:=[]
def ac31:ACode:=codeF Pg Tryz.f31 tr31 tl31
def rs31:List AResV:=resF Pg Tryz.f31
def pr31_0_0:PT (List RV):=pRs [pR true [rD (dI .i64),rD (dI .i64)],wI]
def ur31_0_0 {β:Type}(g:List RV->β):Int->Int->Int->β:=pr31_0_0.unc g
def E31_0g (a:Tf66_0)(b:Tf67_0)(c:Tf68_0)(d:Tf69_0):EnvK:=EnvK.of [⟨66,nt66,[⟨pa66_0,Fn66_0 a⟩]⟩,⟨67,nt67,[⟨pa67_0,Fn67_0 b⟩]⟩,⟨68,nt68,[⟨pa68_0,Fn68_0 c⟩]⟩,⟨69,nt69,[⟨pa69_0,Fn69_0 d⟩]⟩] noSeq
def E31_0:EnvK:=E31_0g f66_0 f67_0 f68_0 f69_0
theorem eo31_0:E31_0.Ok Pg:=EnvK.of_ok noSeq_ok ⟨⟨io66_0,TT⟩,⟨io67_0,TT⟩,⟨io68_0,TT⟩,⟨io69_0,TT⟩,TT⟩
abbrev Tf31_0:Type 1:=(α:Type)->Nat->Nat->Int->(Int->Int->Int->Op α)->Op α
def f31_0g (e:Tf66_0)(g:Tf67_0)(h:Tf68_0)(i:Tf69_0)(α:Type)(j l:Nat)(a:Int)(k1:Int->Int->Int->Op α):Op α:=
 e α j l a
 (fun m o b=>cK (b != 0)
 (k1 0 0 b)
 (g α m o a
 (fun c d=>h α (w64 (c*c)) 1048576
 (fun p=>i α (w64 (d*d)) 1048576
 (fun q=>k1 p q 0)))))
def f31_0 (α:Type)(a b:Nat)(c:Int)(k1:Int->Int->Int->Op α):Op α:=f31_0g f66_0 f67_0 f68_0 f69_0 α a b c k1
def pa31_0:PT (List DV):=pA [pV true [(dX .f64),(dI .i64)]]
def Fn31_0 (v:Tf31_0)(α:Type)(k:RT α):Nat->Nat->Int->Op α:=fun a b c=>v α a b c (fun d e g=>ur31_0_0 k d e g)
def cm31_0g:MCode:=(emb ac31)
def cm31_0:MCode:=cm31_0g
theorem gm31_0:cm31_0.Good Pg E31_0 sh31:=(emb_good ac31)
theorem em31_0:cm31_0.erase=ac31:=(emb_erase _)
theorem fm31_0g (a:Tf66_0)(b:Tf67_0)(c:Tf68_0)(d:Tf69_0)(α:Type)(k:RT α):Fn31_0 (f31_0g a b c d) α k=pa31_0.unc fun ds=>fnM Pg (E31_0g a b c d) sh31 (cm31_0g ) rs31 k ds:=by kernel_rfl
theorem fm31_0:∀ (α:Type) (k:RT α),Fn31_0 f31_0 α k=pa31_0.unc fun ds=>fnM Pg E31_0 sh31 cm31_0 rs31 k ds:=fm31_0g f66_0 f67_0 f68_0 f69_0
theorem is31:FnIs Pg 31 nt31 tr31 tl31 ac31 rs31:=codeF_is Tryz.func31 (by kernel_rfl)
theorem io31_0:InstOk Pg 31 nt31 ⟨pa31_0,Fn31_0 f31_0⟩:=inst_ok eo31_0 followsTry is31 ⟨⟨sh31,cm31_0,em31_0,gm31_0,fm31_0⟩⟩
abbrev nt144:Nat:=54
def sh144:SG:=[(21,iT),(27,iT),(50,iS 3)]
def tr144:TG:=[tT 0 [0,1,4],tT 1 [0,1,4,6],tT 2 [0,1,4,6,7],tT 3 [0,1,4,6,7,8],tT 4 [0,1,4,6,8,10],tT 5 [0,1,4,12],tT 6 [4,12,48],tT 7 [4,12],tT 8 [4,5]]
def tl144:TG:=[]
def ac144:ACode:=codeF Pg Tryz.f144 tr144 tl144
def rs144:List AResV:=resF Pg Tryz.f144
def p144_0_0:PT St:=pS [sI 0,sI 1,sP 4,sP 12] [eBox 4 [(cD (dX .f64)),xI],eBox 12 (xs 3)]
def u144_0_0 {β:Type}(g:St->β):Int->Int->Nat->Nat->I4 β:=p144_0_0.unc g
def p144_0_1:PT St:=pS [sP 4,sP 12] [eBox 4 [(cD (dX .f64)),xI],eBox 12 (xs 3)]
def u144_0_1 {β:Type}(g:St->β):Nat->Nat->I4 β:=p144_0_1.unc g
def p144_0_2:PT St:=pS [sP 4,sP 12,sY 48 dB] [eBox 4 [(cD (dX .f64)),xI],eBox 12 (xs 3)]
def u144_0_2 {β:Type}(g:St->β):Bool->Nat->Nat->I4 β:=p144_0_2.unc g
def pr144_0_0:PT (List RV):=pRs [pR true [rD (dX .f64),rD (dI .i64)],wI]
def ur144_0_0 {β:Type}(g:List RV->β):Nat->Nat->Int->Int->β:=pr144_0_0.unc g
def E144_0g (a:Tf68_0)(b:Tf155_0)(c:Tf123_0)(d:Tf69_0)(e:Tf134_0):EnvK:=EnvK.of [⟨68,nt68,[⟨pa68_0,Fn68_0 a⟩]⟩,⟨155,nt155,[⟨pa155_0,Fn155_0 b⟩]⟩,⟨123,nt123,[⟨pa123_0,Fn123_0 c⟩]⟩,⟨69,nt69,[⟨pa69_0,Fn69_0 d⟩]⟩,⟨134,nt134,[⟨pa134_0,Fn134_0 e⟩]⟩] noSeq
def E144_0:EnvK:=E144_0g f68_0 f155_0 f123_0 f69_0 f134_0
theorem eo144_0:E144_0.Ok Pg:=EnvK.of_ok noSeq_ok ⟨⟨io68_0,TT⟩,⟨io155_0,TT⟩,⟨io123_0,TT⟩,⟨io69_0,TT⟩,⟨io134_0,TT⟩,TT⟩
def c144_0_13g:MCode:=MCode.sub [1,1,1,1,1,1,0] (emb ac144)
def c144_0_13:MCode:=c144_0_13g
abbrev TJ144_0_0:Type 1:=(α:Type)->Int->Int->(Op α)->(Bool->Op α)->Op α
def J144_0_0g (α:Type)(a b:Int)(k1:Op α)(k2:Bool->Op α):Op α:=
 cK (a == b)
 (cK ((Int.tmod a 1048576) == 0)
 (k1)
 (k2 ((Int.tmod a 1048576) == 0)))
 (k2 false)
def J144_0_0 (α:Type)(a b:Int)(k1:Op α)(k2:Bool->Op α):Op α:=J144_0_0g α a b k1 k2
def F144_0_0 (v:TJ144_0_0)(α:Type)(K:KT α):Int->Int->Nat->Nat->I4 (Op α):=fun g h a b c d e i=>v α g h (u144_0_1 (K .normal) a b c d e 0) (fun j=>u144_0_2 (K .normal) j a b c d e i)
theorem m144_0_0g (a:Tf68_0)(b:Tf155_0)(c:Tf123_0)(d:Tf69_0)(e:Tf134_0)(α:Type)(K:KT α):F144_0_0 (J144_0_0g ) α K=p144_0_0.unc fun σ=>runM Pg (E144_0g a b c d e) sh144 (c144_0_13g ) K σ:=by kernel_rfl
theorem m144_0_0:∀ (α:Type) (K:KT α),F144_0_0 J144_0_0 α K=p144_0_0.unc fun σ=>runM Pg E144_0 sh144 c144_0_13 K σ:=m144_0_0g f68_0 f155_0 f123_0 f69_0 f134_0
abbrev Tf144_0:Type 1:=(α:Type)->Int->Int->(Nat->Nat->Int->Int->Op α)->Op α
def f144_0g (i:TJ144_0_0)(b:Tf123_0)(c:Tf134_0)(j:Tf155_0)(l:Tf68_0)(m:Tf69_0)(α:Type)(d a:Int)(k1:Nat->Nat->Int->Int->Op α):Op α:=
 l α (w64 (d+a)) 2
 (fun e=>j α e
 (fun o p=>b α o 64
 (fun g D=>b α p 64
 (fun h F=>m α (w64 (11*(w64 (a - e)))) 7
 (fun q=>i α d a
 (c α g h 0
 (fun r s t w=>k1 r s t w))
 (fun G=>c α g h (w64 (2+q))
 (fun z A B C=>k1 z A B C)))))))
def f144_0 (α:Type)(a b:Int)(k1:Nat->Nat->Int->Int->Op α):Op α:=f144_0g J144_0_0 f123_0 f134_0 f155_0 f68_0 f69_0 α a b k1
def pa144_0:PT (List DV):=pA [vI,vI]
def Fn144_0 (v:Tf144_0)(α:Type)(k:RT α):Int->Int->Op α:=fun a b=>v α a b (fun c d e g=>ur144_0_0 k c d e g)
def cm144_0g (a:TJ144_0_0):MCode:=(MCode.put (.m [⟨p144_0_0,F144_0_0 a⟩]) [1,1,1,1,1,1] (emb ac144))
def cm144_0:MCode:=cm144_0g J144_0_0
theorem gm144_0:cm144_0.Good Pg E144_0 sh144:=(put_seq (by kernel_rfl) (emb_good ac144) ⟨m144_0_0,TT⟩)
theorem em144_0:cm144_0.erase=ac144:=((put_erase _ _).trans (emb_erase _))
theorem fm144_0g (a:Tf68_0)(b:Tf155_0)(c:Tf123_0)(d:Tf69_0)(e:Tf134_0)(g:TJ144_0_0)(α:Type)(k:RT α):Fn144_0 (f144_0g g c e b a d) α k=pa144_0.unc fun ds=>fnM Pg (E144_0g a b c d e) sh144 (cm144_0g g) rs144 k ds:=by kernel_rfl
theorem fm144_0:∀ (α:Type) (k:RT α),Fn144_0 f144_0 α k=pa144_0.unc fun ds=>fnM Pg E144_0 sh144 cm144_0 rs144 k ds:=fm144_0g f68_0 f155_0 f123_0 f69_0 f134_0 J144_0_0
theorem is144:FnIs Pg 144 nt144 tr144 tl144 ac144 rs144:=codeF_is Tryz.func144 (by kernel_rfl)
theorem io144_0:InstOk Pg 144 nt144 ⟨pa144_0,Fn144_0 f144_0⟩:=inst_ok eo144_0 followsTry is144 ⟨⟨sh144,cm144_0,em144_0,gm144_0,fm144_0⟩⟩
abbrev nt147:Nat:=12
def sh147:SG:=[(7,iS 3),(8,iS 3)]
def tr147:TG:=[tT 0 [1,2,3,4],tT 1 [4,5]]
def tl147:TG:=[]
def ac147:ACode:=codeF Pg Tryz.f147 tr147 tl147
def rs147:List AResV:=resF Pg Tryz.f147
def pr147_0_0:PT (List RV):=pRs [pR true [rD (dI .i64),rD (dI .i64),rD (dI .i64)],wI]
def ur147_0_0 {β:Type}(g:List RV->β):I4 β:=pr147_0_0.unc g
def E147_0g (a:Tf119_0):EnvK:=EnvK.of [⟨119,nt119,[⟨pa119_0,Fn119_0 a⟩]⟩] noSeq
def E147_0:EnvK:=E147_0g f119_0
theorem eo147_0:E147_0.Ok Pg:=EnvK.of_ok noSeq_ok ⟨⟨io119_0,TT⟩,TT⟩
abbrev Tf147_0:Type 1:=(α:Type)->Int->Int->Int->Int->Int->Int->(Int->Int->Int->Op α)->Op α
def f147_0g (a:Tf119_0)(α:Type)(b c d e g h:Int)(k1:Int->Int->Int->Op α):Op α:=
 a α e g h b c d
 (fun i j l=>k1 i j l)
def f147_0 (α:Type)(a b c d e g:Int)(k1:Int->Int->Int->Op α):Op α:=f147_0g f119_0 α a b c d e g k1
def pa147_0:PT (List DV):=pA [pV true [(dI .i64),(dI .i64),(dI .i64)],pV false [(dP [(dFn 119 [])] 0)],pV false [(dP [(dI .i64),(dI .i64),(dI .i64)] 0)]]
def Fn147_0 (v:Tf147_0)(α:Type)(k:RT α):I6 (Op α):=fun a b c d e g=>v α a b c d e g (fun h i j=>ur147_0_0 k h i j 0)
def cm147_0g:MCode:=(emb ac147)
def cm147_0:MCode:=cm147_0g
theorem gm147_0:cm147_0.Good Pg E147_0 sh147:=(emb_good ac147)
theorem em147_0:cm147_0.erase=ac147:=(emb_erase _)
theorem fm147_0g (a:Tf119_0)(α:Type)(k:RT α):Fn147_0 (f147_0g a) α k=pa147_0.unc fun ds=>fnM Pg (E147_0g a) sh147 (cm147_0g ) rs147 k ds:=by kernel_rfl
theorem fm147_0:∀ (α:Type) (k:RT α),Fn147_0 f147_0 α k=pa147_0.unc fun ds=>fnM Pg E147_0 sh147 cm147_0 rs147 k ds:=fm147_0g f119_0
theorem is147:FnIs Pg 147 nt147 tr147 tl147 ac147 rs147:=codeF_is Tryz.func147 (by kernel_rfl)
theorem io147_0:InstOk Pg 147 nt147 ⟨pa147_0,Fn147_0 f147_0⟩:=inst_ok eo147_0 followsTry is147 ⟨⟨sh147,cm147_0,em147_0,gm147_0,fm147_0⟩⟩
def pr147_1_0:PT (List RV):=pRs [pR true [rD (dI .i64),rD (dI .i64),rD (dI .i64)],wI]
def ur147_1_0 {β:Type}(g:List RV->β):I4 β:=pr147_1_0.unc g
def E147_1g (a:Tf121_0):EnvK:=EnvK.of [⟨121,nt121,[⟨pa121_0,Fn121_0 a⟩]⟩] noSeq
def E147_1:EnvK:=E147_1g f121_0
theorem eo147_1:E147_1.Ok Pg:=EnvK.of_ok noSeq_ok ⟨⟨io121_0,TT⟩,TT⟩
abbrev Tf147_1:Type 1:=(α:Type)->Int->Int->Int->Int->Int->Int->(Int->Int->Int->Op α)->Op α
def f147_1g (a:Tf121_0)(α:Type)(b c d e g h:Int)(k1:Int->Int->Int->Op α):Op α:=
 a α e g h b c d
 (fun i j l=>k1 i j l)
def f147_1 (α:Type)(a b c d e g:Int)(k1:Int->Int->Int->Op α):Op α:=f147_1g f121_0 α a b c d e g k1
def pa147_1:PT (List DV):=pA [pV true [(dI .i64),(dI .i64),(dI .i64)],pV false [(dP [(dFn 121 [])] 0)],pV false [(dP [(dI .i64),(dI .i64),(dI .i64)] 0)]]
def Fn147_1 (v:Tf147_1)(α:Type)(k:RT α):I6 (Op α):=fun a b c d e g=>v α a b c d e g (fun h i j=>ur147_1_0 k h i j 0)
def cm147_1g:MCode:=(emb ac147)
def cm147_1:MCode:=cm147_1g
theorem gm147_1:cm147_1.Good Pg E147_1 sh147:=(emb_good ac147)
theorem em147_1:cm147_1.erase=ac147:=(emb_erase _)
theorem fm147_1g (a:Tf121_0)(α:Type)(k:RT α):Fn147_1 (f147_1g a) α k=pa147_1.unc fun ds=>fnM Pg (E147_1g a) sh147 (cm147_1g ) rs147 k ds:=by kernel_rfl
theorem fm147_1:∀ (α:Type) (k:RT α),Fn147_1 f147_1 α k=pa147_1.unc fun ds=>fnM Pg E147_1 sh147 cm147_1 rs147 k ds:=fm147_1g f121_0
theorem io147_1:InstOk Pg 147 nt147 ⟨pa147_1,Fn147_1 f147_1⟩:=inst_ok eo147_1 followsTry is147 ⟨⟨sh147,cm147_1,em147_1,gm147_1,fm147_1⟩⟩
def pr147_2_0:PT (List RV):=pRs [pR true [rD (dI .i64),rD (dI .i64),rD (dI .i64)],wI]
def ur147_2_0 {β:Type}(g:List RV->β):I4 β:=pr147_2_0.unc g
def E147_2g (a:Tf129_0):EnvK:=EnvK.of [⟨129,nt129,[⟨pa129_0,Fn129_0 a⟩]⟩] noSeq
def E147_2:EnvK:=E147_2g f129_0
theorem eo147_2:E147_2.Ok Pg:=EnvK.of_ok noSeq_ok ⟨⟨io129_0,TT⟩,TT⟩
abbrev Tf147_2:Type 1:=(α:Type)->Int->Int->Int->Int->Int->Int->(Int->Int->Int->Op α)->Op α
def f147_2g (a:Tf129_0)(α:Type)(b c d e g h:Int)(k1:Int->Int->Int->Op α):Op α:=
 a α e g h b c d
 (fun i j l=>k1 i j l)
def f147_2 (α:Type)(a b c d e g:Int)(k1:Int->Int->Int->Op α):Op α:=f147_2g f129_0 α a b c d e g k1
def pa147_2:PT (List DV):=pA [pV true [(dI .i64),(dI .i64),(dI .i64)],pV false [(dP [(dFn 129 [])] 0)],pV false [(dP [(dI .i64),(dI .i64),(dI .i64)] 0)]]
def Fn147_2 (v:Tf147_2)(α:Type)(k:RT α):I6 (Op α):=fun a b c d e g=>v α a b c d e g (fun h i j=>ur147_2_0 k h i j 0)
def cm147_2g:MCode:=(emb ac147)
def cm147_2:MCode:=cm147_2g
theorem gm147_2:cm147_2.Good Pg E147_2 sh147:=(emb_good ac147)
theorem em147_2:cm147_2.erase=ac147:=(emb_erase _)
theorem fm147_2g (a:Tf129_0)(α:Type)(k:RT α):Fn147_2 (f147_2g a) α k=pa147_2.unc fun ds=>fnM Pg (E147_2g a) sh147 (cm147_2g ) rs147 k ds:=by kernel_rfl
theorem fm147_2:∀ (α:Type) (k:RT α),Fn147_2 f147_2 α k=pa147_2.unc fun ds=>fnM Pg E147_2 sh147 cm147_2 rs147 k ds:=fm147_2g f129_0
theorem io147_2:InstOk Pg 147 nt147 ⟨pa147_2,Fn147_2 f147_2⟩:=inst_ok eo147_2 followsTry is147 ⟨⟨sh147,cm147_2,em147_2,gm147_2,fm147_2⟩⟩
def pr147_3_0:PT (List RV):=pRs [pR true [rD (dI .i64),rD (dI .i64),rD (dI .i64)],wI]
def ur147_3_0 {β:Type}(g:List RV->β):I4 β:=pr147_3_0.unc g
def E147_3g (a:Tf125_0):EnvK:=EnvK.of [⟨125,nt125,[⟨pa125_0,Fn125_0 a⟩]⟩] noSeq
def E147_3:EnvK:=E147_3g f125_0
theorem eo147_3:E147_3.Ok Pg:=EnvK.of_ok noSeq_ok ⟨⟨io125_0,TT⟩,TT⟩
abbrev Tf147_3:Type 1:=(α:Type)->Int->Int->Int->Int->Int->Int->(I4 (Op α))->Op α
def f147_3g (a:Tf125_0)(α:Type)(b c d e g h:Int)(k1:I4 (Op α)):Op α:=
 a α e g h b c d
 (fun i j l m=>k1 i j l m)
def f147_3 (α:Type)(a b c d e g:Int)(k1:I4 (Op α)):Op α:=f147_3g f125_0 α a b c d e g k1
def pa147_3:PT (List DV):=pA [pV true [(dI .i64),(dI .i64),(dI .i64)],pV false [(dP [(dFn 125 [])] 0)],pV false [(dP [(dI .i64),(dI .i64),(dI .i64)] 0)]]
def Fn147_3 (v:Tf147_3)(α:Type)(k:RT α):I6 (Op α):=fun a b c d e g=>v α a b c d e g (fun h i j l=>ur147_3_0 k h i j l)
def cm147_3g:MCode:=(emb ac147)
def cm147_3:MCode:=cm147_3g
theorem gm147_3:cm147_3.Good Pg E147_3 sh147:=(emb_good ac147)
theorem em147_3:cm147_3.erase=ac147:=(emb_erase _)
theorem fm147_3g (a:Tf125_0)(α:Type)(k:RT α):Fn147_3 (f147_3g a) α k=pa147_3.unc fun ds=>fnM Pg (E147_3g a) sh147 (cm147_3g ) rs147 k ds:=by kernel_rfl
theorem fm147_3:∀ (α:Type) (k:RT α),Fn147_3 f147_3 α k=pa147_3.unc fun ds=>fnM Pg E147_3 sh147 cm147_3 rs147 k ds:=fm147_3g f125_0
theorem io147_3:InstOk Pg 147 nt147 ⟨pa147_3,Fn147_3 f147_3⟩:=inst_ok eo147_3 followsTry is147 ⟨⟨sh147,cm147_3,em147_3,gm147_3,fm147_3⟩⟩
abbrev nt59:Nat:=28
def sh59:SG:=[(8,[.cpx .f64,.int .i64]),(20,iT),(25,iT)]
def tr59:TG:=[tT 0 [1,2],tT 1 [2,4,5],tT 2 [2,4,5,13],tT 3 [2,3],tT 4 [2,4,6],tT 5 [2,3]]
def tl59:TG:=[]
def ac59:ACode:=codeF Pg Tryz.f59 tr59 tl59
def rs59:List AResV:=resF Pg Tryz.f59
def pr59_0_0:PT (List RV):=pRs [pR true [rD (dI .i64),rD (dI .i64),rD (dI .i64),rD (dI .i64)],wI]
def ur59_0_0 {β:Type}(g:List RV->β):I5 β:=pr59_0_0.unc g
def E59_0g (a:Tf66_0)(b:Tf95_0):EnvK:=EnvK.of [⟨66,nt66,[⟨pa66_0,Fn66_0 a⟩]⟩,⟨95,nt95,[⟨pa95_0,Fn95_0 b⟩]⟩] noSeq
def E59_0:EnvK:=E59_0g f66_0 f95_0
theorem eo59_0:E59_0.Ok Pg:=EnvK.of_ok noSeq_ok ⟨⟨io66_0,TT⟩,⟨io95_0,TT⟩,TT⟩
abbrev Tf59_0:Type 1:=(α:Type)->Nat->Nat->Int->(I5 (Op α))->Op α
def f59_0g (d:Tf66_0)(b:Tf95_0)(α:Type)(e g:Nat)(a:Int)(k1:I5 (Op α)):Op α:=
 d α e g a
 (fun h i c=>cK (c != 0)
 (k1 0 0 0 0 c)
 (b α h a
 (fun j l=>b α i a
 (fun m o=>k1 j l m o 0))))
def f59_0 (α:Type)(a b:Nat)(c:Int)(k1:I5 (Op α)):Op α:=f59_0g f66_0 f95_0 α a b c k1
def pa59_0:PT (List DV):=pA [pV true [(dX .f64),(dI .i64)]]
def Fn59_0 (v:Tf59_0)(α:Type)(k:RT α):Nat->Nat->Int->Op α:=fun a b c=>v α a b c (fun d e g h i=>ur59_0_0 k d e g h i)
def cm59_0g:MCode:=(emb ac59)
def cm59_0:MCode:=cm59_0g
theorem gm59_0:cm59_0.Good Pg E59_0 sh59:=(emb_good ac59)
theorem em59_0:cm59_0.erase=ac59:=(emb_erase _)
theorem fm59_0g (a:Tf66_0)(b:Tf95_0)(α:Type)(k:RT α):Fn59_0 (f59_0g a b) α k=pa59_0.unc fun ds=>fnM Pg (E59_0g a b) sh59 (cm59_0g ) rs59 k ds:=by kernel_rfl
theorem fm59_0:∀ (α:Type) (k:RT α),Fn59_0 f59_0 α k=pa59_0.unc fun ds=>fnM Pg E59_0 sh59 cm59_0 rs59 k ds:=fm59_0g f66_0 f95_0
theorem is59:FnIs Pg 59 nt59 tr59 tl59 ac59 rs59:=codeF_is Tryz.func59 (by kernel_rfl)
theorem io59_0:InstOk Pg 59 nt59 ⟨pa59_0,Fn59_0 f59_0⟩:=inst_ok eo59_0 followsTry is59 ⟨⟨sh59,cm59_0,em59_0,gm59_0,fm59_0⟩⟩
abbrev nt19:Nat:=32
def sh19:SG:=[(9,[.sl,.sl,.int .i64,.int .i64]),(19,[.sl]),(25,[.sl,.sl,.int .i64,.int .i64]),(27,[.sl]),(29,iS 9),(30,iS 9)]
def tr19:TG:=[(0,⟨[1,2,4],true,[⟨true,4,0,30400,9⟩,⟨true,4,1,30401,5⟩],[]⟩),(1,⟨[1,2,4,7],true,[⟨true,4,0,30400,9⟩,⟨true,4,1,30401,5⟩],[]⟩),(2,⟨[1,2,4,7,14],true,[⟨true,4,0,30400,9⟩,⟨true,4,1,30401,5⟩],[]⟩),(3,⟨[4,5],true,[⟨true,4,0,30400,9⟩,⟨true,4,1,30401,5⟩],[]⟩),(4,⟨[1,2,4,23],true,[⟨true,4,0,30400,9⟩,⟨true,4,1,30401,5⟩],[]⟩),(5,⟨[4,5],true,[⟨true,4,0,30400,9⟩,⟨true,4,1,30401,5⟩],[]⟩),(6,⟨[4,5],true,[⟨true,4,0,30400,9⟩,⟨true,4,1,30401,5⟩],[]⟩)]
def tl19:TG:=[]
def ac19:ACode:=codeF Pg Tryz.f19 tr19 tl19
def rs19:List AResV:=resF Pg Tryz.f19
def pr19_0_0:PT (List RV):=pRs [pR true [rO 9,rO 5,rD (dI .i64),rD (dI .i64),rD (dI .i64),rD (dI .i64),rD (dI .i64),rD (dI .i64),rD (dI .i64),rD (dI .i64),rD (dI .i64),rD (dI .i64),rD (dI .i64)],wI]
def ur19_0_0 {β:Type}(g:List RV->β):Rows->Rows->I12 β:=pr19_0_0.unc g
def pr19_0_1:PT (List RV):=pRs [pR true [rD dL,rD dL,rD (dI .i64),rD (dI .i64),rD (dI .i64),rD (dI .i64),rD (dI .i64),rD (dI .i64),rD (dI .i64),rD (dI .i64),rD (dI .i64),rD (dI .i64),rD (dI .i64)],wI]
def ur19_0_1 {β:Type}(g:List RV->β):Rows->Rows->I12 β:=pr19_0_1.unc g
def E19_0g (a:Tf39_0)(b:Tf20_0):EnvK:=EnvK.of [⟨39,nt39,[⟨pa39_0,Fn39_0 a⟩]⟩,⟨20,nt20,[⟨pa20_0,Fn20_0 b⟩]⟩] noSeq
def E19_0:EnvK:=E19_0g f39_0 f20_0
theorem eo19_0:E19_0.Ok Pg:=EnvK.of_ok noSeq_ok ⟨⟨io39_0,TT⟩,⟨io20_0,TT⟩,TT⟩
abbrev Tf19_0:Type 1:=(α:Type)->Rows->Rows->Int->Int->Int->(Int->Op α)->(I9 (Op α))->Op α
def f19_0g (d:Tf20_0)(e:Tf39_0)(α:Type)(a g:Rows)(h i b:Int)(k1:Int->Op α)(k2:I9 (Op α)):Op α:=
 e α a g h i
 (fun z c=>cK (c != 0)
 (k1 c)
 (d α b 0 (w64 (((List.length a:Nat):Int) - 1))
 (fun j=>cK (!j)
 (k1 6)
 (rowK a b [.int .i64,.int .i64,.int .i64,.int .i64,.int .i64,.int .i64,.int .i64,.int .i64,.int .i64]
 (fun l m o p q r s t w=>k2 l m o p q r s t w)))))
def f19_0 (α:Type)(a b:Rows)(c d e:Int)(k1:Int->Op α)(k2:I9 (Op α)):Op α:=f19_0g f20_0 f39_0 α a b c d e k1 k2
def pa19_0:PT (List DV):=pA [pV true [dL,dL,(dI .i64),(dI .i64)],vI]
def Fn19_0 (v:Tf19_0)(α:Type)(k:RT α):Rows->Rows->Int->Int->Int->Op α:=fun b c d e g=>v α b c d e g (fun a=>ur19_0_0 k ([]:Rows) ([]:Rows) 0 0 0 0 0 0 0 0 0 0 0 a) (fun a h i j l m o p q=>ur19_0_1 k b c d e a h i j l m o p q 0)
def cm19_0g:MCode:=(emb ac19)
def cm19_0:MCode:=cm19_0g
theorem gm19_0:cm19_0.Good Pg E19_0 sh19:=(emb_good ac19)
theorem em19_0:cm19_0.erase=ac19:=(emb_erase _)
theorem fm19_0g (a:Tf39_0)(b:Tf20_0)(α:Type)(k:RT α):Fn19_0 (f19_0g b a) α k=pa19_0.unc fun ds=>fnM Pg (E19_0g a b) sh19 (cm19_0g ) rs19 k ds:=by kernel_rfl
theorem fm19_0:∀ (α:Type) (k:RT α),Fn19_0 f19_0 α k=pa19_0.unc fun ds=>fnM Pg E19_0 sh19 cm19_0 rs19 k ds:=fm19_0g f39_0 f20_0
theorem is19:FnIs Pg 19 nt19 tr19 tl19 ac19 rs19:=codeF_is Tryz.func19 (by kernel_rfl)
theorem io19_0:InstOk Pg 19 nt19 ⟨pa19_0,Fn19_0 f19_0⟩:=inst_ok eo19_0 followsTry is19 ⟨⟨sh19,cm19_0,em19_0,gm19_0,fm19_0⟩⟩
abbrev nt116:Nat:=18
def sh116:SG:=[(5,iS 2),(12,iT),(14,iT)]
def tr116:TG:=[tT 0 [1,2],tT 1 [1,2,4],tT 2 [1,2,4,8],tT 3 [2,3],tT 4 [2,3]]
def tl116:TG:=[]
def ac116:ACode:=codeF Pg Tryz.f116 tr116 tl116
def rs116:List AResV:=resF Pg Tryz.f116
def pr116_0_0:PT (List RV):=pRs [pR true [rD (dX .f64),rD (dI .i64)],wI]
def ur116_0_0 {β:Type}(g:List RV->β):Nat->Nat->Int->Int->β:=pr116_0_0.unc g
def E116_0g (a:Tf143_0)(b:Tf144_0):EnvK:=EnvK.of [⟨143,nt143,[⟨pa143_0,Fn143_0 a⟩]⟩,⟨144,nt144,[⟨pa144_0,Fn144_0 b⟩]⟩] noSeq
def E116_0:EnvK:=E116_0g f143_0 f144_0
theorem eo116_0:E116_0.Ok Pg:=EnvK.of_ok noSeq_ok ⟨⟨io143_0,TT⟩,⟨io144_0,TT⟩,TT⟩
abbrev Tf116_0:Type 1:=(α:Type)->Int->Int->(Nat->Nat->Int->Int->Op α)->Op α
def f116_0g (d:Tf143_0)(e:Tf144_0)(α:Type)(a b:Int)(k1:Nat->Nat->Int->Int->Op α):Op α:=
 d α a b (-1099511627776)
 (fun c=>cK (c != 0)
 (k1 0 0 0 c)
 (e α a b
 (fun g h i j=>k1 g h i j)))
def f116_0 (α:Type)(a b:Int)(k1:Nat->Nat->Int->Int->Op α):Op α:=f116_0g f143_0 f144_0 α a b k1
def pa116_0:PT (List DV):=pA [pV true [(dI .i64),(dI .i64)]]
def Fn116_0 (v:Tf116_0)(α:Type)(k:RT α):Int->Int->Op α:=fun a b=>v α a b (fun c d e g=>ur116_0_0 k c d e g)
def cm116_0g:MCode:=(emb ac116)
def cm116_0:MCode:=cm116_0g
theorem gm116_0:cm116_0.Good Pg E116_0 sh116:=(emb_good ac116)
theorem em116_0:cm116_0.erase=ac116:=(emb_erase _)
theorem fm116_0g (a:Tf143_0)(b:Tf144_0)(α:Type)(k:RT α):Fn116_0 (f116_0g a b) α k=pa116_0.unc fun ds=>fnM Pg (E116_0g a b) sh116 (cm116_0g ) rs116 k ds:=by kernel_rfl
theorem fm116_0:∀ (α:Type) (k:RT α),Fn116_0 f116_0 α k=pa116_0.unc fun ds=>fnM Pg E116_0 sh116 cm116_0 rs116 k ds:=fm116_0g f143_0 f144_0
theorem is116:FnIs Pg 116 nt116 tr116 tl116 ac116 rs116:=codeF_is Tryz.func116 (by kernel_rfl)
theorem io116_0:InstOk Pg 116 nt116 ⟨pa116_0,Fn116_0 f116_0⟩:=inst_ok eo116_0 followsTry is116 ⟨⟨sh116,cm116_0,em116_0,gm116_0,fm116_0⟩⟩
abbrev nt99:Nat:=31
def sh99:SG:=[(9,[.cpx .f64,.int .i64]),(19,iS 3),(27,iS 3)]
def tr99:TG:=[tT 0 [1,2,4],tT 1 [1,4,6,7],tT 2 [1,4,6,7,14],tT 3 [4,5],tT 4 [4,6,7],tT 5 [4,6,7,24],tT 6 [4,5],tT 7 [4,5]]
def tl99:TG:=[]
def ac99:ACode:=codeF Pg Tryz.f99 tr99 tl99
def rs99:List AResV:=resF Pg Tryz.f99
def pr99_0_0:PT (List RV):=pRs [pR true [rD (dX .f64),rD (dI .i64)],wI]
def ur99_0_0 {β:Type}(g:List RV->β):Nat->Nat->Int->Int->β:=pr99_0_0.unc g
def E99_0g (a:Tf66_0)(b:Tf132_0)(c:Tf134_0):EnvK:=EnvK.of [⟨66,nt66,[⟨pa66_0,Fn66_0 a⟩]⟩,⟨132,nt132,[⟨pa132_0,Fn132_0 b⟩]⟩,⟨134,nt134,[⟨pa134_0,Fn134_0 c⟩]⟩] noSeq
def E99_0:EnvK:=E99_0g f66_0 f132_0 f134_0
theorem eo99_0:E99_0.Ok Pg:=EnvK.of_ok noSeq_ok ⟨⟨io66_0,TT⟩,⟨io132_0,TT⟩,⟨io134_0,TT⟩,TT⟩
abbrev Tf99_0:Type 1:=(α:Type)->Nat->Nat->Int->Int->(Nat->Nat->Int->Int->Op α)->Op α
def f99_0g (d:Tf132_0)(e:Tf134_0)(g:Tf66_0)(α:Type)(h i:Nat)(a j:Int)(k1:Nat->Nat->Int->Int->Op α):Op α:=
 g α h i a
 (fun l m b=>cK (b != 0)
 (k1 0 0 0 b)
 (d α l m j
 (fun o p c=>cK (c != 0)
 (k1 0 0 0 c)
 (e α o p a
 (fun q r s t=>k1 q r s t)))))
def f99_0 (α:Type)(a b:Nat)(c d:Int)(k1:Nat->Nat->Int->Int->Op α):Op α:=f99_0g f132_0 f134_0 f66_0 α a b c d k1
def pa99_0:PT (List DV):=pA [pV true [(dX .f64),(dI .i64)],pV false [(dFn 132 [(dP [(dI .i64)] 0)])]]
def Fn99_0 (v:Tf99_0)(α:Type)(k:RT α):Nat->Nat->Int->Int->Op α:=fun a b c d=>v α a b c d (fun e g h i=>ur99_0_0 k e g h i)
def cm99_0g:MCode:=(emb ac99)
def cm99_0:MCode:=cm99_0g
theorem gm99_0:cm99_0.Good Pg E99_0 sh99:=(emb_good ac99)
theorem em99_0:cm99_0.erase=ac99:=(emb_erase _)
theorem fm99_0g (a:Tf66_0)(b:Tf132_0)(c:Tf134_0)(α:Type)(k:RT α):Fn99_0 (f99_0g b c a) α k=pa99_0.unc fun ds=>fnM Pg (E99_0g a b c) sh99 (cm99_0g ) rs99 k ds:=by kernel_rfl
theorem fm99_0:∀ (α:Type) (k:RT α),Fn99_0 f99_0 α k=pa99_0.unc fun ds=>fnM Pg E99_0 sh99 cm99_0 rs99 k ds:=fm99_0g f66_0 f132_0 f134_0
theorem is99:FnIs Pg 99 nt99 tr99 tl99 ac99 rs99:=codeF_is Tryz.func99 (by kernel_rfl)
theorem io99_0:InstOk Pg 99 nt99 ⟨pa99_0,Fn99_0 f99_0⟩:=inst_ok eo99_0 followsTry is99 ⟨⟨sh99,cm99_0,em99_0,gm99_0,fm99_0⟩⟩
def pr99_1_0:PT (List RV):=pRs [pR true [rD (dX .f64),rD (dI .i64)],wI]
def ur99_1_0 {β:Type}(g:List RV->β):Nat->Nat->Int->Int->β:=pr99_1_0.unc g
def E99_1g (a:Tf66_0)(b:Tf147_0)(c:Tf134_0):EnvK:=EnvK.of [⟨66,nt66,[⟨pa66_0,Fn66_0 a⟩]⟩,⟨147,nt147,[⟨pa147_0,Fn147_0 b⟩]⟩,⟨134,nt134,[⟨pa134_0,Fn134_0 c⟩]⟩] noSeq
def E99_1:EnvK:=E99_1g f66_0 f147_0 f134_0
theorem eo99_1:E99_1.Ok Pg:=EnvK.of_ok noSeq_ok ⟨⟨io66_0,TT⟩,⟨io147_0,TT⟩,⟨io134_0,TT⟩,TT⟩
abbrev Tf99_1:Type 1:=(α:Type)->Nat->Nat->Int->Int->Int->Int->(Nat->Nat->Int->Int->Op α)->Op α
def f99_1g (c:Tf134_0)(d:Tf147_0)(e:Tf66_0)(α:Type)(g h:Nat)(a i j l:Int)(k1:Nat->Nat->Int->Int->Op α):Op α:=
 e α g h a
 (fun m o b=>cK (b != 0)
 (k1 0 0 0 b)
 (d α m o a i j l
 (fun p q r=>c α p q r
 (fun s t w z=>k1 s t w z))))
def f99_1 (α:Type)(a b:Nat)(c d e g:Int)(k1:Nat->Nat->Int->Int->Op α):Op α:=f99_1g f134_0 f147_0 f66_0 α a b c d e g k1
def pa99_1:PT (List DV):=pA [pV true [(dX .f64),(dI .i64)],pV false [(dFn 147 [(dP [(dFn 119 [])] 0),(dP [(dI .i64),(dI .i64),(dI .i64)] 0)])]]
def Fn99_1 (v:Tf99_1)(α:Type)(k:RT α):Nat->Nat->I4 (Op α):=fun a b c d e g=>v α a b c d e g (fun h i j l=>ur99_1_0 k h i j l)
def cm99_1g:MCode:=(emb ac99)
def cm99_1:MCode:=cm99_1g
theorem gm99_1:cm99_1.Good Pg E99_1 sh99:=(emb_good ac99)
theorem em99_1:cm99_1.erase=ac99:=(emb_erase _)
theorem fm99_1g (a:Tf66_0)(b:Tf147_0)(c:Tf134_0)(α:Type)(k:RT α):Fn99_1 (f99_1g c b a) α k=pa99_1.unc fun ds=>fnM Pg (E99_1g a b c) sh99 (cm99_1g ) rs99 k ds:=by kernel_rfl
theorem fm99_1:∀ (α:Type) (k:RT α),Fn99_1 f99_1 α k=pa99_1.unc fun ds=>fnM Pg E99_1 sh99 cm99_1 rs99 k ds:=fm99_1g f66_0 f147_0 f134_0
theorem io99_1:InstOk Pg 99 nt99 ⟨pa99_1,Fn99_1 f99_1⟩:=inst_ok eo99_1 followsTry is99 ⟨⟨sh99,cm99_1,em99_1,gm99_1,fm99_1⟩⟩
def pr99_2_0:PT (List RV):=pRs [pR true [rD (dX .f64),rD (dI .i64)],wI]
def ur99_2_0 {β:Type}(g:List RV->β):Nat->Nat->Int->Int->β:=pr99_2_0.unc g
def E99_2g (a:Tf66_0)(b:Tf147_1)(c:Tf134_0):EnvK:=EnvK.of [⟨66,nt66,[⟨pa66_0,Fn66_0 a⟩]⟩,⟨147,nt147,[⟨pa147_1,Fn147_1 b⟩]⟩,⟨134,nt134,[⟨pa134_0,Fn134_0 c⟩]⟩] noSeq
def E99_2:EnvK:=E99_2g f66_0 f147_1 f134_0
theorem eo99_2:E99_2.Ok Pg:=EnvK.of_ok noSeq_ok ⟨⟨io66_0,TT⟩,⟨io147_1,TT⟩,⟨io134_0,TT⟩,TT⟩
abbrev Tf99_2:Type 1:=(α:Type)->Nat->Nat->Int->Int->Int->Int->(Nat->Nat->Int->Int->Op α)->Op α
def f99_2g (c:Tf134_0)(d:Tf147_1)(e:Tf66_0)(α:Type)(g h:Nat)(a i j l:Int)(k1:Nat->Nat->Int->Int->Op α):Op α:=
 e α g h a
 (fun m o b=>cK (b != 0)
 (k1 0 0 0 b)
 (d α m o a i j l
 (fun p q r=>c α p q r
 (fun s t w z=>k1 s t w z))))
def f99_2 (α:Type)(a b:Nat)(c d e g:Int)(k1:Nat->Nat->Int->Int->Op α):Op α:=f99_2g f134_0 f147_1 f66_0 α a b c d e g k1
def pa99_2:PT (List DV):=pA [pV true [(dX .f64),(dI .i64)],pV false [(dFn 147 [(dP [(dFn 121 [])] 0),(dP [(dI .i64),(dI .i64),(dI .i64)] 0)])]]
def Fn99_2 (v:Tf99_2)(α:Type)(k:RT α):Nat->Nat->I4 (Op α):=fun a b c d e g=>v α a b c d e g (fun h i j l=>ur99_2_0 k h i j l)
def cm99_2g:MCode:=(emb ac99)
def cm99_2:MCode:=cm99_2g
theorem gm99_2:cm99_2.Good Pg E99_2 sh99:=(emb_good ac99)
theorem em99_2:cm99_2.erase=ac99:=(emb_erase _)
theorem fm99_2g (a:Tf66_0)(b:Tf147_1)(c:Tf134_0)(α:Type)(k:RT α):Fn99_2 (f99_2g c b a) α k=pa99_2.unc fun ds=>fnM Pg (E99_2g a b c) sh99 (cm99_2g ) rs99 k ds:=by kernel_rfl
theorem fm99_2:∀ (α:Type) (k:RT α),Fn99_2 f99_2 α k=pa99_2.unc fun ds=>fnM Pg E99_2 sh99 cm99_2 rs99 k ds:=fm99_2g f66_0 f147_1 f134_0
theorem io99_2:InstOk Pg 99 nt99 ⟨pa99_2,Fn99_2 f99_2⟩:=inst_ok eo99_2 followsTry is99 ⟨⟨sh99,cm99_2,em99_2,gm99_2,fm99_2⟩⟩
def pr99_3_0:PT (List RV):=pRs [pR true [rD (dX .f64),rD (dI .i64)],wI]
def ur99_3_0 {β:Type}(g:List RV->β):Nat->Nat->Int->Int->β:=pr99_3_0.unc g
def E99_3g (a:Tf66_0)(b:Tf147_2)(c:Tf134_0):EnvK:=EnvK.of [⟨66,nt66,[⟨pa66_0,Fn66_0 a⟩]⟩,⟨147,nt147,[⟨pa147_2,Fn147_2 b⟩]⟩,⟨134,nt134,[⟨pa134_0,Fn134_0 c⟩]⟩] noSeq
def E99_3:EnvK:=E99_3g f66_0 f147_2 f134_0
theorem eo99_3:E99_3.Ok Pg:=EnvK.of_ok noSeq_ok ⟨⟨io66_0,TT⟩,⟨io147_2,TT⟩,⟨io134_0,TT⟩,TT⟩
abbrev Tf99_3:Type 1:=(α:Type)->Nat->Nat->Int->Int->Int->Int->(Nat->Nat->Int->Int->Op α)->Op α
def f99_3g (c:Tf134_0)(d:Tf147_2)(e:Tf66_0)(α:Type)(g h:Nat)(a i j l:Int)(k1:Nat->Nat->Int->Int->Op α):Op α:=
 e α g h a
 (fun m o b=>cK (b != 0)
 (k1 0 0 0 b)
 (d α m o a i j l
 (fun p q r=>c α p q r
 (fun s t w z=>k1 s t w z))))
def f99_3 (α:Type)(a b:Nat)(c d e g:Int)(k1:Nat->Nat->Int->Int->Op α):Op α:=f99_3g f134_0 f147_2 f66_0 α a b c d e g k1
def pa99_3:PT (List DV):=pA [pV true [(dX .f64),(dI .i64)],pV false [(dFn 147 [(dP [(dFn 129 [])] 0),(dP [(dI .i64),(dI .i64),(dI .i64)] 0)])]]
def Fn99_3 (v:Tf99_3)(α:Type)(k:RT α):Nat->Nat->I4 (Op α):=fun a b c d e g=>v α a b c d e g (fun h i j l=>ur99_3_0 k h i j l)
def cm99_3g:MCode:=(emb ac99)
def cm99_3:MCode:=cm99_3g
theorem gm99_3:cm99_3.Good Pg E99_3 sh99:=(emb_good ac99)
theorem em99_3:cm99_3.erase=ac99:=(emb_erase _)
theorem fm99_3g (a:Tf66_0)(b:Tf147_2)(c:Tf134_0)(α:Type)(k:RT α):Fn99_3 (f99_3g c b a) α k=pa99_3.unc fun ds=>fnM Pg (E99_3g a b c) sh99 (cm99_3g ) rs99 k ds:=by kernel_rfl
theorem fm99_3:∀ (α:Type) (k:RT α),Fn99_3 f99_3 α k=pa99_3.unc fun ds=>fnM Pg E99_3 sh99 cm99_3 rs99 k ds:=fm99_3g f66_0 f147_2 f134_0
theorem io99_3:InstOk Pg 99 nt99 ⟨pa99_3,Fn99_3 f99_3⟩:=inst_ok eo99_3 followsTry is99 ⟨⟨sh99,cm99_3,em99_3,gm99_3,fm99_3⟩⟩
def pr99_4_0:PT (List RV):=pRs [pR true [rD (dX .f64),rD (dI .i64)],wI]
def ur99_4_0 {β:Type}(g:List RV->β):Nat->Nat->Int->Int->β:=pr99_4_0.unc g
def E99_4g (a:Tf66_0)(b:Tf100_0)(c:Tf134_0):EnvK:=EnvK.of [⟨66,nt66,[⟨pa66_0,Fn66_0 a⟩]⟩,⟨100,nt100,[⟨pa100_0,Fn100_0 b⟩]⟩,⟨134,nt134,[⟨pa134_0,Fn134_0 c⟩]⟩] noSeq
def E99_4:EnvK:=E99_4g f66_0 f100_0 f134_0
theorem eo99_4:E99_4.Ok Pg:=EnvK.of_ok noSeq_ok ⟨⟨io66_0,TT⟩,⟨io100_0,TT⟩,⟨io134_0,TT⟩,TT⟩
abbrev Tf99_4:Type 1:=(α:Type)->Nat->Nat->Int->(Nat->Nat->Int->Int->Op α)->Op α
def f99_4g (d:Tf100_0)(e:Tf134_0)(g:Tf66_0)(α:Type)(h i:Nat)(a:Int)(k1:Nat->Nat->Int->Int->Op α):Op α:=
 g α h i a
 (fun j l b=>cK (b != 0)
 (k1 0 0 0 b)
 (d α j l a
 (fun m o p c=>cK (c != 0)
 (k1 0 0 0 c)
 (e α m o p
 (fun q r s t=>k1 q r s t)))))
def f99_4 (α:Type)(a b:Nat)(c:Int)(k1:Nat->Nat->Int->Int->Op α):Op α:=f99_4g f100_0 f134_0 f66_0 α a b c k1
def pa99_4:PT (List DV):=pA [pV true [(dX .f64),(dI .i64)],pV false [(dFn 100 [])]]
def Fn99_4 (v:Tf99_4)(α:Type)(k:RT α):Nat->Nat->Int->Op α:=fun a b c=>v α a b c (fun d e g h=>ur99_4_0 k d e g h)
def cm99_4g:MCode:=(emb ac99)
def cm99_4:MCode:=cm99_4g
theorem gm99_4:cm99_4.Good Pg E99_4 sh99:=(emb_good ac99)
theorem em99_4:cm99_4.erase=ac99:=(emb_erase _)
theorem fm99_4g (a:Tf66_0)(b:Tf100_0)(c:Tf134_0)(α:Type)(k:RT α):Fn99_4 (f99_4g b c a) α k=pa99_4.unc fun ds=>fnM Pg (E99_4g a b c) sh99 (cm99_4g ) rs99 k ds:=by kernel_rfl
theorem fm99_4:∀ (α:Type) (k:RT α),Fn99_4 f99_4 α k=pa99_4.unc fun ds=>fnM Pg E99_4 sh99 cm99_4 rs99 k ds:=fm99_4g f66_0 f100_0 f134_0
theorem io99_4:InstOk Pg 99 nt99 ⟨pa99_4,Fn99_4 f99_4⟩:=inst_ok eo99_4 followsTry is99 ⟨⟨sh99,cm99_4,em99_4,gm99_4,fm99_4⟩⟩
def pr99_5_0:PT (List RV):=pRs [pR true [rD (dX .f64),rD (dI .i64)],wI]
def ur99_5_0 {β:Type}(g:List RV->β):Nat->Nat->Int->Int->β:=pr99_5_0.unc g
def E99_5g (a:Tf66_0)(b:Tf147_3)(c:Tf134_0):EnvK:=EnvK.of [⟨66,nt66,[⟨pa66_0,Fn66_0 a⟩]⟩,⟨147,nt147,[⟨pa147_3,Fn147_3 b⟩]⟩,⟨134,nt134,[⟨pa134_0,Fn134_0 c⟩]⟩] noSeq
def E99_5:EnvK:=E99_5g f66_0 f147_3 f134_0
theorem eo99_5:E99_5.Ok Pg:=EnvK.of_ok noSeq_ok ⟨⟨io66_0,TT⟩,⟨io147_3,TT⟩,⟨io134_0,TT⟩,TT⟩
abbrev Tf99_5:Type 1:=(α:Type)->Nat->Nat->Int->Int->Int->Int->(Nat->Nat->Int->Int->Op α)->Op α
def f99_5g (d:Tf134_0)(e:Tf147_3)(g:Tf66_0)(α:Type)(h i:Nat)(a j l m:Int)(k1:Nat->Nat->Int->Int->Op α):Op α:=
 g α h i a
 (fun o p b=>cK (b != 0)
 (k1 0 0 0 b)
 (e α o p a j l m
 (fun q r s c=>cK (c != 0)
 (k1 0 0 0 c)
 (d α q r s
 (fun t w z A=>k1 t w z A)))))
def f99_5 (α:Type)(a b:Nat)(c d e g:Int)(k1:Nat->Nat->Int->Int->Op α):Op α:=f99_5g f134_0 f147_3 f66_0 α a b c d e g k1
def pa99_5:PT (List DV):=pA [pV true [(dX .f64),(dI .i64)],pV false [(dFn 147 [(dP [(dFn 125 [])] 0),(dP [(dI .i64),(dI .i64),(dI .i64)] 0)])]]
def Fn99_5 (v:Tf99_5)(α:Type)(k:RT α):Nat->Nat->I4 (Op α):=fun a b c d e g=>v α a b c d e g (fun h i j l=>ur99_5_0 k h i j l)
def cm99_5g:MCode:=(emb ac99)
def cm99_5:MCode:=cm99_5g
theorem gm99_5:cm99_5.Good Pg E99_5 sh99:=(emb_good ac99)
theorem em99_5:cm99_5.erase=ac99:=(emb_erase _)
theorem fm99_5g (a:Tf66_0)(b:Tf147_3)(c:Tf134_0)(α:Type)(k:RT α):Fn99_5 (f99_5g c b a) α k=pa99_5.unc fun ds=>fnM Pg (E99_5g a b c) sh99 (cm99_5g ) rs99 k ds:=by kernel_rfl
theorem fm99_5:∀ (α:Type) (k:RT α),Fn99_5 f99_5 α k=pa99_5.unc fun ds=>fnM Pg E99_5 sh99 cm99_5 rs99 k ds:=fm99_5g f66_0 f147_3 f134_0
theorem io99_5:InstOk Pg 99 nt99 ⟨pa99_5,Fn99_5 f99_5⟩:=inst_ok eo99_5 followsTry is99 ⟨⟨sh99,cm99_5,em99_5,gm99_5,fm99_5⟩⟩
abbrev nt28:Nat:=21
def sh28:SG:=[(9,iT),(14,[.cpx .f64,.int .i64]),(20,iS 4)]
def tr28:TG:=[tT 0 [0,3,4],tT 1 [0,3,4,10],tT 2 [0,4],tT 3 [0,3,4,5],tT 4 [0,4,5],tT 5 [0,4]]
def tl28:TG:=[]
def ac28:ACode:=codeF Pg Tryz.f28 tr28 tl28
def rs28:List AResV:=resF Pg Tryz.f28
def pr28_0_0:PT (List RV):=pRs [pR true [rD (dI .i64),rD (dI .i64),rD (dI .i64),rD (dI .i64)],pR true [rD (dI .i64),rD (dI .i64),rD (dI .i64),rD (dI .i64),rD (dI .i64),rD (dI .i64),rD (dI .i64),rD dL,rD (dI .i64),rD (dI .i64)]]
def ur28_0_0 {β:Type}(g:List RV->β):Int->Int->Int->Int->Int->Int->Int->Int->Int->Int->Int->Rows->Int->Int->β:=pr28_0_0.unc g
def E28_0g (a:Tf59_0):EnvK:=EnvK.of [⟨59,nt59,[⟨pa59_0,Fn59_0 a⟩]⟩] noSeq
def E28_0:EnvK:=E28_0g f59_0
theorem eo28_0:E28_0.Ok Pg:=EnvK.of_ok noSeq_ok ⟨⟨io59_0,TT⟩,TT⟩
abbrev Tf28_0:Type 1:=(α:Type)->Int->Nat->Nat->Int->(I5 (Op α))->Op α
def f28_0g (b:Tf59_0)(α:Type)(a:Int)(c d:Nat)(e:Int)(k1:I5 (Op α)):Op α:=
 cK (a != 0)
 (k1 0 0 0 0 a)
 (b α c d e
 (fun g h i j l=>k1 g h i j l))
def f28_0 (α:Type)(a:Int)(b c:Nat)(d:Int)(k1:I5 (Op α)):Op α:=f28_0g f59_0 α a b c d k1
def pa28_0:PT (List DV):=pA [pV false [(dMr [(dI .i64),(dI .i64),(dI .i64),(dI .i64),(dI .i64),(dI .i64),(dI .i64),dL,(dI .i64),(dI .i64)] 0)],pV true [(dX .f64),(dI .i64)]]
def Fn28_0 (v:Tf28_0)(α:Type)(k:RT α):Int->Int->Int->Int->Int->Int->Int->Rows->Int->Int->Nat->Nat->Int->Op α:=fun a b c d e g h i j l m o p=>v α a m o p (fun q r s t w=>ur28_0_0 k q r s t w b c d e g h i j l)
def cm28_0g:MCode:=(emb ac28)
def cm28_0:MCode:=cm28_0g
theorem gm28_0:cm28_0.Good Pg E28_0 sh28:=(emb_good ac28)
theorem em28_0:cm28_0.erase=ac28:=(emb_erase _)
theorem fm28_0g (a:Tf59_0)(α:Type)(k:RT α):Fn28_0 (f28_0g a) α k=pa28_0.unc fun ds=>fnM Pg (E28_0g a) sh28 (cm28_0g ) rs28 k ds:=by kernel_rfl
theorem fm28_0:∀ (α:Type) (k:RT α),Fn28_0 f28_0 α k=pa28_0.unc fun ds=>fnM Pg E28_0 sh28 cm28_0 rs28 k ds:=fm28_0g f59_0
theorem is28:FnIs Pg 28 nt28 tr28 tl28 ac28 rs28:=codeF_is Tryz.func28 (by kernel_rfl)
theorem io28_0:InstOk Pg 28 nt28 ⟨pa28_0,Fn28_0 f28_0⟩:=inst_ok eo28_0 followsTry is28 ⟨⟨sh28,cm28_0,em28_0,gm28_0,fm28_0⟩⟩
abbrev nt64:Nat:=8
def sh64:SG:=[(4,[.cpx .f64,.int .i64])]
def tr64:TG:=[tT 0 [1,2],tT 1 [2,3]]
def tl64:TG:=[]
def ac64:ACode:=codeF Pg Tryz.f64 tr64 tl64
def rs64:List AResV:=resF Pg Tryz.f64
def pr64_0_0:PT (List RV):=pRs [pR true [rD (dX .f64),rD (dI .i64)],wI]
def ur64_0_0 {β:Type}(g:List RV->β):Nat->Nat->Int->Int->β:=pr64_0_0.unc g
def E64_0g (a:Tf99_4):EnvK:=EnvK.of [⟨99,nt99,[⟨pa99_4,Fn99_4 a⟩]⟩] noSeq
def E64_0:EnvK:=E64_0g f99_4
theorem eo64_0:E64_0.Ok Pg:=EnvK.of_ok noSeq_ok ⟨⟨io99_4,TT⟩,TT⟩
abbrev Tf64_0:Type 1:=(α:Type)->Nat->Nat->Int->(Nat->Nat->Int->Int->Op α)->Op α
def f64_0g (a:Tf99_4)(α:Type)(b c:Nat)(d:Int)(k1:Nat->Nat->Int->Int->Op α):Op α:=
 a α b c d
 (fun e g h i=>k1 e g h i)
def f64_0 (α:Type)(a b:Nat)(c:Int)(k1:Nat->Nat->Int->Int->Op α):Op α:=f64_0g f99_4 α a b c k1
def pa64_0:PT (List DV):=pA [pV true [(dX .f64),(dI .i64)]]
def Fn64_0 (v:Tf64_0)(α:Type)(k:RT α):Nat->Nat->Int->Op α:=fun a b c=>v α a b c (fun d e g h=>ur64_0_0 k d e g h)
def cm64_0g:MCode:=(emb ac64)
def cm64_0:MCode:=cm64_0g
theorem gm64_0:cm64_0.Good Pg E64_0 sh64:=(emb_good ac64)
theorem em64_0:cm64_0.erase=ac64:=(emb_erase _)
theorem fm64_0g (a:Tf99_4)(α:Type)(k:RT α):Fn64_0 (f64_0g a) α k=pa64_0.unc fun ds=>fnM Pg (E64_0g a) sh64 (cm64_0g ) rs64 k ds:=by kernel_rfl
theorem fm64_0:∀ (α:Type) (k:RT α),Fn64_0 f64_0 α k=pa64_0.unc fun ds=>fnM Pg E64_0 sh64 cm64_0 rs64 k ds:=fm64_0g f99_4
theorem is64:FnIs Pg 64 nt64 tr64 tl64 ac64 rs64:=codeF_is Tryz.func64 (by kernel_rfl)
theorem io64_0:InstOk Pg 64 nt64 ⟨pa64_0,Fn64_0 f64_0⟩:=inst_ok eo64_0 followsTry is64 ⟨⟨sh64,cm64_0,em64_0,gm64_0,fm64_0⟩⟩
abbrev nt97:Nat:=11
def sh97:SG:=[(6,[.cpx .f64,.int .i64])]
def tr97:TG:=[tT 0 [2,3,4],tT 1 [4,5]]
def tl97:TG:=[]
def ac97:ACode:=codeF Pg Tryz.f97 tr97 tl97
def rs97:List AResV:=resF Pg Tryz.f97
def pr97_0_0:PT (List RV):=pRs [pR true [rD (dX .f64),rD (dI .i64)],wI]
def ur97_0_0 {β:Type}(g:List RV->β):Nat->Nat->Int->Int->β:=pr97_0_0.unc g
def E97_0g (a:Tf99_0):EnvK:=EnvK.of [⟨99,nt99,[⟨pa99_0,Fn99_0 a⟩]⟩] noSeq
def E97_0:EnvK:=E97_0g f99_0
theorem eo97_0:E97_0.Ok Pg:=EnvK.of_ok noSeq_ok ⟨⟨io99_0,TT⟩,TT⟩
abbrev Tf97_0:Type 1:=(α:Type)->Nat->Nat->Int->Int->(Nat->Nat->Int->Int->Op α)->Op α
def f97_0g (a:Tf99_0)(α:Type)(b c:Nat)(d e:Int)(k1:Nat->Nat->Int->Int->Op α):Op α:=
 a α b c d e
 (fun g h i j=>k1 g h i j)
def f97_0 (α:Type)(a b:Nat)(c d:Int)(k1:Nat->Nat->Int->Int->Op α):Op α:=f97_0g f99_0 α a b c d k1
def pa97_0:PT (List DV):=pA [pV true [(dX .f64),(dI .i64)],vI]
def Fn97_0 (v:Tf97_0)(α:Type)(k:RT α):Nat->Nat->Int->Int->Op α:=fun a b c d=>v α a b c d (fun e g h i=>ur97_0_0 k e g h i)
def cm97_0g:MCode:=(emb ac97)
def cm97_0:MCode:=cm97_0g
theorem gm97_0:cm97_0.Good Pg E97_0 sh97:=(emb_good ac97)
theorem em97_0:cm97_0.erase=ac97:=(emb_erase _)
theorem fm97_0g (a:Tf99_0)(α:Type)(k:RT α):Fn97_0 (f97_0g a) α k=pa97_0.unc fun ds=>fnM Pg (E97_0g a) sh97 (cm97_0g ) rs97 k ds:=by kernel_rfl
theorem fm97_0:∀ (α:Type) (k:RT α),Fn97_0 f97_0 α k=pa97_0.unc fun ds=>fnM Pg E97_0 sh97 cm97_0 rs97 k ds:=fm97_0g f99_0
theorem is97:FnIs Pg 97 nt97 tr97 tl97 ac97 rs97:=codeF_is Tryz.func97 (by kernel_rfl)
theorem io97_0:InstOk Pg 97 nt97 ⟨pa97_0,Fn97_0 f97_0⟩:=inst_ok eo97_0 followsTry is97 ⟨⟨sh97,cm97_0,em97_0,gm97_0,fm97_0⟩⟩
abbrev nt118:Nat:=24
def sh118:SG:=[(11,[.cpx .f64,.int .i64]),(19,[.cpx .f64,.int .i64])]
def tr118:TG:=[tT 0 [3,4,5,6],tT 1 [4,5,6,8,9],tT 2 [4,5,6,8,9,16],tT 3 [6,7],tT 4 [6,7]]
def tl118:TG:=[]
def ac118:ACode:=codeF Pg Tryz.f118 tr118 tl118
def rs118:List AResV:=resF Pg Tryz.f118
def pr118_0_0:PT (List RV):=pRs [pR true [rD (dX .f64),rD (dI .i64)],wI]
def ur118_0_0 {β:Type}(g:List RV->β):Nat->Nat->Int->Int->β:=pr118_0_0.unc g
def E118_0g (a:Tf66_0)(b:Tf99_1):EnvK:=EnvK.of [⟨66,nt66,[⟨pa66_0,Fn66_0 a⟩]⟩,⟨99,nt99,[⟨pa99_1,Fn99_1 b⟩]⟩] noSeq
def E118_0:EnvK:=E118_0g f66_0 f99_1
theorem eo118_0:E118_0.Ok Pg:=EnvK.of_ok noSeq_ok ⟨⟨io66_0,TT⟩,⟨io99_1,TT⟩,TT⟩
abbrev Tf118_0:Type 1:=(α:Type)->Nat->Nat->Int->Nat->Nat->Int->(Nat->Nat->Int->Int->Op α)->Op α
def f118_0g (c:Tf66_0)(d:Tf99_1)(α:Type)(e g:Nat)(a:Int)(h i:Nat)(j:Int)(k1:Nat->Nat->Int->Int->Op α):Op α:=
 c α e g a
 (fun l m b=>cK (b != 0)
 (k1 0 0 0 b)
 (d α h i j l m a
 (fun o p q r=>k1 o p q r)))
def f118_0 (α:Type)(a b:Nat)(c:Int)(d e:Nat)(g:Int)(k1:Nat->Nat->Int->Int->Op α):Op α:=f118_0g f66_0 f99_1 α a b c d e g k1
def pa118_0:PT (List DV):=pA [pV true [(dX .f64),(dI .i64)],pV true [(dX .f64),(dI .i64)],pV false [(dFn 119 [])]]
def Fn118_0 (v:Tf118_0)(α:Type)(k:RT α):Nat->Nat->Int->Nat->Nat->Int->Op α:=fun a b c d e g=>v α a b c d e g (fun h i j l=>ur118_0_0 k h i j l)
def cm118_0g:MCode:=(emb ac118)
def cm118_0:MCode:=cm118_0g
theorem gm118_0:cm118_0.Good Pg E118_0 sh118:=(emb_good ac118)
theorem em118_0:cm118_0.erase=ac118:=(emb_erase _)
theorem fm118_0g (a:Tf66_0)(b:Tf99_1)(α:Type)(k:RT α):Fn118_0 (f118_0g a b) α k=pa118_0.unc fun ds=>fnM Pg (E118_0g a b) sh118 (cm118_0g ) rs118 k ds:=by kernel_rfl
theorem fm118_0:∀ (α:Type) (k:RT α),Fn118_0 f118_0 α k=pa118_0.unc fun ds=>fnM Pg E118_0 sh118 cm118_0 rs118 k ds:=fm118_0g f66_0 f99_1
theorem is118:FnIs Pg 118 nt118 tr118 tl118 ac118 rs118:=codeF_is Tryz.func118 (by kernel_rfl)
theorem io118_0:InstOk Pg 118 nt118 ⟨pa118_0,Fn118_0 f118_0⟩:=inst_ok eo118_0 followsTry is118 ⟨⟨sh118,cm118_0,em118_0,gm118_0,fm118_0⟩⟩
def pr118_1_0:PT (List RV):=pRs [pR true [rD (dX .f64),rD (dI .i64)],wI]
def ur118_1_0 {β:Type}(g:List RV->β):Nat->Nat->Int->Int->β:=pr118_1_0.unc g
def E118_1g (a:Tf66_0)(b:Tf99_2):EnvK:=EnvK.of [⟨66,nt66,[⟨pa66_0,Fn66_0 a⟩]⟩,⟨99,nt99,[⟨pa99_2,Fn99_2 b⟩]⟩] noSeq
def E118_1:EnvK:=E118_1g f66_0 f99_2
theorem eo118_1:E118_1.Ok Pg:=EnvK.of_ok noSeq_ok ⟨⟨io66_0,TT⟩,⟨io99_2,TT⟩,TT⟩
abbrev Tf118_1:Type 1:=(α:Type)->Nat->Nat->Int->Nat->Nat->Int->(Nat->Nat->Int->Int->Op α)->Op α
def f118_1g (c:Tf66_0)(d:Tf99_2)(α:Type)(e g:Nat)(a:Int)(h i:Nat)(j:Int)(k1:Nat->Nat->Int->Int->Op α):Op α:=
 c α e g a
 (fun l m b=>cK (b != 0)
 (k1 0 0 0 b)
 (d α h i j l m a
 (fun o p q r=>k1 o p q r)))
def f118_1 (α:Type)(a b:Nat)(c:Int)(d e:Nat)(g:Int)(k1:Nat->Nat->Int->Int->Op α):Op α:=f118_1g f66_0 f99_2 α a b c d e g k1
def pa118_1:PT (List DV):=pA [pV true [(dX .f64),(dI .i64)],pV true [(dX .f64),(dI .i64)],pV false [(dFn 121 [])]]
def Fn118_1 (v:Tf118_1)(α:Type)(k:RT α):Nat->Nat->Int->Nat->Nat->Int->Op α:=fun a b c d e g=>v α a b c d e g (fun h i j l=>ur118_1_0 k h i j l)
def cm118_1g:MCode:=(emb ac118)
def cm118_1:MCode:=cm118_1g
theorem gm118_1:cm118_1.Good Pg E118_1 sh118:=(emb_good ac118)
theorem em118_1:cm118_1.erase=ac118:=(emb_erase _)
theorem fm118_1g (a:Tf66_0)(b:Tf99_2)(α:Type)(k:RT α):Fn118_1 (f118_1g a b) α k=pa118_1.unc fun ds=>fnM Pg (E118_1g a b) sh118 (cm118_1g ) rs118 k ds:=by kernel_rfl
theorem fm118_1:∀ (α:Type) (k:RT α),Fn118_1 f118_1 α k=pa118_1.unc fun ds=>fnM Pg E118_1 sh118 cm118_1 rs118 k ds:=fm118_1g f66_0 f99_2
theorem io118_1:InstOk Pg 118 nt118 ⟨pa118_1,Fn118_1 f118_1⟩:=inst_ok eo118_1 followsTry is118 ⟨⟨sh118,cm118_1,em118_1,gm118_1,fm118_1⟩⟩
def pr118_2_0:PT (List RV):=pRs [pR true [rD (dX .f64),rD (dI .i64)],wI]
def ur118_2_0 {β:Type}(g:List RV->β):Nat->Nat->Int->Int->β:=pr118_2_0.unc g
def E118_2g (a:Tf66_0)(b:Tf99_3):EnvK:=EnvK.of [⟨66,nt66,[⟨pa66_0,Fn66_0 a⟩]⟩,⟨99,nt99,[⟨pa99_3,Fn99_3 b⟩]⟩] noSeq
def E118_2:EnvK:=E118_2g f66_0 f99_3
theorem eo118_2:E118_2.Ok Pg:=EnvK.of_ok noSeq_ok ⟨⟨io66_0,TT⟩,⟨io99_3,TT⟩,TT⟩
abbrev Tf118_2:Type 1:=(α:Type)->Nat->Nat->Int->Nat->Nat->Int->(Nat->Nat->Int->Int->Op α)->Op α
def f118_2g (c:Tf66_0)(d:Tf99_3)(α:Type)(e g:Nat)(a:Int)(h i:Nat)(j:Int)(k1:Nat->Nat->Int->Int->Op α):Op α:=
 c α e g a
 (fun l m b=>cK (b != 0)
 (k1 0 0 0 b)
 (d α h i j l m a
 (fun o p q r=>k1 o p q r)))
def f118_2 (α:Type)(a b:Nat)(c:Int)(d e:Nat)(g:Int)(k1:Nat->Nat->Int->Int->Op α):Op α:=f118_2g f66_0 f99_3 α a b c d e g k1
def pa118_2:PT (List DV):=pA [pV true [(dX .f64),(dI .i64)],pV true [(dX .f64),(dI .i64)],pV false [(dFn 129 [])]]
def Fn118_2 (v:Tf118_2)(α:Type)(k:RT α):Nat->Nat->Int->Nat->Nat->Int->Op α:=fun a b c d e g=>v α a b c d e g (fun h i j l=>ur118_2_0 k h i j l)
def cm118_2g:MCode:=(emb ac118)
def cm118_2:MCode:=cm118_2g
theorem gm118_2:cm118_2.Good Pg E118_2 sh118:=(emb_good ac118)
theorem em118_2:cm118_2.erase=ac118:=(emb_erase _)
theorem fm118_2g (a:Tf66_0)(b:Tf99_3)(α:Type)(k:RT α):Fn118_2 (f118_2g a b) α k=pa118_2.unc fun ds=>fnM Pg (E118_2g a b) sh118 (cm118_2g ) rs118 k ds:=by kernel_rfl
theorem fm118_2:∀ (α:Type) (k:RT α),Fn118_2 f118_2 α k=pa118_2.unc fun ds=>fnM Pg E118_2 sh118 cm118_2 rs118 k ds:=fm118_2g f66_0 f99_3
theorem io118_2:InstOk Pg 118 nt118 ⟨pa118_2,Fn118_2 f118_2⟩:=inst_ok eo118_2 followsTry is118 ⟨⟨sh118,cm118_2,em118_2,gm118_2,fm118_2⟩⟩
def pr118_3_0:PT (List RV):=pRs [pR true [rD (dX .f64),rD (dI .i64)],wI]
def ur118_3_0 {β:Type}(g:List RV->β):Nat->Nat->Int->Int->β:=pr118_3_0.unc g
def E118_3g (a:Tf66_0)(b:Tf99_5):EnvK:=EnvK.of [⟨66,nt66,[⟨pa66_0,Fn66_0 a⟩]⟩,⟨99,nt99,[⟨pa99_5,Fn99_5 b⟩]⟩] noSeq
def E118_3:EnvK:=E118_3g f66_0 f99_5
theorem eo118_3:E118_3.Ok Pg:=EnvK.of_ok noSeq_ok ⟨⟨io66_0,TT⟩,⟨io99_5,TT⟩,TT⟩
abbrev Tf118_3:Type 1:=(α:Type)->Nat->Nat->Int->Nat->Nat->Int->(Nat->Nat->Int->Int->Op α)->Op α
def f118_3g (c:Tf66_0)(d:Tf99_5)(α:Type)(e g:Nat)(a:Int)(h i:Nat)(j:Int)(k1:Nat->Nat->Int->Int->Op α):Op α:=
 c α e g a
 (fun l m b=>cK (b != 0)
 (k1 0 0 0 b)
 (d α h i j l m a
 (fun o p q r=>k1 o p q r)))
def f118_3 (α:Type)(a b:Nat)(c:Int)(d e:Nat)(g:Int)(k1:Nat->Nat->Int->Int->Op α):Op α:=f118_3g f66_0 f99_5 α a b c d e g k1
def pa118_3:PT (List DV):=pA [pV true [(dX .f64),(dI .i64)],pV true [(dX .f64),(dI .i64)],pV false [(dFn 125 [])]]
def Fn118_3 (v:Tf118_3)(α:Type)(k:RT α):Nat->Nat->Int->Nat->Nat->Int->Op α:=fun a b c d e g=>v α a b c d e g (fun h i j l=>ur118_3_0 k h i j l)
def cm118_3g:MCode:=(emb ac118)
def cm118_3:MCode:=cm118_3g
theorem gm118_3:cm118_3.Good Pg E118_3 sh118:=(emb_good ac118)
theorem em118_3:cm118_3.erase=ac118:=(emb_erase _)
theorem fm118_3g (a:Tf66_0)(b:Tf99_5)(α:Type)(k:RT α):Fn118_3 (f118_3g a b) α k=pa118_3.unc fun ds=>fnM Pg (E118_3g a b) sh118 (cm118_3g ) rs118 k ds:=by kernel_rfl
theorem fm118_3:∀ (α:Type) (k:RT α),Fn118_3 f118_3 α k=pa118_3.unc fun ds=>fnM Pg E118_3 sh118 cm118_3 rs118 k ds:=fm118_3g f66_0 f99_5
theorem io118_3:InstOk Pg 118 nt118 ⟨pa118_3,Fn118_3 f118_3⟩:=inst_ok eo118_3 followsTry is118 ⟨⟨sh118,cm118_3,em118_3,gm118_3,fm118_3⟩⟩
abbrev nt65:Nat:=57
def sh65:SG:=[(9,iS 2),(19,iT),(22,iT),(26,iT),(35,iT),(39,iT),(42,iT),(52,[.cpx .f64,.int .i64])]
def tr65:TG:=[tT 0 [1,2],tT 1 [1,2,5],tT 2 [1,2,5,14],tT 3 [2,3],tT 4 [1,2,17],tT 5 [2,3],tT 6 [1,2,33],tT 7 [2,6,7],tT 8 [2,6,7,49],tT 9 [2,3],tT 10 [2,3],tT 11 [2,3]]
def tl65:TG:=[]
def ac65:ACode:=codeF Pg Tryz.f65 tr65 tl65
def rs65:List AResV:=resF Pg Tryz.f65
def pr65_1_0:PT (List RV):=pRs [pR true [rD (dX .f64),rD (dI .i64)],wI]
def ur65_1_0 {β:Type}(g:List RV->β):Nat->Nat->Int->Int->β:=pr65_1_0.unc g
def E65_1g (a:Tf98_0)(b:Tf103_0)(c:Tf106_0):EnvK:=EnvK.of [⟨98,nt98,[⟨pa98_0,Fn98_0 a⟩]⟩,⟨103,nt103,[⟨pa103_0,Fn103_0 b⟩]⟩,⟨106,nt106,[⟨pa106_0,Fn106_0 c⟩]⟩] noSeq
def E65_1:EnvK:=E65_1g f98_0 f103_0 f106_0
theorem eo65_1:E65_1.Ok Pg:=EnvK.of_ok noSeq_ok ⟨⟨io98_0,TT⟩,⟨io103_0,TT⟩,⟨io106_0,TT⟩,TT⟩
abbrev Tf65_1:Type 1:=(α:Type)->Int->Int->(Nat->Nat->Int->Int->Op α)->Op α
def f65_1g (e:Tf103_0)(g:Tf106_0)(c:Tf98_0)(α:Type)(a b:Int)(k1:Nat->Nat->Int->Int->Op α):Op α:=
 c α a b
 (fun p q r d=>cK (d != 0)
 (k1 0 0 0 d)
 (cK (decide (0<=a))
 (e α (w64 (a*1048576))
 (fun h=>g α (w64 (b*1048576))
 (fun i=>c α h i
 (fun j l m o=>k1 j l m o))))
 (cK (decide (b<=0))
 (none)
 (k1 0 0 0 14))))
def f65_1 (α:Type)(a b:Int)(k1:Nat->Nat->Int->Int->Op α):Op α:=f65_1g f103_0 f106_0 f98_0 α a b k1
def pa65_1:PT (List DV):=pA [pV true [(dI .i64),(dI .i64)]]
def Fn65_1 (v:Tf65_1)(α:Type)(k:RT α):Int->Int->Op α:=fun a b=>v α a b (fun c d e g=>ur65_1_0 k c d e g)
def cm65_1g:MCode:=(emb ac65)
def cm65_1:MCode:=cm65_1g
theorem gm65_1:cm65_1.Good Pg E65_1 sh65:=(emb_good ac65)
theorem em65_1:cm65_1.erase=ac65:=(emb_erase _)
theorem fm65_1g (a:Tf98_0)(b:Tf103_0)(c:Tf106_0)(α:Type)(k:RT α):Fn65_1 (f65_1g b c a) α k=pa65_1.unc fun ds=>fnM Pg (E65_1g a b c) sh65 (cm65_1g ) rs65 k ds:=by kernel_rfl
theorem fm65_1:∀ (α:Type) (k:RT α),Fn65_1 f65_1 α k=pa65_1.unc fun ds=>fnM Pg E65_1 sh65 cm65_1 rs65 k ds:=fm65_1g f98_0 f103_0 f106_0
theorem is65:FnIs Pg 65 nt65 tr65 tl65 ac65 rs65:=codeF_is Tryz.func65 (by kernel_rfl)
theorem io65_1:InstOk Pg 65 nt65 ⟨pa65_1,Fn65_1 f65_1⟩:=inst_ok eo65_1 followsTry is65 ⟨⟨sh65,cm65_1,em65_1,gm65_1,fm65_1⟩⟩
def pr65_0_0:PT (List RV):=pRs [pR true [rD (dX .f64),rD (dI .i64)],wI]
def ur65_0_0 {β:Type}(g:List RV->β):Nat->Nat->Int->Int->β:=pr65_0_0.unc g
def E65_0g (a:Tf98_0)(b:Tf103_0)(c:Tf106_0)(d:Tf65_1)(e:Tf97_0):EnvK:=EnvK.of [⟨98,nt98,[⟨pa98_0,Fn98_0 a⟩]⟩,⟨103,nt103,[⟨pa103_0,Fn103_0 b⟩]⟩,⟨106,nt106,[⟨pa106_0,Fn106_0 c⟩]⟩,⟨65,nt65,[⟨pa65_1,Fn65_1 d⟩]⟩,⟨97,nt97,[⟨pa97_0,Fn97_0 e⟩]⟩] noSeq
def E65_0:EnvK:=E65_0g f98_0 f103_0 f106_0 f65_1 f97_0
theorem eo65_0:E65_0.Ok Pg:=EnvK.of_ok noSeq_ok ⟨⟨io98_0,TT⟩,⟨io103_0,TT⟩,⟨io106_0,TT⟩,⟨io65_1,TT⟩,⟨io97_0,TT⟩,TT⟩
abbrev Tf65_0:Type 1:=(α:Type)->Int->Int->(Nat->Nat->Int->Int->Op α)->Op α
def f65_0g (g:Tf103_0)(h:Tf106_0)(i:Tf65_1)(j:Tf97_0)(c:Tf98_0)(α:Type)(a b:Int)(k1:Nat->Nat->Int->Int->Op α):Op α:=
 c α a b
 (fun D F G d=>cK (d != 0)
 (k1 0 0 0 d)
 (cK (decide (0<=a))
 (g α (w64 (a*1048576))
 (fun l=>h α (w64 (b*1048576))
 (fun m=>c α l m
 (fun o p q r=>k1 o p q r))))
 (cK (decide (b<=0))
 (i α (w64 (0 - b)) (w64 (0 - a))
 (fun s t w e=>cK (e != 0)
 (k1 0 0 0 e)
 (j α s t w 1
 (fun z A B C=>k1 z A B C))))
 (k1 0 0 0 14))))
def f65_0 (α:Type)(a b:Int)(k1:Nat->Nat->Int->Int->Op α):Op α:=f65_0g f103_0 f106_0 f65_1 f97_0 f98_0 α a b k1
def pa65_0:PT (List DV):=pA [pV true [(dI .i64),(dI .i64)]]
def Fn65_0 (v:Tf65_0)(α:Type)(k:RT α):Int->Int->Op α:=fun a b=>v α a b (fun c d e g=>ur65_0_0 k c d e g)
def cm65_0g:MCode:=(emb ac65)
def cm65_0:MCode:=cm65_0g
theorem gm65_0:cm65_0.Good Pg E65_0 sh65:=(emb_good ac65)
theorem em65_0:cm65_0.erase=ac65:=(emb_erase _)
theorem fm65_0g (a:Tf98_0)(b:Tf103_0)(c:Tf106_0)(d:Tf65_1)(e:Tf97_0)(α:Type)(k:RT α):Fn65_0 (f65_0g b c d e a) α k=pa65_0.unc fun ds=>fnM Pg (E65_0g a b c d e) sh65 (cm65_0g ) rs65 k ds:=by kernel_rfl
theorem fm65_0:∀ (α:Type) (k:RT α),Fn65_0 f65_0 α k=pa65_0.unc fun ds=>fnM Pg E65_0 sh65 cm65_0 rs65 k ds:=fm65_0g f98_0 f103_0 f106_0 f65_1 f97_0
theorem io65_0:InstOk Pg 65 nt65 ⟨pa65_0,Fn65_0 f65_0⟩:=inst_ok eo65_0 followsTry is65 ⟨⟨sh65,cm65_0,em65_0,gm65_0,fm65_0⟩⟩
abbrev nt94:Nat:=11
def sh94:SG:=[(6,[.cpx .f64,.int .i64]),(7,[.cpx .f64,.int .i64])]
def tr94:TG:=[tT 0 [2,3,4],tT 1 [4,5]]
def tl94:TG:=[]
def ac94:ACode:=codeF Pg Tryz.f94 tr94 tl94
def rs94:List AResV:=resF Pg Tryz.f94
def pr94_0_0:PT (List RV):=pRs [pR true [rD (dX .f64),rD (dI .i64)],wI]
def ur94_0_0 {β:Type}(g:List RV->β):Nat->Nat->Int->Int->β:=pr94_0_0.unc g
def E94_0g (a:Tf118_2):EnvK:=EnvK.of [⟨118,nt118,[⟨pa118_2,Fn118_2 a⟩]⟩] noSeq
def E94_0:EnvK:=E94_0g f118_2
theorem eo94_0:E94_0.Ok Pg:=EnvK.of_ok noSeq_ok ⟨⟨io118_2,TT⟩,TT⟩
abbrev Tf94_0:Type 1:=(α:Type)->Nat->Nat->Int->Nat->Nat->Int->(Nat->Nat->Int->Int->Op α)->Op α
def f94_0g (a:Tf118_2)(α:Type)(b c:Nat)(d:Int)(e g:Nat)(h:Int)(k1:Nat->Nat->Int->Int->Op α):Op α:=
 a α b c d e g h
 (fun i j l m=>k1 i j l m)
def f94_0 (α:Type)(a b:Nat)(c:Int)(d e:Nat)(g:Int)(k1:Nat->Nat->Int->Int->Op α):Op α:=f94_0g f118_2 α a b c d e g k1
def pa94_0:PT (List DV):=pA [pV true [(dX .f64),(dI .i64)],pV true [(dX .f64),(dI .i64)]]
def Fn94_0 (v:Tf94_0)(α:Type)(k:RT α):Nat->Nat->Int->Nat->Nat->Int->Op α:=fun a b c d e g=>v α a b c d e g (fun h i j l=>ur94_0_0 k h i j l)
def cm94_0g:MCode:=(emb ac94)
def cm94_0:MCode:=cm94_0g
theorem gm94_0:cm94_0.Good Pg E94_0 sh94:=(emb_good ac94)
theorem em94_0:cm94_0.erase=ac94:=(emb_erase _)
theorem fm94_0g (a:Tf118_2)(α:Type)(k:RT α):Fn94_0 (f94_0g a) α k=pa94_0.unc fun ds=>fnM Pg (E94_0g a) sh94 (cm94_0g ) rs94 k ds:=by kernel_rfl
theorem fm94_0:∀ (α:Type) (k:RT α),Fn94_0 f94_0 α k=pa94_0.unc fun ds=>fnM Pg E94_0 sh94 cm94_0 rs94 k ds:=fm94_0g f118_2
theorem is94:FnIs Pg 94 nt94 tr94 tl94 ac94 rs94:=codeF_is Tryz.func94 (by kernel_rfl)
theorem io94_0:InstOk Pg 94 nt94 ⟨pa94_0,Fn94_0 f94_0⟩:=inst_ok eo94_0 followsTry is94 ⟨⟨sh94,cm94_0,em94_0,gm94_0,fm94_0⟩⟩
abbrev nt92:Nat:=11
def sh92:SG:=[(6,[.cpx .f64,.int .i64]),(7,[.cpx .f64,.int .i64])]
def tr92:TG:=[tT 0 [2,3,4],tT 1 [4,5]]
def tl92:TG:=[]
def ac92:ACode:=codeF Pg Tryz.f92 tr92 tl92
def rs92:List AResV:=resF Pg Tryz.f92
def pr92_0_0:PT (List RV):=pRs [pR true [rD (dX .f64),rD (dI .i64)],wI]
def ur92_0_0 {β:Type}(g:List RV->β):Nat->Nat->Int->Int->β:=pr92_0_0.unc g
def E92_0g (a:Tf118_1):EnvK:=EnvK.of [⟨118,nt118,[⟨pa118_1,Fn118_1 a⟩]⟩] noSeq
def E92_0:EnvK:=E92_0g f118_1
theorem eo92_0:E92_0.Ok Pg:=EnvK.of_ok noSeq_ok ⟨⟨io118_1,TT⟩,TT⟩
abbrev Tf92_0:Type 1:=(α:Type)->Nat->Nat->Int->Nat->Nat->Int->(Nat->Nat->Int->Int->Op α)->Op α
def f92_0g (a:Tf118_1)(α:Type)(b c:Nat)(d:Int)(e g:Nat)(h:Int)(k1:Nat->Nat->Int->Int->Op α):Op α:=
 a α b c d e g h
 (fun i j l m=>k1 i j l m)
def f92_0 (α:Type)(a b:Nat)(c:Int)(d e:Nat)(g:Int)(k1:Nat->Nat->Int->Int->Op α):Op α:=f92_0g f118_1 α a b c d e g k1
def pa92_0:PT (List DV):=pA [pV true [(dX .f64),(dI .i64)],pV true [(dX .f64),(dI .i64)]]
def Fn92_0 (v:Tf92_0)(α:Type)(k:RT α):Nat->Nat->Int->Nat->Nat->Int->Op α:=fun a b c d e g=>v α a b c d e g (fun h i j l=>ur92_0_0 k h i j l)
def cm92_0g:MCode:=(emb ac92)
def cm92_0:MCode:=cm92_0g
theorem gm92_0:cm92_0.Good Pg E92_0 sh92:=(emb_good ac92)
theorem em92_0:cm92_0.erase=ac92:=(emb_erase _)
theorem fm92_0g (a:Tf118_1)(α:Type)(k:RT α):Fn92_0 (f92_0g a) α k=pa92_0.unc fun ds=>fnM Pg (E92_0g a) sh92 (cm92_0g ) rs92 k ds:=by kernel_rfl
theorem fm92_0:∀ (α:Type) (k:RT α),Fn92_0 f92_0 α k=pa92_0.unc fun ds=>fnM Pg E92_0 sh92 cm92_0 rs92 k ds:=fm92_0g f118_1
theorem is92:FnIs Pg 92 nt92 tr92 tl92 ac92 rs92:=codeF_is Tryz.func92 (by kernel_rfl)
theorem io92_0:InstOk Pg 92 nt92 ⟨pa92_0,Fn92_0 f92_0⟩:=inst_ok eo92_0 followsTry is92 ⟨⟨sh92,cm92_0,em92_0,gm92_0,fm92_0⟩⟩
abbrev nt91:Nat:=11
def sh91:SG:=[(6,[.cpx .f64,.int .i64]),(7,[.cpx .f64,.int .i64])]
def tr91:TG:=[tT 0 [2,3,4],tT 1 [4,5]]
def tl91:TG:=[]
def ac91:ACode:=codeF Pg Tryz.f91 tr91 tl91
def rs91:List AResV:=resF Pg Tryz.f91
def pr91_0_0:PT (List RV):=pRs [pR true [rD (dX .f64),rD (dI .i64)],wI]
def ur91_0_0 {β:Type}(g:List RV->β):Nat->Nat->Int->Int->β:=pr91_0_0.unc g
def E91_0g (a:Tf118_0):EnvK:=EnvK.of [⟨118,nt118,[⟨pa118_0,Fn118_0 a⟩]⟩] noSeq
def E91_0:EnvK:=E91_0g f118_0
theorem eo91_0:E91_0.Ok Pg:=EnvK.of_ok noSeq_ok ⟨⟨io118_0,TT⟩,TT⟩
abbrev Tf91_0:Type 1:=(α:Type)->Nat->Nat->Int->Nat->Nat->Int->(Nat->Nat->Int->Int->Op α)->Op α
def f91_0g (a:Tf118_0)(α:Type)(b c:Nat)(d:Int)(e g:Nat)(h:Int)(k1:Nat->Nat->Int->Int->Op α):Op α:=
 a α b c d e g h
 (fun i j l m=>k1 i j l m)
def f91_0 (α:Type)(a b:Nat)(c:Int)(d e:Nat)(g:Int)(k1:Nat->Nat->Int->Int->Op α):Op α:=f91_0g f118_0 α a b c d e g k1
def pa91_0:PT (List DV):=pA [pV true [(dX .f64),(dI .i64)],pV true [(dX .f64),(dI .i64)]]
def Fn91_0 (v:Tf91_0)(α:Type)(k:RT α):Nat->Nat->Int->Nat->Nat->Int->Op α:=fun a b c d e g=>v α a b c d e g (fun h i j l=>ur91_0_0 k h i j l)
def cm91_0g:MCode:=(emb ac91)
def cm91_0:MCode:=cm91_0g
theorem gm91_0:cm91_0.Good Pg E91_0 sh91:=(emb_good ac91)
theorem em91_0:cm91_0.erase=ac91:=(emb_erase _)
theorem fm91_0g (a:Tf118_0)(α:Type)(k:RT α):Fn91_0 (f91_0g a) α k=pa91_0.unc fun ds=>fnM Pg (E91_0g a) sh91 (cm91_0g ) rs91 k ds:=by kernel_rfl
theorem fm91_0:∀ (α:Type) (k:RT α),Fn91_0 f91_0 α k=pa91_0.unc fun ds=>fnM Pg E91_0 sh91 cm91_0 rs91 k ds:=fm91_0g f118_0
theorem is91:FnIs Pg 91 nt91 tr91 tl91 ac91 rs91:=codeF_is Tryz.func91 (by kernel_rfl)
theorem io91_0:InstOk Pg 91 nt91 ⟨pa91_0,Fn91_0 f91_0⟩:=inst_ok eo91_0 followsTry is91 ⟨⟨sh91,cm91_0,em91_0,gm91_0,fm91_0⟩⟩
abbrev nt93:Nat:=11
def sh93:SG:=[(6,[.cpx .f64,.int .i64]),(7,[.cpx .f64,.int .i64])]
def tr93:TG:=[tT 0 [2,3,4],tT 1 [4,5]]
def tl93:TG:=[]
def ac93:ACode:=codeF Pg Tryz.f93 tr93 tl93
def rs93:List AResV:=resF Pg Tryz.f93
def pr93_0_0:PT (List RV):=pRs [pR true [rD (dX .f64),rD (dI .i64)],wI]
def ur93_0_0 {β:Type}(g:List RV->β):Nat->Nat->Int->Int->β:=pr93_0_0.unc g
def E93_0g (a:Tf118_3):EnvK:=EnvK.of [⟨118,nt118,[⟨pa118_3,Fn118_3 a⟩]⟩] noSeq
def E93_0:EnvK:=E93_0g f118_3
theorem eo93_0:E93_0.Ok Pg:=EnvK.of_ok noSeq_ok ⟨⟨io118_3,TT⟩,TT⟩
abbrev Tf93_0:Type 1:=(α:Type)->Nat->Nat->Int->Nat->Nat->Int->(Nat->Nat->Int->Int->Op α)->Op α
def f93_0g (a:Tf118_3)(α:Type)(b c:Nat)(d:Int)(e g:Nat)(h:Int)(k1:Nat->Nat->Int->Int->Op α):Op α:=
 a α b c d e g h
 (fun i j l m=>k1 i j l m)
def f93_0 (α:Type)(a b:Nat)(c:Int)(d e:Nat)(g:Int)(k1:Nat->Nat->Int->Int->Op α):Op α:=f93_0g f118_3 α a b c d e g k1
def pa93_0:PT (List DV):=pA [pV true [(dX .f64),(dI .i64)],pV true [(dX .f64),(dI .i64)]]
def Fn93_0 (v:Tf93_0)(α:Type)(k:RT α):Nat->Nat->Int->Nat->Nat->Int->Op α:=fun a b c d e g=>v α a b c d e g (fun h i j l=>ur93_0_0 k h i j l)
def cm93_0g:MCode:=(emb ac93)
def cm93_0:MCode:=cm93_0g
theorem gm93_0:cm93_0.Good Pg E93_0 sh93:=(emb_good ac93)
theorem em93_0:cm93_0.erase=ac93:=(emb_erase _)
theorem fm93_0g (a:Tf118_3)(α:Type)(k:RT α):Fn93_0 (f93_0g a) α k=pa93_0.unc fun ds=>fnM Pg (E93_0g a) sh93 (cm93_0g ) rs93 k ds:=by kernel_rfl
theorem fm93_0:∀ (α:Type) (k:RT α),Fn93_0 f93_0 α k=pa93_0.unc fun ds=>fnM Pg E93_0 sh93 cm93_0 rs93 k ds:=fm93_0g f118_3
theorem is93:FnIs Pg 93 nt93 tr93 tl93 ac93 rs93:=codeF_is Tryz.func93 (by kernel_rfl)
theorem io93_0:InstOk Pg 93 nt93 ⟨pa93_0,Fn93_0 f93_0⟩:=inst_ok eo93_0 followsTry is93 ⟨⟨sh93,cm93_0,em93_0,gm93_0,fm93_0⟩⟩
abbrev nt90:Nat:=23
def sh90:SG:=[(12,iT),(17,[.cpx .f64,.int .i64]),(18,[.cpx .f64,.int .i64])]
def tr90:TG:=[tT 0 [0,1,6,7,8],tT 1 [0,1,6,7,8,13],tT 2 [0,8],tT 3 [0,8]]
def tl90:TG:=[]
def ac90:ACode:=codeF Pg Tryz.f90 tr90 tl90
def rs90:List AResV:=resF Pg Tryz.f90
def pr90_0_0:PT (List RV):=pRs [pR true [rD (dX .f64),rD (dI .i64)],pR true [rD (dI .i64),rD (dI .i64),rD (dI .i64),rD (dI .i64),rD (dI .i64),rD (dI .i64),rD (dI .i64),rD dL,rD (dI .i64),rD (dI .i64)]]
def ur90_0_0 {β:Type}(g:List RV->β):Nat->Nat->Int->Int->Int->Int->Int->Int->Int->Int->Rows->Int->Int->β:=pr90_0_0.unc g
def E90_0g (a:Tf91_0)(b:Tf63_0):EnvK:=EnvK.ofIO [⟨91,nt91,[⟨pa91_0,Fn91_0 a⟩]⟩,⟨63,nt63,[⟨pa63_0,Fn63_0 b⟩]⟩] noSeq [(63,[0])]
def E90_0:EnvK:=E90_0g f91_0 f63_0
theorem eo90_0:E90_0.Ok Pg:=EnvK.ofIO_ok noSeq_ok ⟨⟨io91_0,TT⟩,⟨io63_0,TT⟩,TT⟩
abbrev Tf90_0:Type 1:=(α:Type)->Int->Nat->Nat->Int->Nat->Nat->Int->(Nat->Nat->Int->Int->Op α)->Op α
def f90_0g (b:Tf63_0)(c:Tf91_0)(α:Type)(a:Int)(d e:Nat)(g:Int)(h i:Nat)(j:Int)(k1:Nat->Nat->Int->Int->Op α):Op α:=
 cK (a != 0)
 (k1 0 0 0 a)
 (c α d e g h i j
 (fun l m o p=>b α
 (k1 l m o p)))
def f90_0 (α:Type)(a:Int)(b c:Nat)(d:Int)(e g:Nat)(h:Int)(k1:Nat->Nat->Int->Int->Op α):Op α:=f90_0g f63_0 f91_0 α a b c d e g h k1
def pa90_0:PT (List DV):=pA [pV false [(dMr [(dI .i64),(dI .i64),(dI .i64),(dI .i64),(dI .i64),(dI .i64),(dI .i64),dL,(dI .i64),(dI .i64)] 0)],pV false [(dFn 91 [])],pV true [(dX .f64),(dI .i64)],pV true [(dX .f64),(dI .i64)]]
def Fn90_0 (v:Tf90_0)(α:Type)(k:RT α):Int->Int->Int->Int->Int->Int->Int->Rows->Int->Int->Nat->Nat->Int->Nat->Nat->Int->Op α:=fun a b c d e g h i j l m o p q r s=>v α a m o p q r s (fun t w z A=>ur90_0_0 k t w z A b c d e g h i j l)
def cm90_0g:MCode:=(emb ac90)
def cm90_0:MCode:=cm90_0g
theorem gm90_0:cm90_0.Good Pg E90_0 sh90:=(emb_good ac90)
theorem em90_0:cm90_0.erase=ac90:=(emb_erase _)
theorem fm90_0g (a:Tf91_0)(b:Tf63_0)(α:Type)(k:RT α):Fn90_0 (f90_0g b a) α k=pa90_0.unc fun ds=>fnM Pg (E90_0g a b) sh90 (cm90_0g ) rs90 k ds:=by kernel_rfl
theorem fm90_0:∀ (α:Type) (k:RT α),Fn90_0 f90_0 α k=pa90_0.unc fun ds=>fnM Pg E90_0 sh90 cm90_0 rs90 k ds:=fm90_0g f91_0 f63_0
theorem is90:FnIs Pg 90 nt90 tr90 tl90 ac90 rs90:=codeF_is Tryz.func90 (by kernel_rfl)
theorem io90_0:InstOk Pg 90 nt90 ⟨pa90_0,Fn90_0 f90_0⟩:=inst_ok eo90_0 followsTry is90 ⟨⟨sh90,cm90_0,em90_0,gm90_0,fm90_0⟩⟩
def pr90_1_0:PT (List RV):=pRs [pR true [rD (dX .f64),rD (dI .i64)],pR true [rD (dI .i64),rD (dI .i64),rD (dI .i64),rD (dI .i64),rD (dI .i64),rD (dI .i64),rD (dI .i64),rD dL,rD (dI .i64),rD (dI .i64)]]
def ur90_1_0 {β:Type}(g:List RV->β):Nat->Nat->Int->Int->Int->Int->Int->Int->Int->Int->Rows->Int->Int->β:=pr90_1_0.unc g
def E90_1g (a:Tf92_0)(b:Tf63_0):EnvK:=EnvK.ofIO [⟨92,nt92,[⟨pa92_0,Fn92_0 a⟩]⟩,⟨63,nt63,[⟨pa63_0,Fn63_0 b⟩]⟩] noSeq [(63,[0])]
def E90_1:EnvK:=E90_1g f92_0 f63_0
theorem eo90_1:E90_1.Ok Pg:=EnvK.ofIO_ok noSeq_ok ⟨⟨io92_0,TT⟩,⟨io63_0,TT⟩,TT⟩
abbrev Tf90_1:Type 1:=(α:Type)->Int->Nat->Nat->Int->Nat->Nat->Int->(Nat->Nat->Int->Int->Op α)->Op α
def f90_1g (b:Tf63_0)(c:Tf92_0)(α:Type)(a:Int)(d e:Nat)(g:Int)(h i:Nat)(j:Int)(k1:Nat->Nat->Int->Int->Op α):Op α:=
 cK (a != 0)
 (k1 0 0 0 a)
 (c α d e g h i j
 (fun l m o p=>b α
 (k1 l m o p)))
def f90_1 (α:Type)(a:Int)(b c:Nat)(d:Int)(e g:Nat)(h:Int)(k1:Nat->Nat->Int->Int->Op α):Op α:=f90_1g f63_0 f92_0 α a b c d e g h k1
def pa90_1:PT (List DV):=pA [pV false [(dMr [(dI .i64),(dI .i64),(dI .i64),(dI .i64),(dI .i64),(dI .i64),(dI .i64),dL,(dI .i64),(dI .i64)] 0)],pV false [(dFn 92 [])],pV true [(dX .f64),(dI .i64)],pV true [(dX .f64),(dI .i64)]]
def Fn90_1 (v:Tf90_1)(α:Type)(k:RT α):Int->Int->Int->Int->Int->Int->Int->Rows->Int->Int->Nat->Nat->Int->Nat->Nat->Int->Op α:=fun a b c d e g h i j l m o p q r s=>v α a m o p q r s (fun t w z A=>ur90_1_0 k t w z A b c d e g h i j l)
def cm90_1g:MCode:=(emb ac90)
def cm90_1:MCode:=cm90_1g
theorem gm90_1:cm90_1.Good Pg E90_1 sh90:=(emb_good ac90)
theorem em90_1:cm90_1.erase=ac90:=(emb_erase _)
theorem fm90_1g (a:Tf92_0)(b:Tf63_0)(α:Type)(k:RT α):Fn90_1 (f90_1g b a) α k=pa90_1.unc fun ds=>fnM Pg (E90_1g a b) sh90 (cm90_1g ) rs90 k ds:=by kernel_rfl
theorem fm90_1:∀ (α:Type) (k:RT α),Fn90_1 f90_1 α k=pa90_1.unc fun ds=>fnM Pg E90_1 sh90 cm90_1 rs90 k ds:=fm90_1g f92_0 f63_0
theorem io90_1:InstOk Pg 90 nt90 ⟨pa90_1,Fn90_1 f90_1⟩:=inst_ok eo90_1 followsTry is90 ⟨⟨sh90,cm90_1,em90_1,gm90_1,fm90_1⟩⟩
def pr90_2_0:PT (List RV):=pRs [pR true [rD (dX .f64),rD (dI .i64)],pR true [rD (dI .i64),rD (dI .i64),rD (dI .i64),rD (dI .i64),rD (dI .i64),rD (dI .i64),rD (dI .i64),rD dL,rD (dI .i64),rD (dI .i64)]]
def ur90_2_0 {β:Type}(g:List RV->β):Nat->Nat->Int->Int->Int->Int->Int->Int->Int->Int->Rows->Int->Int->β:=pr90_2_0.unc g
def E90_2g (a:Tf94_0)(b:Tf63_0):EnvK:=EnvK.ofIO [⟨94,nt94,[⟨pa94_0,Fn94_0 a⟩]⟩,⟨63,nt63,[⟨pa63_0,Fn63_0 b⟩]⟩] noSeq [(63,[0])]
def E90_2:EnvK:=E90_2g f94_0 f63_0
theorem eo90_2:E90_2.Ok Pg:=EnvK.ofIO_ok noSeq_ok ⟨⟨io94_0,TT⟩,⟨io63_0,TT⟩,TT⟩
abbrev Tf90_2:Type 1:=(α:Type)->Int->Nat->Nat->Int->Nat->Nat->Int->(Nat->Nat->Int->Int->Op α)->Op α
def f90_2g (b:Tf63_0)(c:Tf94_0)(α:Type)(a:Int)(d e:Nat)(g:Int)(h i:Nat)(j:Int)(k1:Nat->Nat->Int->Int->Op α):Op α:=
 cK (a != 0)
 (k1 0 0 0 a)
 (c α d e g h i j
 (fun l m o p=>b α
 (k1 l m o p)))
def f90_2 (α:Type)(a:Int)(b c:Nat)(d:Int)(e g:Nat)(h:Int)(k1:Nat->Nat->Int->Int->Op α):Op α:=f90_2g f63_0 f94_0 α a b c d e g h k1
def pa90_2:PT (List DV):=pA [pV false [(dMr [(dI .i64),(dI .i64),(dI .i64),(dI .i64),(dI .i64),(dI .i64),(dI .i64),dL,(dI .i64),(dI .i64)] 0)],pV false [(dFn 94 [])],pV true [(dX .f64),(dI .i64)],pV true [(dX .f64),(dI .i64)]]
def Fn90_2 (v:Tf90_2)(α:Type)(k:RT α):Int->Int->Int->Int->Int->Int->Int->Rows->Int->Int->Nat->Nat->Int->Nat->Nat->Int->Op α:=fun a b c d e g h i j l m o p q r s=>v α a m o p q r s (fun t w z A=>ur90_2_0 k t w z A b c d e g h i j l)
def cm90_2g:MCode:=(emb ac90)
def cm90_2:MCode:=cm90_2g
theorem gm90_2:cm90_2.Good Pg E90_2 sh90:=(emb_good ac90)
theorem em90_2:cm90_2.erase=ac90:=(emb_erase _)
theorem fm90_2g (a:Tf94_0)(b:Tf63_0)(α:Type)(k:RT α):Fn90_2 (f90_2g b a) α k=pa90_2.unc fun ds=>fnM Pg (E90_2g a b) sh90 (cm90_2g ) rs90 k ds:=by kernel_rfl
theorem fm90_2:∀ (α:Type) (k:RT α),Fn90_2 f90_2 α k=pa90_2.unc fun ds=>fnM Pg E90_2 sh90 cm90_2 rs90 k ds:=fm90_2g f94_0 f63_0
theorem io90_2:InstOk Pg 90 nt90 ⟨pa90_2,Fn90_2 f90_2⟩:=inst_ok eo90_2 followsTry is90 ⟨⟨sh90,cm90_2,em90_2,gm90_2,fm90_2⟩⟩
def pr90_3_0:PT (List RV):=pRs [pR true [rD (dX .f64),rD (dI .i64)],pR true [rD (dI .i64),rD (dI .i64),rD (dI .i64),rD (dI .i64),rD (dI .i64),rD (dI .i64),rD (dI .i64),rD dL,rD (dI .i64),rD (dI .i64)]]
def ur90_3_0 {β:Type}(g:List RV->β):Nat->Nat->Int->Int->Int->Int->Int->Int->Int->Int->Rows->Int->Int->β:=pr90_3_0.unc g
def E90_3g (a:Tf93_0)(b:Tf63_0):EnvK:=EnvK.ofIO [⟨93,nt93,[⟨pa93_0,Fn93_0 a⟩]⟩,⟨63,nt63,[⟨pa63_0,Fn63_0 b⟩]⟩] noSeq [(63,[0])]
def E90_3:EnvK:=E90_3g f93_0 f63_0
theorem eo90_3:E90_3.Ok Pg:=EnvK.ofIO_ok noSeq_ok ⟨⟨io93_0,TT⟩,⟨io63_0,TT⟩,TT⟩
abbrev Tf90_3:Type 1:=(α:Type)->Int->Nat->Nat->Int->Nat->Nat->Int->(Nat->Nat->Int->Int->Op α)->Op α
def f90_3g (b:Tf63_0)(c:Tf93_0)(α:Type)(a:Int)(d e:Nat)(g:Int)(h i:Nat)(j:Int)(k1:Nat->Nat->Int->Int->Op α):Op α:=
 cK (a != 0)
 (k1 0 0 0 a)
 (c α d e g h i j
 (fun l m o p=>b α
 (k1 l m o p)))
def f90_3 (α:Type)(a:Int)(b c:Nat)(d:Int)(e g:Nat)(h:Int)(k1:Nat->Nat->Int->Int->Op α):Op α:=f90_3g f63_0 f93_0 α a b c d e g h k1
def pa90_3:PT (List DV):=pA [pV false [(dMr [(dI .i64),(dI .i64),(dI .i64),(dI .i64),(dI .i64),(dI .i64),(dI .i64),dL,(dI .i64),(dI .i64)] 0)],pV false [(dFn 93 [])],pV true [(dX .f64),(dI .i64)],pV true [(dX .f64),(dI .i64)]]
def Fn90_3 (v:Tf90_3)(α:Type)(k:RT α):Int->Int->Int->Int->Int->Int->Int->Rows->Int->Int->Nat->Nat->Int->Nat->Nat->Int->Op α:=fun a b c d e g h i j l m o p q r s=>v α a m o p q r s (fun t w z A=>ur90_3_0 k t w z A b c d e g h i j l)
def cm90_3g:MCode:=(emb ac90)
def cm90_3:MCode:=cm90_3g
theorem gm90_3:cm90_3.Good Pg E90_3 sh90:=(emb_good ac90)
theorem em90_3:cm90_3.erase=ac90:=(emb_erase _)
theorem fm90_3g (a:Tf93_0)(b:Tf63_0)(α:Type)(k:RT α):Fn90_3 (f90_3g b a) α k=pa90_3.unc fun ds=>fnM Pg (E90_3g a b) sh90 (cm90_3g ) rs90 k ds:=by kernel_rfl
theorem fm90_3:∀ (α:Type) (k:RT α),Fn90_3 f90_3 α k=pa90_3.unc fun ds=>fnM Pg E90_3 sh90 cm90_3 rs90 k ds:=fm90_3g f93_0 f63_0
theorem io90_3:InstOk Pg 90 nt90 ⟨pa90_3,Fn90_3 f90_3⟩:=inst_ok eo90_3 followsTry is90 ⟨⟨sh90,cm90_3,em90_3,gm90_3,fm90_3⟩⟩
abbrev nt58:Nat:=11
def sh58:SG:=[(8,[.cpx .f64,.int .i64]),(9,[.cpx .f64,.int .i64])]
def tr58:TG:=[tT 0 [0,4,5,6],tT 1 [0,6]]
def tl58:TG:=[]
def ac58:ACode:=codeF Pg Tryz.f58 tr58 tl58
def rs58:List AResV:=resF Pg Tryz.f58
def pr58_0_0:PT (List RV):=pRs [pR true [rD (dX .f64),rD (dI .i64)],pR true [rD (dI .i64),rD (dI .i64),rD (dI .i64),rD (dI .i64),rD (dI .i64),rD (dI .i64),rD (dI .i64),rD dL,rD (dI .i64),rD (dI .i64)]]
def ur58_0_0 {β:Type}(g:List RV->β):Nat->Nat->Int->Int->Int->Int->Int->Int->Int->Int->Rows->Int->Int->β:=pr58_0_0.unc g
def E58_0g (a:Tf90_2):EnvK:=EnvK.ofIO [⟨90,nt90,[⟨pa90_2,Fn90_2 a⟩]⟩] noSeq [(90,[0])]
def E58_0:EnvK:=E58_0g f90_2
theorem eo58_0:E58_0.Ok Pg:=EnvK.ofIO_ok noSeq_ok ⟨⟨io90_2,TT⟩,TT⟩
abbrev Tf58_0:Type 1:=(α:Type)->Int->Nat->Nat->Int->Nat->Nat->Int->(Nat->Nat->Int->Int->Op α)->Op α
def f58_0g (a:Tf90_2)(α:Type)(b:Int)(c d:Nat)(e:Int)(g h:Nat)(i:Int)(k1:Nat->Nat->Int->Int->Op α):Op α:=
 a α b c d e g h i
 (fun j l m o=>k1 j l m o)
def f58_0 (α:Type)(a:Int)(b c:Nat)(d:Int)(e g:Nat)(h:Int)(k1:Nat->Nat->Int->Int->Op α):Op α:=f58_0g f90_2 α a b c d e g h k1
def pa58_0:PT (List DV):=pA [pV false [(dMr [(dI .i64),(dI .i64),(dI .i64),(dI .i64),(dI .i64),(dI .i64),(dI .i64),dL,(dI .i64),(dI .i64)] 0)],pV true [(dX .f64),(dI .i64)],pV true [(dX .f64),(dI .i64)]]
def Fn58_0 (v:Tf58_0)(α:Type)(k:RT α):Int->Int->Int->Int->Int->Int->Int->Rows->Int->Int->Nat->Nat->Int->Nat->Nat->Int->Op α:=fun a b c d e g h i j l m o p q r s=>v α a m o p q r s (fun t w z A=>ur58_0_0 k t w z A b c d e g h i j l)
def cm58_0g:MCode:=(emb ac58)
def cm58_0:MCode:=cm58_0g
theorem gm58_0:cm58_0.Good Pg E58_0 sh58:=(emb_good ac58)
theorem em58_0:cm58_0.erase=ac58:=(emb_erase _)
theorem fm58_0g (a:Tf90_2)(α:Type)(k:RT α):Fn58_0 (f58_0g a) α k=pa58_0.unc fun ds=>fnM Pg (E58_0g a) sh58 (cm58_0g ) rs58 k ds:=by kernel_rfl
theorem fm58_0:∀ (α:Type) (k:RT α),Fn58_0 f58_0 α k=pa58_0.unc fun ds=>fnM Pg E58_0 sh58 cm58_0 rs58 k ds:=fm58_0g f90_2
theorem is58:FnIs Pg 58 nt58 tr58 tl58 ac58 rs58:=codeF_is Tryz.func58 (by kernel_rfl)
theorem io58_0:InstOk Pg 58 nt58 ⟨pa58_0,Fn58_0 f58_0⟩:=inst_ok eo58_0 followsTry is58 ⟨⟨sh58,cm58_0,em58_0,gm58_0,fm58_0⟩⟩
abbrev nt56:Nat:=11
def sh56:SG:=[(8,[.cpx .f64,.int .i64]),(9,[.cpx .f64,.int .i64])]
def tr56:TG:=[tT 0 [0,4,5,6],tT 1 [0,6]]
def tl56:TG:=[]
def ac56:ACode:=codeF Pg Tryz.f56 tr56 tl56
def rs56:List AResV:=resF Pg Tryz.f56
def pr56_0_0:PT (List RV):=pRs [pR true [rD (dX .f64),rD (dI .i64)],pR true [rD (dI .i64),rD (dI .i64),rD (dI .i64),rD (dI .i64),rD (dI .i64),rD (dI .i64),rD (dI .i64),rD dL,rD (dI .i64),rD (dI .i64)]]
def ur56_0_0 {β:Type}(g:List RV->β):Nat->Nat->Int->Int->Int->Int->Int->Int->Int->Int->Rows->Int->Int->β:=pr56_0_0.unc g
def E56_0g (a:Tf90_1):EnvK:=EnvK.ofIO [⟨90,nt90,[⟨pa90_1,Fn90_1 a⟩]⟩] noSeq [(90,[0])]
def E56_0:EnvK:=E56_0g f90_1
theorem eo56_0:E56_0.Ok Pg:=EnvK.ofIO_ok noSeq_ok ⟨⟨io90_1,TT⟩,TT⟩
abbrev Tf56_0:Type 1:=(α:Type)->Int->Nat->Nat->Int->Nat->Nat->Int->(Nat->Nat->Int->Int->Op α)->Op α
def f56_0g (a:Tf90_1)(α:Type)(b:Int)(c d:Nat)(e:Int)(g h:Nat)(i:Int)(k1:Nat->Nat->Int->Int->Op α):Op α:=
 a α b c d e g h i
 (fun j l m o=>k1 j l m o)
def f56_0 (α:Type)(a:Int)(b c:Nat)(d:Int)(e g:Nat)(h:Int)(k1:Nat->Nat->Int->Int->Op α):Op α:=f56_0g f90_1 α a b c d e g h k1
def pa56_0:PT (List DV):=pA [pV false [(dMr [(dI .i64),(dI .i64),(dI .i64),(dI .i64),(dI .i64),(dI .i64),(dI .i64),dL,(dI .i64),(dI .i64)] 0)],pV true [(dX .f64),(dI .i64)],pV true [(dX .f64),(dI .i64)]]
def Fn56_0 (v:Tf56_0)(α:Type)(k:RT α):Int->Int->Int->Int->Int->Int->Int->Rows->Int->Int->Nat->Nat->Int->Nat->Nat->Int->Op α:=fun a b c d e g h i j l m o p q r s=>v α a m o p q r s (fun t w z A=>ur56_0_0 k t w z A b c d e g h i j l)
def cm56_0g:MCode:=(emb ac56)
def cm56_0:MCode:=cm56_0g
theorem gm56_0:cm56_0.Good Pg E56_0 sh56:=(emb_good ac56)
theorem em56_0:cm56_0.erase=ac56:=(emb_erase _)
theorem fm56_0g (a:Tf90_1)(α:Type)(k:RT α):Fn56_0 (f56_0g a) α k=pa56_0.unc fun ds=>fnM Pg (E56_0g a) sh56 (cm56_0g ) rs56 k ds:=by kernel_rfl
theorem fm56_0:∀ (α:Type) (k:RT α),Fn56_0 f56_0 α k=pa56_0.unc fun ds=>fnM Pg E56_0 sh56 cm56_0 rs56 k ds:=fm56_0g f90_1
theorem is56:FnIs Pg 56 nt56 tr56 tl56 ac56 rs56:=codeF_is Tryz.func56 (by kernel_rfl)
theorem io56_0:InstOk Pg 56 nt56 ⟨pa56_0,Fn56_0 f56_0⟩:=inst_ok eo56_0 followsTry is56 ⟨⟨sh56,cm56_0,em56_0,gm56_0,fm56_0⟩⟩
abbrev nt55:Nat:=11
def sh55:SG:=[(8,[.cpx .f64,.int .i64]),(9,[.cpx .f64,.int .i64])]
def tr55:TG:=[tT 0 [0,4,5,6],tT 1 [0,6]]
def tl55:TG:=[]
def ac55:ACode:=codeF Pg Tryz.f55 tr55 tl55
def rs55:List AResV:=resF Pg Tryz.f55
def pr55_0_0:PT (List RV):=pRs [pR true [rD (dX .f64),rD (dI .i64)],pR true [rD (dI .i64),rD (dI .i64),rD (dI .i64),rD (dI .i64),rD (dI .i64),rD (dI .i64),rD (dI .i64),rD dL,rD (dI .i64),rD (dI .i64)]]
def ur55_0_0 {β:Type}(g:List RV->β):Nat->Nat->Int->Int->Int->Int->Int->Int->Int->Int->Rows->Int->Int->β:=pr55_0_0.unc g
def E55_0g (a:Tf90_0):EnvK:=EnvK.ofIO [⟨90,nt90,[⟨pa90_0,Fn90_0 a⟩]⟩] noSeq [(90,[0])]
def E55_0:EnvK:=E55_0g f90_0
theorem eo55_0:E55_0.Ok Pg:=EnvK.ofIO_ok noSeq_ok ⟨⟨io90_0,TT⟩,TT⟩
abbrev Tf55_0:Type 1:=(α:Type)->Int->Nat->Nat->Int->Nat->Nat->Int->(Nat->Nat->Int->Int->Op α)->Op α
def f55_0g (a:Tf90_0)(α:Type)(b:Int)(c d:Nat)(e:Int)(g h:Nat)(i:Int)(k1:Nat->Nat->Int->Int->Op α):Op α:=
 a α b c d e g h i
 (fun j l m o=>k1 j l m o)
def f55_0 (α:Type)(a:Int)(b c:Nat)(d:Int)(e g:Nat)(h:Int)(k1:Nat->Nat->Int->Int->Op α):Op α:=f55_0g f90_0 α a b c d e g h k1
def pa55_0:PT (List DV):=pA [pV false [(dMr [(dI .i64),(dI .i64),(dI .i64),(dI .i64),(dI .i64),(dI .i64),(dI .i64),dL,(dI .i64),(dI .i64)] 0)],pV true [(dX .f64),(dI .i64)],pV true [(dX .f64),(dI .i64)]]
def Fn55_0 (v:Tf55_0)(α:Type)(k:RT α):Int->Int->Int->Int->Int->Int->Int->Rows->Int->Int->Nat->Nat->Int->Nat->Nat->Int->Op α:=fun a b c d e g h i j l m o p q r s=>v α a m o p q r s (fun t w z A=>ur55_0_0 k t w z A b c d e g h i j l)
def cm55_0g:MCode:=(emb ac55)
def cm55_0:MCode:=cm55_0g
theorem gm55_0:cm55_0.Good Pg E55_0 sh55:=(emb_good ac55)
theorem em55_0:cm55_0.erase=ac55:=(emb_erase _)
theorem fm55_0g (a:Tf90_0)(α:Type)(k:RT α):Fn55_0 (f55_0g a) α k=pa55_0.unc fun ds=>fnM Pg (E55_0g a) sh55 (cm55_0g ) rs55 k ds:=by kernel_rfl
theorem fm55_0:∀ (α:Type) (k:RT α),Fn55_0 f55_0 α k=pa55_0.unc fun ds=>fnM Pg E55_0 sh55 cm55_0 rs55 k ds:=fm55_0g f90_0
theorem is55:FnIs Pg 55 nt55 tr55 tl55 ac55 rs55:=codeF_is Tryz.func55 (by kernel_rfl)
theorem io55_0:InstOk Pg 55 nt55 ⟨pa55_0,Fn55_0 f55_0⟩:=inst_ok eo55_0 followsTry is55 ⟨⟨sh55,cm55_0,em55_0,gm55_0,fm55_0⟩⟩
abbrev nt88:Nat:=51
def sh88:SG:=[(25,[.cpx .f64,.int .i64]),(28,[.cpx .f64,.int .i64]),(34,[.cpx .f64,.int .i64]),(41,[.cpx .f64,.int .i64]),(45,[.cpx .f64,.int .i64]),(50,[.cpx .f64,.int .i64,.cpx .f64,.int .i64,.cpx .f64,.int .i64,.cpx .f64,.int .i64])]
def tr88:TG:=[tT 0 [0,4,5,6],tT 1 [0,4,5,6,7],tT 2 [0,4,5,6,7,12],tT 3 [0,4,5,6,7,12,13],tT 4 [0,4,5,6,7,8,12],tT 5 [0,4,5,6,7,8,9,10,12],tT 6 [0,4,5,6,7,8,9,10,11,12],tT 7 [0,4,5,6,7,12],tT 8 [0,4,5,6,7,12],tT 9 [0,6]]
def tl88:TG:=[tT 3 [0,4,5,6,7,12]]
def ac88:ACode:=codeF Pg Tryz.f88 tr88 tl88
def rs88:List AResV:=resF Pg Tryz.f88
def td88_9:OT:=tdC (MCode.sub [1,1,0,1,0] (emb ac88))
def pr88_0_0:PT (List RV):=pRs [pR true [rD (dX .f64),rD (dI .i64),rD (dX .f64),rD (dI .i64),rD (dX .f64),rD (dI .i64),rD (dX .f64),rD (dI .i64)],pR true [rD (dI .i64),rD (dI .i64),rD (dI .i64),rD (dI .i64),rD (dI .i64),rD (dI .i64),rD (dI .i64),rD dL,rD (dI .i64),rD (dI .i64)]]
def ur88_0_0 {β:Type}(g:List RV->β):Nat->Nat->Int->Nat->Nat->Int->Nat->Nat->Int->Nat->Nat->Int->Int->Int->Int->Int->Int->Int->Int->Rows->Int->Int->β:=pr88_0_0.unc g
def E88_0g (a:Tf56_0)(b:Tf55_0):EnvK:=EnvK.ofIO [⟨56,nt56,[⟨pa56_0,Fn56_0 a⟩]⟩,⟨55,nt55,[⟨pa55_0,Fn55_0 b⟩]⟩] noSeq [(55,[0]),(56,[0])]
def E88_0:EnvK:=E88_0g f56_0 f55_0
theorem eo88_0:E88_0.Ok Pg:=EnvK.ofIO_ok noSeq_ok ⟨⟨io56_0,TT⟩,⟨io55_0,TT⟩,TT⟩
abbrev Tf88_0:Type 1:=(α:Type)->Int->Nat->Nat->Int->Nat->Nat->Int->Nat->Nat->Int->Nat->Nat->Int->Nat->Nat->Int->Nat->Nat->Int->Nat->Nat->Int->Nat->Nat->Int->(Nat->Nat->Int->Nat->Nat->Int->Nat->Nat->Int->Nat->Nat->Int->Int->Op α)->Op α
def f88_0g (b:Tf55_0)(a:Tf56_0)(α:Type)(I:Int)(c d:Nat)(e:Int)(g h:Nat)(i:Int)(j l:Nat)(m:Int)(o p:Nat)(q:Int)(r s:Nat)(t:Int)(w z:Nat)(A:Int)(B C:Nat)(D:Int)(F G:Nat)(H:Int)(k1:Nat->Nat->Int->Nat->Nat->Int->Nat->Nat->Int->Nat->Nat->Int->Int->Op α):Op α:=
 a α I c d e r s t
 (fun J L M N=>a α N g h i B C D
 (fun O P Q R=>b α R J L M O P Q
 (fun T U V W=>a α W c d e w z A
 (fun X Y Z a0=>a α a0 g h i F G H
 (fun a1 a2 a3 a4=>b α a4 X Y Z a1 a2 a3
 (fun a5 a6 a7 a8=>a α a8 j l m r s t
 (fun a9 b0 b1 b2=>a α b2 o p q B C D
 (fun b3 b4 b5 b6=>b α b6 a9 b0 b1 b3 b4 b5
 (fun b7 b8 b9 c0=>a α c0 j l m w z A
 (fun c1 c2 c3 c4=>a α c4 o p q F G H
 (fun c5 c6 c7 c8=>b α c8 c1 c2 c3 c5 c6 c7
 (fun c9 d0 d1 d2=>k1 T U V a5 a6 a7 b7 b8 b9 c9 d0 d1 d2))))))))))))
def f88_0 (α:Type)(a:Int)(b c:Nat)(d:Int)(e g:Nat)(h:Int)(i j:Nat)(l:Int)(m o:Nat)(p:Int)(q r:Nat)(s:Int)(t w:Nat)(z:Int)(A B:Nat)(C:Int)(D F:Nat)(G:Int)(k1:Nat->Nat->Int->Nat->Nat->Int->Nat->Nat->Int->Nat->Nat->Int->Int->Op α):Op α:=f88_0g f55_0 f56_0 α a b c d e g h i j l m o p q r s t w z A B C D F G k1
def pa88_0:PT (List DV):=pA [pV false [(dMr [(dI .i64),(dI .i64),(dI .i64),(dI .i64),(dI .i64),(dI .i64),(dI .i64),dL,(dI .i64),(dI .i64)] 0)],pV true [(dX .f64),(dI .i64),(dX .f64),(dI .i64),(dX .f64),(dI .i64),(dX .f64),(dI .i64)],pV true [(dX .f64),(dI .i64),(dX .f64),(dI .i64),(dX .f64),(dI .i64),(dX .f64),(dI .i64)]]
def Fn88_0 (v:Tf88_0)(α:Type)(k:RT α):Int->Int->Int->Int->Int->Int->Int->Rows->Int->Int->Nat->Nat->Int->Nat->Nat->Int->Nat->Nat->Int->Nat->Nat->Int->Nat->Nat->Int->Nat->Nat->Int->Nat->Nat->Int->Nat->Nat->Int->Op α:=fun a b c d e g h i j l m o p q r s t w z A B C D F G H I J L M N O P Q=>v α a m o p q r s t w z A B C D F G H I J L M N O P Q (fun R T U V W X Y Z a0 a1 a2 a3 a4=>ur88_0_0 k R T U V W X Y Z a0 a1 a2 a3 a4 b c d e g h i j l)
def cm88_0g:MCode:=(MCode.put (.u 5) [1,1,0,1,0] (emb ac88))
def cm88_0:MCode:=cm88_0g
theorem gm88_0:cm88_0.Good Pg E88_0 sh88:=(put_u (by decide) (emb_good ac88))
theorem em88_0:cm88_0.erase=ac88:=((put_erase _ _).trans (emb_erase _))
theorem fm88_0g (a:Tf56_0)(b:Tf55_0)(α:Type)(k:RT α):Fn88_0 (f88_0g b a) α k=pa88_0.unc fun ds=>fnM Pg (E88_0g a b) sh88 (cm88_0g ) rs88 k ds:=by kernel_rfl
theorem fm88_0:∀ (α:Type) (k:RT α),Fn88_0 f88_0 α k=pa88_0.unc fun ds=>fnM Pg E88_0 sh88 cm88_0 rs88 k ds:=fm88_0g f56_0 f55_0
theorem is88:FnIs Pg 88 nt88 tr88 tl88 ac88 rs88:=codeF_is Tryz.func88 (by kernel_rfl)
theorem io88_0:InstOk Pg 88 nt88 ⟨pa88_0,Fn88_0 f88_0⟩:=inst_ok eo88_0 followsTry is88 ⟨⟨sh88,cm88_0,em88_0,gm88_0,fm88_0⟩⟩
end
end Go.AM.K
