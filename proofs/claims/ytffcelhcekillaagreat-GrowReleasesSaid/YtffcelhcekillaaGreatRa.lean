/- Printed by KGen. -/
import Derived.Test.YtffcelhcekillaaGreatProg
import Derived.Test.YtffcelhcekillaaGreatKS1
namespace Go.AM.K
open Go.Proofs
set_option maxRecDepth 100000
set_option linter.unusedVariables false
noncomputable section
noncomputable abbrev Pg:=Tryz.prog
abbrev I8 (t:Type):Type:=Int->Int->Int->Int->Int->Int->Int->Int->t
abbrev I15 (t:Type):Type:=Int->Int->Int->Int->Int->Int->Int->Int->Int->Int->Int->Int->Int->Int->Int->t
abbrev I25 (t:Type):Type:=Int->Int->Int->Int->Int->Int->Int->Int->Int->Int->Int->Int->Int->Int->Int->Int->Int->Int->Int->Int->Int->Int->Int->Int->Int->t
abbrev I38 (t:Type):Type:=Int->Int->Int->Int->Int->Int->Int->Int->Int->Int->Int->Int->Int->Int->Int->Int->Int->Int->Int->Int->Int->Int->Int->Int->Int->Int->Int->Int->Int->Int->Int->Int->Int->Int->Int->Int->Int->Int->t
theorem Cd:Pg.follows .mixedOrders=true:=by kernel_rfl
theorem iZ {E:aE}{f nt:Nat}{tr tl:TG}{ac:ap}{rs:List dT}{T:Type 1}{b:T}{pa:PT (List DV)}{Fn:T->(α:Type)->(List RV->Op α)->pa.Cur (Op α)}
 (hE:E.Ok Pg) (hf:tX Pg f nt tr tl ac rs) (sh:SG) (cm:ag) (em:cm.erase=ac) (gm:cm.Good Pg E sh) (fm:∀ (α:Type) (k:RT α),Fn b α k=pa.unc fun ds=>fnM Pg E sh cm rs k ds):ak Pg f nt ⟨pa,Fn (sld b)⟩:=adq hE Cd hf sh cm em gm fm
theorem iP {E:aE}{f nt:Nat}{tr tl:TG}{rs:List dT}{T:Type 1}{b:T}{pa:PT (List DV)}{Fn:T->(α:Type)->(List RV->Op α)->pa.Cur (Op α)}
 (hE:E.Ok Pg) (ac:ap) (hf:tX Pg f nt tr tl ac rs) (sh:SG) (fm:∀ (α:Type) (k:RT α),Fn b α k=pa.unc fun ds=>fnM Pg E sh (emb ac) rs k ds):ak Pg f nt ⟨pa,Fn (sld b)⟩:=adq hE Cd hf sh (emb ac) (aA _) (aD ac) fm
def Lp:SG:=[(4,iT),(6,iT)]
def aEm:TG:=[tT 0 [1],tT 1 [2]]
def aC:TG:=[]
def aDA:ap:=aw Pg Tryz.f126 aEm aC
def abF:PT (List RV):=pRs [pR false [rD dB]]
def bi {β:Type}(g:List RV->β):Bool->β:=abF.unc g
def io0:List (Nat × List Nat):=[(74,[0]),(96,[0]),(128,[0]),(129,[0]),(130,[0]),(131,[0]),(136,[0]),(153,[0]),(154,[0]),(155,[0]),(156,[0]),(157,[0]),(159,[0]),(160,[0]),(161,[0]),(162,[0]),(172,[0]),(173,[0]),(182,[0]),(183,[0]),(184,[0]),(185,[0]),(191,[0]),(205,[0]),(206,[0]),(207,[0]),(209,[0]),(213,[0]),(237,[0]),(238,[0]),(239,[0]),(240,[0]),(242,[0]),(243,[0]),(262,[0]),(263,[0]),(264,[0]),(277,[0]),(279,[0])]
noncomputable abbrev Lk0:List bE:=[]
theorem ak0:bJ Lk0 fun c=>bJ c.l (ak Pg c.f c.nt):=trivial
def Ek0:aE:=aE.ofIO Lk0 bw io0
theorem ek0:Ek0.Ok Pg:=aE.ofIO_ok aO ak0
abbrev bI:Type 1:=(α:Type)->Int->Int->(Bool->Op α)->Op α
def Tm (α:Type)(a b:Int)(k1:Bool->Op α):Op α:=
 k1 (decide (2<=(w64 (b - a))))
def pK:bI:=sld Tm
def ba:PT (List DV):=pA [pV true [(dI .i64),(dI .i64)]]
def Tx (v:bI)(α:Type)(k:RT α):Int->Int->Op α:=fun a b=>v α a b (fun c=>bi k c)
theorem amV:ak Pg 126 9 ⟨ba,Tx pK⟩:=iP ek0 aDA (ah Tryz.func126 (by kernel_rfl)) Lp fun _ _=>by kernel_rfl
def aN:SG:=[]
def aGV:TG:=[tT 0 [0,1,4],tT 1 [4]]
def aDQ:ap:=aw Pg Tryz.f103 aGV aC
def ZX:PT (List RV):=pRs [pR true [rD (dI .i64),rD (dI .i64),rD (dI .i64),rD (dI .i64)]]
def g5 {β:Type}(g:List RV->β):I4 β:=ZX.unc g
abbrev cU:Type 1:=(α:Type)->(Op α)->Op α
def Qh (α:Type)(k1:Op α):Op α:=
 k1
def jQ:cU:=sld Qh
def bq:PT (List DV):=pA [vI,vI]
def VR (v:cU)(α:Type)(k:RT α):Int->Int->Op α:=fun a b=>v α (g5 k a a b b)
theorem ams:ak Pg 103 12 ⟨bq,VR jQ⟩:=iP ek0 aDQ (ah Tryz.func103 (by kernel_rfl)) aN fun _ _=>by kernel_rfl
def avP:SG:=[(6,iT),(9,iT),(13,iT),(16,iT)]
def aFR:TG:=[tT 0 [2,3,4],tT 1 [4]]
def aAc:ap:=aw Pg Tryz.f179 aFR aC
def Z6:PT (List RV):=pRs [pR true [rD (dI .i64),rD (dI .i64)]]
def bt {β:Type}(g:List RV->β):Int->Int->β:=Z6.unc g
abbrev fT:Type 1:=(α:Type)->Int->Int->Int->Int->(Int->Int->Op α)->Op α
def To (α:Type)(a b c d:Int)(k1:Int->Int->Op α):Op α:=
 k1 (if (w64 ((w64 (1048576 - b)) - d)) > 0 then (w64 ((w64 (1048576 - b)) - d)) else 0) (if (w64 ((w64 (1048576 - a)) - c)) > 0 then (w64 ((w64 (1048576 - a)) - c)) else 0)
def nq:fT:=sld To
def fP:PT (List DV):=pA [pV true [(dI .i64),(dI .i64)],pV true [(dI .i64),(dI .i64)]]
def YB (v:fT)(α:Type)(k:RT α):I4 (Op α):=fun a b c d=>v α a b c d (fun e g=>bt k e g)
theorem apC:ak Pg 179 20 ⟨fP,YB nq⟩:=iP ek0 aAc (ah Tryz.func179 (by kernel_rfl)) avP fun _ _=>by kernel_rfl
def MW:SG:=[(7,iT),(11,[.sl]),(19,[.sl]),(21,iS 5),(23,iT)]
def aBJ:TG:=[tT 0 [1],tT 1 [1,3],tT 2 [1,3,4],tT 3 [1,3,4,13],tT 5 [1,3,4],tT 4 [1,3,4],tT 6 [2]]
def aG8:TG:=[(3,⟨[1,3,4],true,[⟨true,1,6,30106,5⟩],[]⟩)]
def Ui:ap:=aw Pg Tryz.f178 aBJ aG8
def wz:OT:=tdC (ag.sub [1,1,0,1,0] (emb Ui))
def Cr:PT St:=pS [sP 1,sl 3 (aV false [(cD dB)]),sI 4] [au 1 [xI,xI,xI,xI,xI,xI,(cD dL),xI,xI]]
def Ex {β:Type}(g:St->β):Bool->Int->Int->Int->Int->Int->Int->Int->ae->Int->Int->β:=Cr.unc g
def akN:PT St:=pS [sP 1,sl 3 (aV false [(cD dB)]),sI 4,sl 13 (aV false [(cD dB)])] [au 1 [xI,xI,xI,xI,xI,xI,(cD dL),xI,xI]]
def uP {β:Type}(g:St->β):Bool->Int->Bool->Int->Int->Int->Int->Int->Int->ae->Int->Int->β:=akN.unc g
def wx:ag:=ag.sub [1,1,0,1,0,0] (emb Ui)
def o5 (α:Type)(b:ae)(c:Bool)(a:Int)(kn:Bool->Int->Op α)(k1:Bool->Int->Bool->Op α):Op α:=
 cK (decide (a < ((List.length b:Nat):Int)))
 (cK c
 (kn true (w64 (a+1)))
 (dE b a [.int .i64,.int .i64,.int .i64,.int .i64,.int .i64]
 (fun e g h i d=>kn (d != 0) (w64 (a+1)))))
 (k1 c a (decide (a < ((List.length b:Nat):Int))))
def lM (α:Type)(a:ae)(k1:Bool->Int->Bool->Op α):Nat->Bool->Int->Op α
 | 0,_,_=>none
 | n+1,b,c=>o5 α a b c (lM α a k1 n) k1
def Fe (α:Type)(a:ae)(k1:Bool->Int->Bool->Op α)(b:Bool)(c:Int):Op α:=lM α a k1 aG b c
abbrev HC:Type 1:=(α:Type)->ae->(Bool->Int->Bool->Op α)->Bool->Int->Op α
def tn:HC:=sld Fe
def MD (v:HC)(α:Type)(K:KT α):Bool->Int->Int->Int->Int->Int->Int->Int->ae->Int->Int->Op α:=fun b c d e g h i j a l m=>v α a (fun o p q=>uP (K (.exit 0)) o p q d e g h i j a l m) b c
theorem ahb (α:Type)(K:KT α)(Kn:SK α)(a:Bool)(b d e g h i j:Int)(c:ae)(l m:Int):Ex (fun σ=>az Pg Ek0 MW wx (bM (fun σ=>br wz σ Kn) K) σ) a b d e g h i j c l m=o5 α c a b (fun a b=>Ex Kn a b d e g h i j c l m) (fun o p q=>uP (K (.exit 0)) o p q d e g h i j c l m):=by kernel_rfl
theorem aeU (α:Type)(K:KT α):∀ (n:Nat) (b:Bool) (c d e g h i j:Int) (a:ae) (l m:Int),lM α a (fun o p q=>uP (K (.exit 0)) o p q d e g h i j a l m) n b c=Ex (aK (az Pg Ek0 MW wx) wz K n) b c d e g h i j a l m:=by
 intro n
 induction n with
 | zero=>intros;rfl
 | succ n ih=>intro b c d e g h i j a l m;exact (congrArg (fun kn=>o5 α a b c kn (fun o p q=>uP (K (.exit 0)) o p q d e g h i j a l m)) (funext fun b=>funext fun c=>ih b c d e g h i j a l m)).trans (ahb α K (aK (az Pg Ek0 MW wx) wz K n) b c d e g h i j a l m).symm
theorem aew:∀ (α:Type) (K:KT α),MD tn α K=Cr.unc fun σ=>aK (az Pg Ek0 MW wx) wz K aG σ:=aY (fun α K=>funext fun a=>funext fun b=>funext fun c=>funext fun d=>funext fun e=>funext fun g=>funext fun h=>funext fun i=>funext fun j=>funext fun l=>funext fun m=>aeU α K aG a b c d e g h i j l m)
abbrev V2:Type 1:=(α:Type)->ae->Int->(Bool->Op α)->Op α
def Yy (α:Type)(a:ae)(b:Int)(k1:Bool->Op α):Op α:=
 tn α a
 (fun c d e=>k1 c) (b != 0) 0
def pL:V2:=sld Yy
def eW:PT (List DV):=pA [pV true [(dI .i64),(dI .i64),(dI .i64),(dI .i64),(dI .i64),(dI .i64),dL,(dI .i64),(dI .i64)]]
def YZ (v:V2)(α:Type)(k:RT α):Int->Int->Int->Int->Int->Int->ae->Int->Int->Op α:=fun d e g h i j a l b=>v α a b (fun c=>bi k c)
def ar0:ag:=(ag.put (.m [⟨Cr,MD tn⟩]) [1,1,0,1,0] (emb Ui))
theorem auo:ak Pg 178 27 ⟨eW,YZ pL⟩:=iZ ek0 (ah Tryz.func178 (by kernel_rfl)) MW ar0 ((an _ _).trans (aA _)) (aZ (td:=wz) (by kernel_rfl) (aD Ui) ⟨aew,trivial⟩) fun _ _=>by kernel_rfl
def KW:SG:=[(4,iT),(7,iT)]
def aBf:TG:=[tT 0 [1,2],tT 1 [2]]
def aAG:ap:=aw Pg Tryz.f177 aBf aC
abbrev dU:Type 1:=(α:Type)->Int->Int->(Int->Int->Op α)->Op α
def Za (α:Type)(a b:Int)(k1:Int->Int->Op α):Op α:=
 k1 (if a < 1048576 then a else 1048576) (if b < 1048576 then b else 1048576)
def xX:dU:=sld Za
def Qm (v:dU)(α:Type)(k:RT α):Int->Int->Op α:=fun a b=>v α a b (fun c d=>bt k c d)
theorem as2:ak Pg 177 10 ⟨ba,Qm xX⟩:=iP ek0 aAG (ah Tryz.func177 (by kernel_rfl)) KW fun _ _=>by kernel_rfl
def aGJ:TG:=[tT 0 [0],tT 1 [0]]
def aHG:ap:=aw Pg Tryz.f280 aGJ aC
def ZJ:PT (List RV):=pRs [pR true [rD (dI .i64),rD (dI .i64),rD (dI .i64)]]
def yn {β:Type}(g:List RV->β):Int->Int->Int->β:=ZJ.unc g
def Re (α:Type)(k1:Op α):Op α:=
 k1
def xi:cU:=sld Re
def kw:PT (List DV):=pA []
def T9 (v:cU)(α:Type)(k:RT α):Op α:=v α (yn k 524288 0 0)
theorem aoq:ak Pg 280 2 ⟨kw,T9 xi⟩:=iP ek0 aHG (ah Tryz.func280 (by kernel_rfl)) aN fun _ _=>by kernel_rfl
def aEn:SG:=[(5,iT),(9,iT),(14,iT),(18,iT)]
def aF6:TG:=[tT 0 [1,2],tT 1 [2]]
def aAn:ap:=aw Pg Tryz.f278 aF6 aC
abbrev AH:Type 1:=(α:Type)->Int->Int->Int->Int->(I4 (Op α))->Op α
def WQ (α:Type)(a b c d:Int)(k1:I4 (Op α)):Op α:=
 k1 (w64 (2*a)) (w64 (2*b)) (w64 (2*c)) (w64 (2*d))
def IN:AH:=sld WQ
def qW:PT (List DV):=pA [pV true [(dI .i64),(dI .i64),(dI .i64),(dI .i64)]]
def QX (v:AH)(α:Type)(k:RT α):I4 (Op α):=fun a b c d=>v α a b c d (fun e g h i=>g5 k e g h i)
theorem asI:ak Pg 278 22 ⟨qW,QX IN⟩:=iP ek0 aAn (ah Tryz.func278 (by kernel_rfl)) aEn fun _ _=>by kernel_rfl
def aAU:TG:=[tT 0 [1,2],tT 1 [2]]
def aBM:ap:=aw Pg Tryz.f175 aAU aC
def Sd (α:Type)(a b:Int)(k1:Int->Int->Op α):Op α:=
 k1 (if a > 0 then a else 0) (if b > 0 then b else 0)
def r7:dU:=sld Sd
def Sw (v:dU)(α:Type)(k:RT α):Int->Int->Op α:=fun a b=>v α a b (fun c d=>bt k c d)
theorem atO:ak Pg 175 10 ⟨ba,Sw r7⟩:=iP ek0 aBM (ah Tryz.func175 (by kernel_rfl)) KW fun _ _=>by kernel_rfl
def aEa:TG:=[tT 0 [0],tT 1 [0]]
def aGA:ap:=aw Pg Tryz.f261 aEa aC
def XO (α:Type)(k1:Op α):Op α:=
 k1
def mT:cU:=sld XO
def VQ (v:cU)(α:Type)(k:RT α):Op α:=v α (yn k 1048576 0 0)
theorem ar5:ak Pg 261 2 ⟨kw,VQ mT⟩:=iP ek0 aGA (ah Tryz.func261 (by kernel_rfl)) aN fun _ _=>by kernel_rfl
def aGt:SG:=[(4,iT),(6,iT),(9,iT),(11,iT),(15,iT),(17,iT),(20,iT),(22,iT)]
def aGl:TG:=[tT 0 [1,2],tT 1 [2]]
def aCb:ap:=aw Pg Tryz.f174 aGl aC
abbrev kf:Type 1:=(α:Type)->Int->Int->Int->(I4 (Op α))->Op α
def Qj (α:Type)(b c a:Int)(k1:I4 (Op α)):Op α:=
 k1 (w64 (b - a)) (w64 (b+a)) (w64 (c - a)) (w64 (c+a))
def nT:kf:=sld Qj
def cX:PT (List DV):=pA [pV true [(dI .i64),(dI .i64),(dI .i64)]]
def Ub (v:kf)(α:Type)(k:RT α):Int->Int->Int->Op α:=fun a b c=>v α a b c (fun d e g h=>g5 k d e g h)
theorem atR:ak Pg 174 26 ⟨cX,Ub nT⟩:=iP ek0 aCb (ah Tryz.func174 (by kernel_rfl)) aGt fun _ _=>by kernel_rfl
def aGU:TG:=[tT 0 [0],tT 1 [2]]
def aDm:ap:=aw Pg Tryz.f245 aGU aC
def aa1:PT (List RV):=pRs [wI]
def aQ {β:Type}(g:List RV->β):Int->β:=aa1.unc g
abbrev ch:Type 1:=(α:Type)->Int->(Int->Op α)->Op α
def W9 (α:Type)(a:Int)(k1:Int->Op α):Op α:=
 k1 (if (w64 (0 - a)) > a then (w64 (0 - a)) else a)
def yu:ch:=sld W9
def aU:PT (List DV):=pA [vI]
def Sc (v:ch)(α:Type)(k:RT α):Int->Op α:=fun a=>v α a (fun b=>aQ k b)
theorem arj:ak Pg 245 7 ⟨aU,Sc yu⟩:=iP ek0 aDm (ah Tryz.func245 (by kernel_rfl)) aN fun _ _=>by kernel_rfl
def aGy:TG:=[tT 0 [0],tT 1 [0,3,4],tT 2 [0,3,4,6],tT 3 [0,3,4,15],tT 4 [0,3,4],tT 5 [0,3,4],tT 6 [2]]
def aDL:TG:=[tT 2 [0,3,4]]
def Wx:ap:=aw Pg Tryz.f246 aGy aDL
def wA:OT:=tdC (ag.sub [1,1,0,0] (emb Wx))
def B0:PT St:=pS [sI 0,sI 3,sI 4] []
def A4 {β:Type}(g:St->β):Int->Int->Int->β:=B0.unc g
def adO:PT St:=pS [sI 0,sI 3,sI 4,sl 6 (aV false [(cD dB)])] []
def uF {β:Type}(g:St->β):Int->Int->Int->Bool->β:=adO.unc g
def to:ag:=ag.sub [1,1,0,0,0] (emb Wx)
def oY (α:Type)(c b a:Int)(kn:Int->Int->Op α)(k1:Int->Int->Bool->Op α):Op α:=
 cK (decide (0 < a))
 (cK (decide ((w64 ((w64 (b+a))*(w64 (b+a))))<=c))
 (kn (w64 (b+a)) (w64 (Int.tdiv a 2)))
 (kn b (w64 (Int.tdiv a 2))))
 (k1 b a (decide (0 < a)))
def lr (α:Type)(a:Int)(k1:Int->Int->Bool->Op α):Nat->Int->Int->Op α
 | 0,_,_=>none
 | n+1,b,c=>oY α a b c (lr α a k1 n) k1
def HF (α:Type)(a:Int)(k1:Int->Int->Bool->Op α)(b c:Int):Op α:=lr α a k1 aG b c
abbrev gp:Type 1:=(α:Type)->Int->(Int->Int->Bool->Op α)->Int->Int->Op α
def sH:gp:=sld HF
def Nf (v:gp)(α:Type)(K:KT α):Int->Int->Int->Op α:=fun a b c=>v α a (fun d e g=>uF (K (.exit 0)) a d e g) b c
theorem afk (α:Type)(K:KT α)(Kn:SK α)(a b c:Int):A4 (fun σ=>az Pg Ek0 aN to (bM (fun σ=>br wA σ Kn) K) σ) a b c=oY α a b c (fun b c=>A4 Kn a b c) (fun d e g=>uF (K (.exit 0)) a d e g):=by kernel_rfl
theorem ahJ (α:Type)(K:KT α):∀ (n:Nat) (a b c:Int),lr α a (fun d e g=>uF (K (.exit 0)) a d e g) n b c=A4 (aK (az Pg Ek0 aN to) wA K n) a b c:=by
 intro n
 induction n with
 | zero=>intros;rfl
 | succ n ih=>intro a b c;exact (congrArg (fun kn=>oY α a b c kn (fun d e g=>uF (K (.exit 0)) a d e g)) (funext fun b=>funext fun c=>ih a b c)).trans (afk α K (aK (az Pg Ek0 aN to) wA K n) a b c).symm
theorem aig:∀ (α:Type) (K:KT α),Nf sH α K=B0.unc fun σ=>aK (az Pg Ek0 aN to) wA K aG σ:=aY (fun α K=>funext fun a=>funext fun b=>funext fun c=>ahJ α K aG a b c)
def Vi (α:Type)(a:Int)(k1:Int->Op α):Op α:=
 sH α a
 (fun b c d=>k1 b) 0 1073741824
def dj:ch:=sld Vi
def Qg (v:ch)(α:Type)(k:RT α):Int->Op α:=fun a=>v α a (fun b=>aQ k b)
def atu:ag:=(ag.put (.m [⟨B0,Nf sH⟩]) [1,1,0,0] (emb Wx))
theorem anK:ak Pg 246 22 ⟨aU,Qg dj⟩:=iZ ek0 (ah Tryz.func246 (by kernel_rfl)) aN atu ((an _ _).trans (aA _)) (aZ (td:=wA) (by kernel_rfl) (aD Wx) ⟨aig,trivial⟩) fun _ _=>by kernel_rfl
def aGn:TG:=[tT 0 [0,1],tT 1 [0,1],tT 2 [0,1,9],tT 3 [0],tT 4 [4]]
def aGG:ap:=aw Pg Tryz.f273 aGn aC
abbrev bz:Type 1:=(α:Type)->Int->Int->(Int->Op α)->Op α
def VE (α:Type)(b a:Int)(k1:Int->Op α):Op α:=
 gK (a != 0) (cK (decide ((Int.tmod b a) < 0))
 (k1 (w64 ((Int.tmod b a)+a)))
 (k1 (Int.tmod b a)))
def kK:bz:=sld VE
def Ze (v:bz)(α:Type)(k:RT α):Int->Int->Op α:=fun a b=>v α a b (fun c=>aQ k c)
theorem atZ:ak Pg 273 14 ⟨bq,Ze kK⟩:=iP ek0 aGG (ah Tryz.func273 (by kernel_rfl)) aN fun _ _=>by kernel_rfl
def aHA:TG:=[tT 0 [0],tT 1 [3],tT 2 [2],tT 3 [2]]
def aHR:ap:=aw Pg Tryz.f269 aHA aC
abbrev zX:Type 1:=(α:Type)->Bool->(Int->Op α)->Op α
def XS (α:Type)(a:Bool)(k1:Int->Op α):Op α:=
 cK a
 (k1 1)
 (k1 0)
def mR:zX:=sld XS
def AA:PT (List DV):=pA [pV false [dB]]
def TE (v:zX)(α:Type)(k:RT α):Bool->Op α:=fun a=>v α a (fun b=>aQ k b)
theorem aq9:ak Pg 269 4 ⟨AA,TE mR⟩:=iP ek0 aHR (ah Tryz.func269 (by kernel_rfl)) aN fun _ _=>by kernel_rfl
def aA6:SG:=[(10,iT),(20,iS 3)]
def aFP:TG:=[tT 0 [0,2,4,6],tT 1 [0,2,4,6,11],tT 2 [0,6],tT 3 [0,2,4,6,14],tT 4 [0,6],tT 5 [0,6],tT 6 [0,6]]
def aHo:ap:=aw Pg Tryz.f209 aFP aC
def aaG:PT (List RV):=pRs [pR true [rD (dI .i64),rD (dI .i64),rD (dI .i64)],pR true [rD (dI .i64)]]
def ed {β:Type}(g:List RV->β):I4 β:=aaG.unc g
abbrev AD:Type 1:=(α:Type)->Int->Int->Int->Int->Int->(I4 (Op α))->Op α
def WI (α:Type)(a c d e b:Int)(k1:I4 (Op α)):Op α:=
 cK (a != 0)
 (k1 0 0 0 a)
 (cK (b != 0)
 (k1 0 0 0 b)
 (k1 c d e a))
def du:AD:=sld WI
def Wl:PT (List DV):=pA [pV false [(dMr [(dI .i64)] 0)],pV true [(dI .i64),(dI .i64),(dI .i64)],vI]
def T8 (v:AD)(α:Type)(k:RT α):I5 (Op α):=fun a b c d e=>v α a b c d e (fun g h i j=>ed k g h i j)
theorem anj:ak Pg 209 21 ⟨Wl,T8 du⟩:=iP ek0 aHo (ah Tryz.func209 (by kernel_rfl)) aA6 fun _ _=>by kernel_rfl
def aC9:SG:=[(8,iT),(10,iT),(15,[.sl]),(20,iT),(23,iT),(27,iT),(30,[.sl]),(33,iS 5),(34,iS 5)]
def aHJ:TG:=[tT 0 [1,2,4],tT 1 [1,2,4,6],tT 2 [4],tT 3 [1,2,4,17],tT 4 [4],tT 5 [4]]
def aCP:ap:=aw Pg Tryz.f208 aHJ aC
def ZE:PT (List RV):=pRs [pR true [rD (dI .i64),rD (dI .i64),rD (dI .i64),rD (dI .i64),rD (dI .i64)]]
def aaB {β:Type}(g:List RV->β):I5 β:=ZE.unc g
abbrev VC:Type 1:=(α:Type)->Int->ae->Int->Int->Int->(I5 (Op α))->Op α
def WM (α:Type)(b:Int)(c:ae)(d e a:Int)(k1:I5 (Op α)):Op α:=
 cK (a == 0)
 (k1 b b 0 0 0)
 (cK (decide (((List.length c:Nat):Int) < a))
 (k1 d d 0 0 e)
 (dE c (w64 (a - 1)) [.int .i64,.int .i64,.int .i64,.int .i64,.int .i64]
 (fun g h i j l=>k1 g h i j l)))
def rY:VC:=sld WM
def Ye:PT (List DV):=pA [pV true [(dI .i64),(dI .i64),(dI .i64),(dI .i64),(dI .i64),(dI .i64),dL,(dI .i64),(dI .i64)],vI]
def Vq (v:VC)(α:Type)(k:RT α):Int->Int->Int->Int->Int->Int->ae->Int->Int->Int->Op α:=fun a m o p q r b c d e=>v α a b c d e (fun g h i j l=>aaB k g h i j l)
theorem aoR:ak Pg 208 35 ⟨Ye,Vq rY⟩:=iP ek0 aCP (ah Tryz.func208 (by kernel_rfl)) aC9 fun _ _=>by kernel_rfl
def aG7:SG:=[(4,iS 2),(6,iS 2)]
def aJ1:TG:=[tT 0 [1,2],tT 1 [2]]
def aKp:ap:=aw Pg Tryz.f75 aJ1 aC
def agy (α:Type)(k1:Op α):Op α:=
 k1
def Mv:cU:=sld agy
def la:PT (List DV):=pA [pV true [(dI .i64),(dI .i64),(dI .i64),(dI .i64),(dI .i64),(dI .i64),(dI .i64),(dI .i64),(dI .i64)]]
def ahn (v:cU)(α:Type)(k:RT α):I9 (Op α):=fun e g h a b c d i j=>v α (g5 k c d a b)
theorem azK:ak Pg 75 8 ⟨la,ahn Mv⟩:=iP ek0 aKp (ah Tryz.func75 (by kernel_rfl)) aG7 fun _ _=>by kernel_rfl
def aD0:TG:=[tT 0 [0],tT 1 [2]]
def aF8:ap:=aw Pg Tryz.f122 aD0 aC
abbrev cW:Type 1:=(α:Type)->Int->(Bool->Op α)->Op α
def Qt (α:Type)(a:Int)(k1:Bool->Op α):Op α:=
 cK (a == 0)
 (k1 true)
 (k1 (a == 1))
def CY:cW:=sld Qt
def TV (v:cW)(α:Type)(k:RT α):Int->Op α:=fun a=>v α a (fun b=>bi k b)
theorem atQ:ak Pg 122 9 ⟨aU,TV CY⟩:=iP ek0 aF8 (ah Tryz.func122 (by kernel_rfl)) aN fun _ _=>by kernel_rfl
def aKe:TG:=[tT 0 [0,1],tT 1 [0,1,5],tT 2 [5,12],tT 3 [5],tT 4 [4]]
def aJb:ap:=aw Pg Tryz.f91 aKe aC
def PB (α:Type)(b a:Int)(k1:Int->Op α):Op α:=
 gK (a != 0) (gK (a != 0) (cK (decide ((Int.tmod b a) < 0))
 (k1 (w64 ((w64 (Int.tdiv b a)) - 1)))
 (k1 (w64 (Int.tdiv b a)))))
def dC:bz:=sld PB
def ad3 (v:bz)(α:Type)(k:RT α):Int->Int->Op α:=fun a b=>v α a b (fun c=>aQ k c)
theorem axC:ak Pg 91 16 ⟨bq,ad3 dC⟩:=iP ek0 aJb (ah Tryz.func91 (by kernel_rfl)) aN fun _ _=>by kernel_rfl
def aCn:TG:=[tT 0 [1],tT 1 [2]]
def aHm:ap:=aw Pg Tryz.f150 aCn aC
def Tt (α:Type)(a b:Int)(k1:Bool->Op α):Op α:=
 k1 (decide (2<=(w64 (b - a))))
def pI:bI:=sld Tt
def Rj (v:bI)(α:Type)(k:RT α):Int->Int->Op α:=fun a b=>v α a b (fun c=>bi k c)
theorem anv:ak Pg 150 9 ⟨ba,Rj pI⟩:=iP ek0 aHm (ah Tryz.func150 (by kernel_rfl)) Lp fun _ _=>by kernel_rfl
def aIY:TG:=[tT 0 [0,1,4],tT 1 [4]]
def aKm:ap:=aw Pg Tryz.f43 aIY aC
def akg (α:Type)(k1:Op α):Op α:=
 k1
def lF:cU:=sld akg
def aj7 (v:cU)(α:Type)(k:RT α):Int->Int->Op α:=fun a b=>v α (g5 k a a b b)
theorem awC:ak Pg 43 12 ⟨bq,aj7 lF⟩:=iP ek0 aKm (ah Tryz.func43 (by kernel_rfl)) aN fun _ _=>by kernel_rfl
def aFc:TG:=[tT 0 [1],tT 1 [2]]
def aDy:ap:=aw Pg Tryz.f118 aFc aC
def Ux (α:Type)(a b:Int)(k1:Int->Op α):Op α:=
 k1 (Int.fdiv (w64 (a+b)) (2 ^ 1))
def eE:bz:=sld Ux
def Us (v:bz)(α:Type)(k:RT α):Int->Int->Op α:=fun a b=>v α a b (fun c=>aQ k c)
theorem aqU:ak Pg 118 9 ⟨ba,Us eE⟩:=iP ek0 aDy (ah Tryz.func118 (by kernel_rfl)) Lp fun _ _=>by kernel_rfl
def aEQ:TG:=[tT 0 [2,3,4],tT 1 [4]]
def aGD:ap:=aw Pg Tryz.f137 aEQ aC
def Xw (α:Type)(a b c d:Int)(k1:Int->Int->Op α):Op α:=
 k1 (if (w64 ((w64 (1048576 - b)) - d)) > 0 then (w64 ((w64 (1048576 - b)) - d)) else 0) (if (w64 ((w64 (1048576 - a)) - c)) > 0 then (w64 ((w64 (1048576 - a)) - c)) else 0)
def oh:fT:=sld Xw
def W6 (v:fT)(α:Type)(k:RT α):I4 (Op α):=fun a b c d=>v α a b c d (fun e g=>bt k e g)
theorem aqO:ak Pg 137 20 ⟨fP,W6 oh⟩:=iP ek0 aGD (ah Tryz.func137 (by kernel_rfl)) avP fun _ _=>by kernel_rfl
def aHz:TG:=[tT 0 [1,2],tT 1 [2]]
def aEI:ap:=aw Pg Tryz.f134 aHz aC
def Vj (α:Type)(a b:Int)(k1:Int->Int->Op α):Op α:=
 k1 (if 1048576 < a then 1048576 else a) (if 1048576 < b then 1048576 else b)
def yD:dU:=sld Vj
def YQ (v:dU)(α:Type)(k:RT α):Int->Int->Op α:=fun a b=>v α a b (fun c d=>bt k c d)
theorem asE:ak Pg 134 10 ⟨ba,YQ yD⟩:=iP ek0 aEI (ah Tryz.func134 (by kernel_rfl)) KW fun _ _=>by kernel_rfl
def aHr:TG:=[tT 0 [0],tT 1 [0,3],tT 2 [0,3,7],tT 3 [0,3],tT 4 [2]]
def aFa:TG:=[tT 2 [0,3]]
def UV:ap:=aw Pg Tryz.f275 aHr aFa
def w7:OT:=tdC (ag.sub [1,1,0,0] (emb UV))
def jR:PT St:=pS [sI 0,sI 3] []
def gL {β:Type}(g:St->β):Int->Int->β:=jR.unc g
def akV:PT St:=pS [sI 0,sI 3,sl 7 (aV false [(cD dB)])] []
def vD {β:Type}(g:St->β):Int->Int->Bool->β:=akV.unc g
def wE:ag:=ag.sub [1,1,0,0,0] (emb UV)
def oN (α:Type)(b a:Int)(kn:Int->Op α)(k1:Int->Bool->Op α):Op α:=
 gK (decide (0<=a)) (cK (decide ((w64 (1048576*2 ^ (min (Int.toNat a) 64))) < b))
 (kn (w64 (a+1)))
 (k1 a (decide ((w64 (1048576*2 ^ (min (Int.toNat a) 64))) < b))))
def lU (α:Type)(a:Int)(k1:Int->Bool->Op α):Nat->Int->Op α
 | 0,_=>none
 | n+1,b=>oN α a b (lU α a k1 n) k1
def Gg (α:Type)(a:Int)(k1:Int->Bool->Op α)(b:Int):Op α:=lU α a k1 aG b
abbrev jf:Type 1:=(α:Type)->Int->(Int->Bool->Op α)->Int->Op α
def ub:jf:=sld Gg
def LL (v:jf)(α:Type)(K:KT α):Int->Int->Op α:=fun a b=>v α a (fun c d=>vD (K (.exit 0)) a c d) b
theorem ah8 (α:Type)(K:KT α)(Kn:SK α)(a b:Int):gL (fun σ=>az Pg Ek0 aN wE (bM (fun σ=>br w7 σ Kn) K) σ) a b=oN α a b (fun b=>gL Kn a b) (fun c d=>vD (K (.exit 0)) a c d):=by kernel_rfl
theorem agE (α:Type)(K:KT α):∀ (n:Nat) (a b:Int),lU α a (fun c d=>vD (K (.exit 0)) a c d) n b=gL (aK (az Pg Ek0 aN wE) w7 K n) a b:=by
 intro n
 induction n with
 | zero=>intros;rfl
 | succ n ih=>intro a b;exact (congrArg (fun kn=>oN α a b kn (fun c d=>vD (K (.exit 0)) a c d)) (funext fun b=>ih a b)).trans (ah8 α K (aK (az Pg Ek0 aN wE) w7 K n) a b).symm
theorem ahG:∀ (α:Type) (K:KT α),LL ub α K=jR.unc fun σ=>aK (az Pg Ek0 aN wE) w7 K aG σ:=aY (fun α K=>funext fun a=>funext fun b=>agE α K aG a b)
def VD (α:Type)(a:Int)(k1:Int->Op α):Op α:=
 ub α a
 (fun b c=>k1 b) 0
def yK:ch:=sld VD
def Xx (v:ch)(α:Type)(k:RT α):Int->Op α:=fun a=>v α a (fun b=>aQ k b)
def apG:ag:=(ag.put (.m [⟨jR,LL ub⟩]) [1,1,0,0] (emb UV))
theorem amL:ak Pg 275 11 ⟨aU,Xx yK⟩:=iZ ek0 (ah Tryz.func275 (by kernel_rfl)) aN apG ((an _ _).trans (aA _)) (aZ (td:=w7) (by kernel_rfl) (aD UV) ⟨ahG,trivial⟩) fun _ _=>by kernel_rfl
def aHO:TG:=[tT 0 [1,2],tT 1 [2]]
def aDt:ap:=aw Pg Tryz.f133 aHO aC
def XU (α:Type)(a b:Int)(k1:Int->Int->Op α):Op α:=
 k1 (if a > 0 then a else 0) (if b > 0 then b else 0)
def mo:dU:=sld XU
def P9 (v:dU)(α:Type)(k:RT α):Int->Int->Op α:=fun a b=>v α a b (fun c d=>bt k c d)
theorem ar3:ak Pg 133 10 ⟨ba,P9 mo⟩:=iP ek0 aDt (ah Tryz.func133 (by kernel_rfl)) KW fun _ _=>by kernel_rfl
def aH1:TG:=[tT 0 [0],tT 1 [0]]
def az6:ap:=aw Pg Tryz.f181 aH1 aC
def aaM:PT (List RV):=pRs [pR true [rD (dX .f64),rD (dI .i64)]]
def GY {β:Type}(g:List RV->β):Nat->Nat->Int->β:=aaM.unc g
def Wr (α:Type)(k1:Op α):Op α:=
 k1
def DL:cU:=sld Wr
def Ty (v:cU)(α:Type)(k:RT α):Op α:=v α (GY k 0 0 0)
theorem anM:ak Pg 181 2 ⟨kw,Ty DL⟩:=iP ek0 az6 (ah Tryz.func181 (by kernel_rfl)) aN fun _ _=>by kernel_rfl
def aEH:TG:=[tT 0 [0],tT 1 [0]]
def aHP:ap:=aw Pg Tryz.f180 aEH aC
def Io (α:Type)(k1:Op α):Op α:=
 k1
def mX:cU:=sld Io
def U5 (v:cU)(α:Type)(k:RT α):Op α:=v α (GY k 4697254411347427328 0 0)
theorem aqC:ak Pg 180 2 ⟨kw,U5 mX⟩:=iP ek0 aHP (ah Tryz.func180 (by kernel_rfl)) aN fun _ _=>by kernel_rfl
def aCO:TG:=[tT 0 [1,2],tT 1 [2]]
def aGe:ap:=aw Pg Tryz.f224 aCO aC
def Rm (α:Type)(a:Int)(k1:Int->Op α):Op α:=
 k1 (w64 (0 - a))
def Ik:ch:=sld Rm
def YH (v:ch)(α:Type)(k:RT α):Int->Int->Op α:=fun a b=>v α b (fun c=>bt k a c)
theorem apR:ak Pg 224 9 ⟨ba,YH Ik⟩:=iP ek0 aGe (ah Tryz.func224 (by kernel_rfl)) Lp fun _ _=>by kernel_rfl
def aBo:SG:=[(6,iT),(10,iT)]
def aFm:TG:=[tT 0 [0,1,3],tT 1 [3]]
def aGg:ap:=aw Pg Tryz.f190 aFm aC
def Wy (α:Type)(a b:Int)(k1:Int->Int->Op α):Op α:=
 k1 (w64 (a - b)) (w64 (a+b))
def Dl:dU:=sld Wy
def Tc:PT (List DV):=pA [vI,pV false [(dP [(dI .i64),(dI .i64),(dI .i64)] 0)]]
def Rq (v:dU)(α:Type)(k:RT α):I4 (Op α):=fun a e g b=>v α a b (fun c d=>bt k c d)
theorem arO:ak Pg 190 13 ⟨Tc,Rq Dl⟩:=iP ek0 aGg (ah Tryz.func190 (by kernel_rfl)) aBo fun _ _=>by kernel_rfl
def aHa:TG:=[tT 0 [0,2],tT 1 [0,2,4],tT 2 [0],tT 3 [0,2],tT 4 [0,2,8],tT 5 [0,2],tT 6 [0,2],tT 7 [0,2,14],tT 8 [0,2],tT 9 [0,2],tT 10 [2]]
def M9:ap:=aw Pg Tryz.f276 aHa aC
def jA:PT St:=pS [sl 0 (aV false [(cD (dI .u64))]),sI 2] []
def nM {β:Type}(g:St->β):Int->Int->β:=jA.unc g
def Dp:PT St:=pS [sl 0 (aV false [(cD (dI .u64))]),sI 2,sl 4 (aV false [(cD dB)])] []
def al3 {β:Type}(g:St->β):Int->Int->Bool->β:=Dp.unc g
def Bp:PT St:=pS [sl 0 (aV false [(cD (dI .u64))]),sI 2,sl 8 (aV false [(cD dB)])] []
def K1 {β:Type}(g:St->β):Int->Int->Bool->β:=Bp.unc g
def adz:PT St:=pS [sl 0 (aV false [(cD (dI .u64))]),sI 2,sl 14 (aV false [(cD dB)])] []
def KO {β:Type}(g:St->β):Int->Int->Bool->β:=adz.unc g
def Fh:ag:=ag.sub [1,1,1,0] (emb M9)
abbrev gn:Type 1:=(α:Type)->Int->Int->(Int->Int->Op α)->(Bool->Op α)->Op α
def yc (α:Type)(a b:Int)(k1:Int->Int->Op α)(k2:Bool->Op α):Op α:=
 cK (decide (256<=a))
 (k1 (Int.fdiv a (2 ^ 8)) (w64 (b+8)))
 (k2 (decide (256<=a)))
def im:gn:=sld yc
def Mq (v:gn)(α:Type)(K:KT α):Int->Int->Op α:=fun b c=>v α b c (fun a d=>nM (K .normal) a d) (fun a=>KO (K .normal) b c a)
theorem ad5:∀ (α:Type) (K:KT α),Mq im α K=jA.unc fun σ=>az Pg Ek0 aN Fh K σ:=aY (fun α K=>by kernel_rfl)
def xt (α:Type)(a b:Int)(k1:Int->Int->Op α)(k2:Bool->Op α):Op α:=
 cK (decide (256<=a))
 (k1 (Int.fdiv a (2 ^ 8)) (w64 (b+8)))
 (k2 (decide (256<=a)))
def ie:gn:=sld xt
def LI (v:gn)(α:Type)(K:KT α):Int->Int->Bool->Op α:=fun b c e=>v α b c (fun a d=>nM (K .normal) a d) (fun a=>KO (K .normal) b c a)
theorem aiP:∀ (α:Type) (K:KT α),LI ie α K=Bp.unc fun σ=>az Pg Ek0 aN Fh K σ:=aY (fun α K=>by kernel_rfl)
def HK:ag:=ag.sub [1,1,0] (emb M9)
def xT (α:Type)(a b:Int)(k1:Int->Int->Op α)(k2:Bool->Op α):Op α:=
 cK (decide (65536<=a))
 (k1 (Int.fdiv a (2 ^ 16)) (w64 (b+16)))
 (k2 (decide (65536<=a)))
def jl:gn:=sld xT
def LE (v:gn)(α:Type)(K:KT α):Int->Int->Op α:=fun b c=>v α b c (fun a d=>nM (K .normal) a d) (fun a=>K1 (K .normal) b c a)
theorem aja:∀ (α:Type) (K:KT α),LE jl α K=jA.unc fun σ=>az Pg Ek0 aN HK K σ:=aY (fun α K=>by kernel_rfl)
def xz (α:Type)(a b:Int)(k1:Int->Int->Op α)(k2:Bool->Op α):Op α:=
 cK (decide (65536<=a))
 (k1 (Int.fdiv a (2 ^ 16)) (w64 (b+16)))
 (k2 (decide (65536<=a)))
def jN:gn:=sld xz
def NU (v:gn)(α:Type)(K:KT α):Int->Int->Bool->Op α:=fun b c e=>v α b c (fun a d=>nM (K .normal) a d) (fun a=>K1 (K .normal) b c a)
theorem agS:∀ (α:Type) (K:KT α),NU jN α K=Dp.unc fun σ=>az Pg Ek0 aN HK K σ:=aY (fun α K=>by kernel_rfl)
def aeV:ag:=ag.sub [1,0] (emb M9)
abbrev i8:Type 1:=(α:Type)->Int->(Int->Op α)->(Bool->Op α)->Op α
def xj (α:Type)(a:Int)(k1:Int->Op α)(k2:Bool->Op α):Op α:=
 cK (decide (4294967296<=a))
 (k1 (Int.fdiv a (2 ^ 32)))
 (k2 (decide (4294967296<=a)))
def jo:i8:=sld xj
def K5 (v:i8)(α:Type)(K:KT α):Int->Int->Op α:=fun b c=>v α b (fun a=>nM (K .normal) a 32) (fun a=>al3 (K .normal) b c a)
theorem alQ:∀ (α:Type) (K:KT α),K5 jo α K=jA.unc fun σ=>az Pg Ek0 aN aeV K σ:=aY (fun α K=>by kernel_rfl)
def iN (α:Type)(a:Int)(k1:Int->Op α):Op α:=
 jo α a
 (fun b=>jl α b 32
 (fun c d=>im α c d
 (fun h i=>ni (⟨#[0,1,2,2,3,3,3,3,4,4,4,4,4,4,4,4,5,5,5,5,5,5,5,5,5,5,5,5,5,5,5,5,6,6,6,6,6,6,6,6,6,6,6,6,6,6,6,6,6,6,6,6,6,6,6,6,6,6,6,6,6,6,6,6,7,7,7,7,7,7,7,7,7,7,7,7,7,7,7,7,7,7,7,7,7,7,7,7,7,7,7,7,7,7,7,7,7,7,7,7,7,7,7,7,7,7,7,7,7,7,7,7,7,7,7,7,7,7,7,7,7,7,7,7,7,7,7,7,8,8,8,8,8,8,8,8,8,8,8,8,8,8,8,8,8,8,8,8,8,8,8,8,8,8,8,8,8,8,8,8,8,8,8,8,8,8,8,8,8,8,8,8,8,8,8,8,8,8,8,8,8,8,8,8,8,8,8,8,8,8,8,8,8,8,8,8,8,8,8,8,8,8,8,8,8,8,8,8,8,8,8,8,8,8,8,8,8,8,8,8,8,8,8,8,8,8,8,8,8,8,8,8,8,8,8,8,8,8,8,8,8,8,8,8,8,8,8,8,8,8,8,8,8,8,8,8]⟩:BA) (IntKind.wrap .u8 (h))
 (fun j=>k1 (w64 (i+(w64 (((UInt8.toNat j:Nat):Int)))))))
 (fun D=>ni (⟨#[0,1,2,2,3,3,3,3,4,4,4,4,4,4,4,4,5,5,5,5,5,5,5,5,5,5,5,5,5,5,5,5,6,6,6,6,6,6,6,6,6,6,6,6,6,6,6,6,6,6,6,6,6,6,6,6,6,6,6,6,6,6,6,6,7,7,7,7,7,7,7,7,7,7,7,7,7,7,7,7,7,7,7,7,7,7,7,7,7,7,7,7,7,7,7,7,7,7,7,7,7,7,7,7,7,7,7,7,7,7,7,7,7,7,7,7,7,7,7,7,7,7,7,7,7,7,7,7,8,8,8,8,8,8,8,8,8,8,8,8,8,8,8,8,8,8,8,8,8,8,8,8,8,8,8,8,8,8,8,8,8,8,8,8,8,8,8,8,8,8,8,8,8,8,8,8,8,8,8,8,8,8,8,8,8,8,8,8,8,8,8,8,8,8,8,8,8,8,8,8,8,8,8,8,8,8,8,8,8,8,8,8,8,8,8,8,8,8,8,8,8,8,8,8,8,8,8,8,8,8,8,8,8,8,8,8,8,8,8,8,8,8,8,8,8,8,8,8,8,8,8,8,8,8,8,8]⟩:BA) (IntKind.wrap .u8 (c))
 (fun l=>k1 (w64 (d+(w64 (((UInt8.toNat l:Nat):Int))))))))
 (fun F=>ie α b 32
 (fun m o=>ni (⟨#[0,1,2,2,3,3,3,3,4,4,4,4,4,4,4,4,5,5,5,5,5,5,5,5,5,5,5,5,5,5,5,5,6,6,6,6,6,6,6,6,6,6,6,6,6,6,6,6,6,6,6,6,6,6,6,6,6,6,6,6,6,6,6,6,7,7,7,7,7,7,7,7,7,7,7,7,7,7,7,7,7,7,7,7,7,7,7,7,7,7,7,7,7,7,7,7,7,7,7,7,7,7,7,7,7,7,7,7,7,7,7,7,7,7,7,7,7,7,7,7,7,7,7,7,7,7,7,7,8,8,8,8,8,8,8,8,8,8,8,8,8,8,8,8,8,8,8,8,8,8,8,8,8,8,8,8,8,8,8,8,8,8,8,8,8,8,8,8,8,8,8,8,8,8,8,8,8,8,8,8,8,8,8,8,8,8,8,8,8,8,8,8,8,8,8,8,8,8,8,8,8,8,8,8,8,8,8,8,8,8,8,8,8,8,8,8,8,8,8,8,8,8,8,8,8,8,8,8,8,8,8,8,8,8,8,8,8,8,8,8,8,8,8,8,8,8,8,8,8,8,8,8,8,8,8,8]⟩:BA) (IntKind.wrap .u8 (m))
 (fun p=>k1 (w64 (o+(w64 (((UInt8.toNat p:Nat):Int)))))))
 (fun G=>ni (⟨#[0,1,2,2,3,3,3,3,4,4,4,4,4,4,4,4,5,5,5,5,5,5,5,5,5,5,5,5,5,5,5,5,6,6,6,6,6,6,6,6,6,6,6,6,6,6,6,6,6,6,6,6,6,6,6,6,6,6,6,6,6,6,6,6,7,7,7,7,7,7,7,7,7,7,7,7,7,7,7,7,7,7,7,7,7,7,7,7,7,7,7,7,7,7,7,7,7,7,7,7,7,7,7,7,7,7,7,7,7,7,7,7,7,7,7,7,7,7,7,7,7,7,7,7,7,7,7,7,8,8,8,8,8,8,8,8,8,8,8,8,8,8,8,8,8,8,8,8,8,8,8,8,8,8,8,8,8,8,8,8,8,8,8,8,8,8,8,8,8,8,8,8,8,8,8,8,8,8,8,8,8,8,8,8,8,8,8,8,8,8,8,8,8,8,8,8,8,8,8,8,8,8,8,8,8,8,8,8,8,8,8,8,8,8,8,8,8,8,8,8,8,8,8,8,8,8,8,8,8,8,8,8,8,8,8,8,8,8,8,8,8,8,8,8,8,8,8,8,8,8,8,8,8,8,8,8]⟩:BA) (IntKind.wrap .u8 (b))
 (fun q=>k1 (w64 (32+(w64 (((UInt8.toNat q:Nat):Int)))))))))
 (fun H=>jN α a 0
 (fun e g=>im α e g
 (fun r s=>ni (⟨#[0,1,2,2,3,3,3,3,4,4,4,4,4,4,4,4,5,5,5,5,5,5,5,5,5,5,5,5,5,5,5,5,6,6,6,6,6,6,6,6,6,6,6,6,6,6,6,6,6,6,6,6,6,6,6,6,6,6,6,6,6,6,6,6,7,7,7,7,7,7,7,7,7,7,7,7,7,7,7,7,7,7,7,7,7,7,7,7,7,7,7,7,7,7,7,7,7,7,7,7,7,7,7,7,7,7,7,7,7,7,7,7,7,7,7,7,7,7,7,7,7,7,7,7,7,7,7,7,8,8,8,8,8,8,8,8,8,8,8,8,8,8,8,8,8,8,8,8,8,8,8,8,8,8,8,8,8,8,8,8,8,8,8,8,8,8,8,8,8,8,8,8,8,8,8,8,8,8,8,8,8,8,8,8,8,8,8,8,8,8,8,8,8,8,8,8,8,8,8,8,8,8,8,8,8,8,8,8,8,8,8,8,8,8,8,8,8,8,8,8,8,8,8,8,8,8,8,8,8,8,8,8,8,8,8,8,8,8,8,8,8,8,8,8,8,8,8,8,8,8,8,8,8,8,8,8]⟩:BA) (IntKind.wrap .u8 (r))
 (fun t=>k1 (w64 (s+(w64 (((UInt8.toNat t:Nat):Int)))))))
 (fun I=>ni (⟨#[0,1,2,2,3,3,3,3,4,4,4,4,4,4,4,4,5,5,5,5,5,5,5,5,5,5,5,5,5,5,5,5,6,6,6,6,6,6,6,6,6,6,6,6,6,6,6,6,6,6,6,6,6,6,6,6,6,6,6,6,6,6,6,6,7,7,7,7,7,7,7,7,7,7,7,7,7,7,7,7,7,7,7,7,7,7,7,7,7,7,7,7,7,7,7,7,7,7,7,7,7,7,7,7,7,7,7,7,7,7,7,7,7,7,7,7,7,7,7,7,7,7,7,7,7,7,7,7,8,8,8,8,8,8,8,8,8,8,8,8,8,8,8,8,8,8,8,8,8,8,8,8,8,8,8,8,8,8,8,8,8,8,8,8,8,8,8,8,8,8,8,8,8,8,8,8,8,8,8,8,8,8,8,8,8,8,8,8,8,8,8,8,8,8,8,8,8,8,8,8,8,8,8,8,8,8,8,8,8,8,8,8,8,8,8,8,8,8,8,8,8,8,8,8,8,8,8,8,8,8,8,8,8,8,8,8,8,8,8,8,8,8,8,8,8,8,8,8,8,8,8,8,8,8,8,8]⟩:BA) (IntKind.wrap .u8 (e))
 (fun w=>k1 (w64 (g+(w64 (((UInt8.toNat w:Nat):Int))))))))
 (fun J=>ie α a 0
 (fun z A=>ni (⟨#[0,1,2,2,3,3,3,3,4,4,4,4,4,4,4,4,5,5,5,5,5,5,5,5,5,5,5,5,5,5,5,5,6,6,6,6,6,6,6,6,6,6,6,6,6,6,6,6,6,6,6,6,6,6,6,6,6,6,6,6,6,6,6,6,7,7,7,7,7,7,7,7,7,7,7,7,7,7,7,7,7,7,7,7,7,7,7,7,7,7,7,7,7,7,7,7,7,7,7,7,7,7,7,7,7,7,7,7,7,7,7,7,7,7,7,7,7,7,7,7,7,7,7,7,7,7,7,7,8,8,8,8,8,8,8,8,8,8,8,8,8,8,8,8,8,8,8,8,8,8,8,8,8,8,8,8,8,8,8,8,8,8,8,8,8,8,8,8,8,8,8,8,8,8,8,8,8,8,8,8,8,8,8,8,8,8,8,8,8,8,8,8,8,8,8,8,8,8,8,8,8,8,8,8,8,8,8,8,8,8,8,8,8,8,8,8,8,8,8,8,8,8,8,8,8,8,8,8,8,8,8,8,8,8,8,8,8,8,8,8,8,8,8,8,8,8,8,8,8,8,8,8,8,8,8,8]⟩:BA) (IntKind.wrap .u8 (z))
 (fun B=>k1 (w64 (A+(w64 (((UInt8.toNat B:Nat):Int)))))))
 (fun L=>ni (⟨#[0,1,2,2,3,3,3,3,4,4,4,4,4,4,4,4,5,5,5,5,5,5,5,5,5,5,5,5,5,5,5,5,6,6,6,6,6,6,6,6,6,6,6,6,6,6,6,6,6,6,6,6,6,6,6,6,6,6,6,6,6,6,6,6,7,7,7,7,7,7,7,7,7,7,7,7,7,7,7,7,7,7,7,7,7,7,7,7,7,7,7,7,7,7,7,7,7,7,7,7,7,7,7,7,7,7,7,7,7,7,7,7,7,7,7,7,7,7,7,7,7,7,7,7,7,7,7,7,8,8,8,8,8,8,8,8,8,8,8,8,8,8,8,8,8,8,8,8,8,8,8,8,8,8,8,8,8,8,8,8,8,8,8,8,8,8,8,8,8,8,8,8,8,8,8,8,8,8,8,8,8,8,8,8,8,8,8,8,8,8,8,8,8,8,8,8,8,8,8,8,8,8,8,8,8,8,8,8,8,8,8,8,8,8,8,8,8,8,8,8,8,8,8,8,8,8,8,8,8,8,8,8,8,8,8,8,8,8,8,8,8,8,8,8,8,8,8,8,8,8,8,8,8,8,8,8]⟩:BA) (IntKind.wrap .u8 (a))
 (fun C=>k1 (w64 (0+(w64 (((UInt8.toNat C:Nat):Int)))))))))
def gC:ch:=sld iN
def Ao:PT (List DV):=pA [pV false [(dI .u64)]]
def X0 (v:ch)(α:Type)(k:RT α):Int->Op α:=fun a=>v α a (fun b=>aQ k b)
def at0:ag:=(ag.put (.m [⟨jA,K5 jo⟩]) [1] (ag.put (.m [⟨jA,LE jl⟩,⟨Dp,NU jN⟩]) [1,1] (ag.put (.m [⟨jA,Mq im⟩,⟨Bp,LI ie⟩]) [1,1,1] (emb M9))))
theorem aug:ak Pg 276 25 ⟨Ao,X0 gC⟩:=iZ ek0 (ah Tryz.func276 (by kernel_rfl)) aN at0 ((an _ _).trans ((an _ _).trans ((an _ _).trans (aA _)))) (aL (by kernel_rfl) (aL (by kernel_rfl) (aL (by kernel_rfl) (aD M9) ⟨ad5,aiP,trivial⟩) ⟨aja,agS,trivial⟩) ⟨alQ,trivial⟩) fun _ _=>by kernel_rfl
def azZ:TG:=[tT 0 [0,1],tT 1 [0,1,6],tT 2 [0,1,6,7],tT 3 [0,1,6,7,8],tT 4 [0,1,6,7,8,9],tT 5 [0,1,6,7,8,9,10],tT 6 [0,1,6,7,9,11],tT 7 [0,1,6,7,9,11,12],tT 8 [0,1,6,7,9,12,13],tT 9 [0,1,7,9,12,13],tT 10 [0,1,4],tT 11 [4,5]]
def aGP:ap:=aw Pg Tryz.f147 azZ aC
def ZS:PT (List RV):=pRs [pR false [rD (dI .u64)],pR false [rD (dI .u64)]]
def GV {β:Type}(g:List RV->β):Int->Int->β:=ZS.unc g
def YX (α:Type)(a b:Int)(k1:Int->Int->Op α):Op α:=
 k1 (IntKind.wrap .u64 ((IntKind.wrap .u64 ((IntKind.wrap .u64 ((Int.fdiv a (2 ^ 32))*(Int.fdiv b (2 ^ 32))))+(Int.fdiv (IntKind.wrap .u64 ((IntKind.wrap .u64 ((Int.fdiv a (2 ^ 32))*(mL .u64 b 4294967295)))+(Int.fdiv (IntKind.wrap .u64 ((mL .u64 a 4294967295)*(mL .u64 b 4294967295))) (2 ^ 32)))) (2 ^ 32))))+(Int.fdiv (IntKind.wrap .u64 ((mL .u64 (IntKind.wrap .u64 ((IntKind.wrap .u64 ((Int.fdiv a (2 ^ 32))*(mL .u64 b 4294967295)))+(Int.fdiv (IntKind.wrap .u64 ((mL .u64 a 4294967295)*(mL .u64 b 4294967295))) (2 ^ 32)))) 4294967295)+(IntKind.wrap .u64 ((mL .u64 a 4294967295)*(Int.fdiv b (2 ^ 32)))))) (2 ^ 32)))) (IntKind.wrap .u64 (a*b))
def xS:dU:=sld YX
def YG:PT (List DV):=pA [pV false [(dI .u64)],pV false [(dI .u64)]]
def SS (v:dU)(α:Type)(k:RT α):Int->Int->Op α:=fun a b=>v α a b (fun c d=>GV k c d)
theorem ao2:ak Pg 147 51 ⟨YG,SS xS⟩:=iP ek0 aGP (ah Tryz.func147 (by kernel_rfl)) aN fun _ _=>by kernel_rfl
def aFA:TG:=[tT 0 [0],tT 1 [2]]
def aH7:ap:=aw Pg Tryz.f199 aFA aC
def TX (α:Type)(a:Int)(k1:Int->Op α):Op α:=
 k1 (if (w64 (0 - a)) > a then (w64 (0 - a)) else a)
def oS:ch:=sld TX
def QA (v:ch)(α:Type)(k:RT α):Int->Op α:=fun a=>v α a (fun b=>aQ k b)
theorem auT:ak Pg 199 7 ⟨aU,QA oS⟩:=iP ek0 aH7 (ah Tryz.func199 (by kernel_rfl)) aN fun _ _=>by kernel_rfl
def avu:SG:=[(6,iT),(8,iT),(11,iT),(13,iT)]
def aF0:TG:=[tT 0 [2,3,4],tT 1 [4]]
def aEA:ap:=aw Pg Tryz.f228 aF0 aC
def X6 (α:Type)(a b c d:Int)(k1:Int->Int->Op α):Op α:=
 k1 (w64 (a - c)) (w64 (b - d))
def Ip:fT:=sld X6
def QW (v:fT)(α:Type)(k:RT α):I4 (Op α):=fun a b c d=>v α a b c d (fun e g=>bt k e g)
theorem atj:ak Pg 228 16 ⟨fP,QW Ip⟩:=iP ek0 aEA (ah Tryz.func228 (by kernel_rfl)) avu fun _ _=>by kernel_rfl
def aB1:TG:=[tT 0 [0],tT 1 [2]]
def aFY:ap:=aw Pg Tryz.f233 aB1 aC
def ZM:PT (List RV):=pRs [pR false [rD (dF .f64)]]
def yO {β:Type}(g:List RV->β):Nat->β:=ZM.unc g
abbrev Az:Type 1:=(α:Type)->Nat->(Nat->Op α)->Op α
def VM (α:Type)(a:Nat)(k1:Nat->Op α):Op α:=
 flK ((FloatKind.format .f64).sqrt a)
 (fun b=>k1 b)
def JI:Az:=sld VM
def kg:PT (List DV):=pA [pV false [(dF .f64)]]
def UW (v:Az)(α:Type)(k:RT α):Nat->Op α:=fun a=>v α a (fun b=>yO k b)
theorem asK:ak Pg 233 5 ⟨kg,UW JI⟩:=iP ek0 aFY (ah Tryz.func233 (by kernel_rfl)) aN fun _ _=>by kernel_rfl
def ajD:SG:=[(4,iT),(6,iT),(9,iT),(11,iT)]
def aEC:TG:=[tT 0 [1],tT 1 [2]]
def aCo:ap:=aw Pg Tryz.f225 aEC aC
def wN (α:Type)(a b:Int)(k1:Int->Op α):Op α:=
 k1 (w64 ((w64 (a*a))+(w64 (b*b))))
def jq:bz:=sld wN
def Qo (v:bz)(α:Type)(k:RT α):Int->Int->Op α:=fun a b=>v α a b (fun c=>aQ k c)
theorem atK:ak Pg 225 14 ⟨ba,Qo jq⟩:=iP ek0 aCo (ah Tryz.func225 (by kernel_rfl)) ajD fun _ _=>by kernel_rfl
def aDC:SG:=[(6,iT),(8,iT),(11,iT),(13,iT),(17,iT),(19,iT),(22,iT),(24,iT)]
def aBs:TG:=[tT 0 [2,3,4],tT 1 [4]]
def aEY:ap:=aw Pg Tryz.f220 aBs aC
def JK (α:Type)(a b c d:Int)(k1:Int->Int->Op α):Op α:=
 k1 (w64 ((w64 (a*c)) - (w64 (b*d)))) (w64 ((w64 (a*d))+(w64 (b*c))))
def yk:fT:=sld JK
def PU (v:fT)(α:Type)(k:RT α):I4 (Op α):=fun a b c d=>v α a b c d (fun e g=>bt k e g)
theorem apm:ak Pg 220 28 ⟨fP,PU yk⟩:=iP ek0 aEY (ah Tryz.func220 (by kernel_rfl)) aDC fun _ _=>by kernel_rfl
def aAl:TG:=[tT 0 [2,3,4],tT 1 [4]]
def aGL:ap:=aw Pg Tryz.f218 aAl aC
def IA (α:Type)(a b c d:Int)(k1:Int->Int->Op α):Op α:=
 k1 (w64 (a+c)) (w64 (b+d))
def xl:fT:=sld IA
def Rd (v:fT)(α:Type)(k:RT α):I4 (Op α):=fun a b c d=>v α a b c d (fun e g=>bt k e g)
theorem atl:ak Pg 218 16 ⟨fP,Rd xl⟩:=iP ek0 aGL (ah Tryz.func218 (by kernel_rfl)) avu fun _ _=>by kernel_rfl
def MR:SG:=[(9,iT),(12,iT),(15,iS 2)]
def aG4:TG:=[tT 0 [1,2,4],tT 1 [2,4,5,6],tT 2 [2,4,5,6,7],tT 3 [2,4,5,6],tT 4 [2,4,5,6],tT 5 [4]]
def aCL:TG:=[tT 2 [2,4,5,6]]
def Um:ap:=aw Pg Tryz.f231 aG4 aCL
def v3:OT:=tdC (ag.sub [1,0,1,0] (emb Um))
def CI:PT St:=pS [sP 2,sP 4,sI 5,sI 6] [au 2 [xI,xI],au 4 [xI,xI]]
def Dd {β:Type}(g:St->β):I6 β:=CI.unc g
def ahg:PT St:=pS [sP 2,sP 4,sI 5,sI 6,sl 7 (aV false [(cD dB)])] [au 2 [xI,xI],au 4 [xI,xI]]
def sE {β:Type}(g:St->β):Int->Int->Bool->I4 β:=ahg.unc g
def ww:ag:=ag.sub [1,0,1,0,0] (emb Um)
def pP (α:Type)(b a c d:Int)(kn:Int->Int->Int->Op α)(k1:Int->Bool->Int->Int->Op α):Op α:=
 cK (decide (a < b))
 (kn (w64 (a+1)) (w64 (0 - d)) c)
 (k1 a (decide (a < b)) c d)
def nW (α:Type)(a:Int)(k1:Int->Bool->Int->Int->Op α):Nat->Int->Int->Int->Op α
 | 0,_,_,_=>none
 | n+1,b,c,d=>pP α a b c d (nW α a k1 n) k1
def yF (α:Type)(a:Int)(k1:Int->Bool->Int->Int->Op α)(b c d:Int):Op α:=nW α a k1 aG b c d
abbrev qD:Type 1:=(α:Type)->Int->(Int->Bool->Int->Int->Op α)->Int->Int->Int->Op α
def oW:qD:=sld yF
def Of (v:qD)(α:Type)(K:KT α):I6 (Op α):=fun a b c d e g=>v α a (fun h i j l=>sE (K (.exit 0)) a h i j l e g) b c d
theorem acm (α:Type)(K:KT α)(Kn:SK α)(a b c d e g:Int):Dd (fun σ=>az Pg Ek0 MR ww (bM (fun σ=>br v3 σ Kn) K) σ) a b c d e g=pP α a b c d (fun b c d=>Dd Kn a b c d e g) (fun h i j l=>sE (K (.exit 0)) a h i j l e g):=by kernel_rfl
theorem acT (α:Type)(K:KT α):∀ (n:Nat) (a b c d e g:Int),nW α a (fun h i j l=>sE (K (.exit 0)) a h i j l e g) n b c d=Dd (aK (az Pg Ek0 MR ww) v3 K n) a b c d e g:=by
 intro n
 induction n with
 | zero=>intros;rfl
 | succ n ih=>intro a b c d e g;exact (congrArg (fun kn=>pP α a b c d kn (fun h i j l=>sE (K (.exit 0)) a h i j l e g)) (funext fun b=>funext fun c=>funext fun d=>ih a b c d e g)).trans (acm α K (aK (az Pg Ek0 MR ww) v3 K n) a b c d e g).symm
theorem aea:∀ (α:Type) (K:KT α),Of oW α K=CI.unc fun σ=>aK (az Pg Ek0 MR ww) v3 K aG σ:=aY (fun α K=>funext fun a=>funext fun b=>funext fun c=>funext fun d=>funext fun e=>funext fun g=>acT α K aG a b c d e g)
abbrev fU:Type 1:=(α:Type)->Int->Int->Int->(Int->Int->Op α)->Op α
def IQ (α:Type)(a b c:Int)(k1:Int->Int->Op α):Op α:=
 oW α c
 (fun g h d e=>k1 d e) 0 a b
def jM:fU:=sld IQ
def zR:PT (List DV):=pA [pV true [(dI .i64),(dI .i64)],vI]
def Ug (v:fU)(α:Type)(k:RT α):Int->Int->Int->Op α:=fun a b c=>v α a b c (fun d e=>bt k d e)
def atV:ag:=(ag.put (.m [⟨CI,Of oW⟩]) [1,0,1,0] (emb Um))
theorem apo:ak Pg 231 16 ⟨zR,Ug jM⟩:=iZ ek0 (ah Tryz.func231 (by kernel_rfl)) MR atV ((an _ _).trans (aA _)) (aZ (td:=v3) (by kernel_rfl) (aD Um) ⟨aea,trivial⟩) fun _ _=>by kernel_rfl
def aDO:TG:=[tT 0 [0,2],tT 1 [2]]
def aBO:ap:=aw Pg Tryz.f236 aDO aC
abbrev Rl:Type 1:=(α:Type)->Nat->Nat->(Int->Int->Op α)->Op α
def RL (α:Type)(a b:Nat)(k1:Int->Int->Op α):Op α:=
 ivK (f2i .f64 a .i64)
 (fun c=>ivK (f2i .f64 b .i64)
 (fun d=>k1 c d))
def JN:Rl:=sld RL
def Xm:PT (List DV):=pA [pV false [(dX .f64)]]
def Uj (v:Rl)(α:Type)(k:RT α):Nat->Nat->Op α:=fun a b=>v α a b (fun c d=>bt k c d)
theorem am2:ak Pg 236 10 ⟨Xm,Uj JN⟩:=iP ek0 aBO (ah Tryz.func236 (by kernel_rfl)) aN fun _ _=>by kernel_rfl
def aBg:TG:=[tT 0 [0],tT 1 [2]]
def aHb:ap:=aw Pg Tryz.f109 aBg aC
def JW (α:Type)(a:Nat)(k1:Nat->Op α):Op α:=
 k1 (Int.toNat (zG .u64 ((a:Nat):Int) 9223372036854775808))
def xY:Az:=sld JW
def Si (v:Az)(α:Type)(k:RT α):Nat->Op α:=fun a=>v α a (fun b=>yO k b)
theorem aqm:ak Pg 109 7 ⟨kg,Si xY⟩:=iP ek0 aHb (ah Tryz.func109 (by kernel_rfl)) aN fun _ _=>by kernel_rfl
def aKL:TG:=[tT 0 [0],tT 1 [2],tT 2 [2]]
def aKA:ap:=aw Pg Tryz.f83 aKL aC
def aeY:PT (List RV):=pRs [pR false [rD (aKv .f64)]]
def aks {β:Type}(g:List RV->β):β:=aeY.unc g
abbrev aed:Type 1:=(α:Type)->Nat->(Op α)->(Nat->Op α)->Op α
def agN (α:Type)(a:Nat)(k1:Op α)(k2:Nat->Op α):Op α:=
 cK (bL .f64 a)
 (k1)
 (k2 (ny a))
def RK:aed:=sld agN
def alZ (v:aed)(α:Type)(k:RT α):Nat->Op α:=fun a=>v α a (aks k ) (fun b=>yO k b)
theorem awl:ak Pg 83 7 ⟨kg,alZ RK⟩:=iP ek0 aKA (ah Tryz.func83 (by kernel_rfl)) aN fun _ _=>by kernel_rfl
def aDe:TG:=[tT 0 [0],tT 1 [3],tT 2 [2],tT 3 [2]]
def az0:ap:=aw Pg Tryz.f222 aDe aC
def AX (α:Type)(a:Bool)(k1:Int->Op α):Op α:=
 cK a
 (k1 1)
 (k1 0)
def ju:zX:=sld AX
def Sz (v:zX)(α:Type)(k:RT α):Bool->Op α:=fun a=>v α a (fun b=>aQ k b)
theorem apy:ak Pg 222 4 ⟨AA,Sz ju⟩:=iP ek0 az0 (ah Tryz.func222 (by kernel_rfl)) aN fun _ _=>by kernel_rfl
def aDW:SG:=[(11,[.cpx .f64,.int .i64])]
def aH8:TG:=[tT 0 [0,2,4,6],tT 1 [0,4,6],tT 2 [0,6]]
def aEt:ap:=aw Pg Tryz.f162 aH8 aC
def abZ:PT (List RV):=pRs [pR true [rD (dX .f64),rD (dI .i64)],pR true [rD (dI .i64),rD (dI .i64),rD (dI .i64),rD (dI .i64),rD (dI .i64),rD (dI .i64),rD (dI .i64),rD dL,rD (dI .i64),rD (dI .i64)]]
def cG {β:Type}(g:List RV->β):Nat->Nat->Int->Int->Int->Int->Int->Int->Int->Int->ae->Int->Int->β:=abZ.unc g
def ia (α:Type)(k1:Op α):Op α:=
 k1
def dR:cU:=sld ia
def Uf:PT (List DV):=pA [pV false [(dMr [(dI .i64),(dI .i64),(dI .i64),(dI .i64),(dI .i64),(dI .i64),(dI .i64),dL,(dI .i64),(dI .i64)] 0)],pV true [(dX .f64),(dI .i64)],vI]
def QV (v:cU)(α:Type)(k:RT α):Int->Int->Int->Int->Int->Int->Int->ae->Int->Int->Nat->Nat->Int->Int->Op α:=fun q a b c d e g h i j l m o p=>v α (cG k l m o p a b c d e g h i j)
theorem anz:ak Pg 162 12 ⟨Uf,QV dR⟩:=iP ek0 aEt (ah Tryz.func162 (by kernel_rfl)) aDW fun _ _=>by kernel_rfl
def aGN:TG:=[tT 0 [1],tT 1 [2]]
def aB4:ap:=aw Pg Tryz.f258 aGN aC
def aaO:PT (List RV):=pRs [pR false [rD (dX .f64)]]
def abD {β:Type}(g:List RV->β):Nat->Nat->β:=aaO.unc g
abbrev Vh:Type 1:=(α:Type)->Int->Int->(Nat->Nat->Op α)->Op α
def W0 (α:Type)(a b:Int)(k1:Nat->Nat->Op α):Op α:=
 k1 (FloatKind.nearest .f64 a) (FloatKind.nearest .f64 b)
def IY:Vh:=sld W0
def R6 (v:Vh)(α:Type)(k:RT α):Int->Int->Op α:=fun a b=>v α a b (fun c d=>abD k c d)
theorem anN:ak Pg 258 10 ⟨ba,R6 IY⟩:=iP ek0 aB4 (ah Tryz.func258 (by kernel_rfl)) KW fun _ _=>by kernel_rfl
def aAz:TG:=[tT 0 [0,1],tT 1 [0,1,5],tT 2 [5,12],tT 3 [5],tT 4 [4]]
def aAH:ap:=aw Pg Tryz.f167 aAz aC
def Jh (α:Type)(b a:Int)(k1:Int->Op α):Op α:=
 gK (a != 0) (gK (a != 0) (cK (decide ((Int.tmod b a) < 0))
 (k1 (w64 ((w64 (Int.tdiv b a)) - 1)))
 (k1 (w64 (Int.tdiv b a)))))
def fV:bz:=sld Jh
def Wn (v:bz)(α:Type)(k:RT α):Int->Int->Op α:=fun a b=>v α a b (fun c=>aQ k c)
theorem aqV:ak Pg 167 16 ⟨bq,Wn fV⟩:=iP ek0 aAH (ah Tryz.func167 (by kernel_rfl)) aN fun _ _=>by kernel_rfl
def aET:TG:=[tT 0 [0,1,2],tT 1 [6]]
def aC6:ap:=aw Pg Tryz.f203 aET aC
abbrev cg:Type 1:=(α:Type)->Int->Int->Int->(Bool->Op α)->Op α
def Iz (α:Type)(a b c:Int)(k1:Bool->Op α):Op α:=
 cK (decide (b<=a))
 (k1 (decide (a<=c)))
 (k1 false)
def kU:cg:=sld Iz
def eT:PT (List DV):=pA [vI,vI,vI]
def U0 (v:cg)(α:Type)(k:RT α):Int->Int->Int->Op α:=fun a b c=>v α a b c (fun d=>bi k d)
theorem arq:ak Pg 203 15 ⟨eT,U0 kU⟩:=iP ek0 aC6 (ah Tryz.func203 (by kernel_rfl)) aN fun _ _=>by kernel_rfl
def aG1:TG:=[tT 0 [0,1],tT 1 [4]]
def aFN:ap:=aw Pg Tryz.f135 aG1 aC
def VA (α:Type)(b a:Int)(k1:Int->Op α):Op α:=
 gK (a != 0) (k1 (w64 (Int.tdiv b a)))
def jF:bz:=sld VA
def XF (v:bz)(α:Type)(k:RT α):Int->Int->Op α:=fun a b=>v α a b (fun c=>aQ k c)
theorem am6:ak Pg 135 8 ⟨bq,XF jF⟩:=iP ek0 aFN (ah Tryz.func135 (by kernel_rfl)) aN fun _ _=>by kernel_rfl
def aCZ:SG:=[(14,iT),(19,iT),(27,[.sl]),(34,[.sl]),(37,iS 5),(38,iS 5),(40,iS 2),(42,iT),(48,iT),(54,iT),(61,iT)]
def aAf:TG:=[tT 0 [0,1,4],tT 1 [0,1,4,7],tT 2 [0,4,5],tT 3 [0,1,4,21],tT 4 [0,4,6],tT 5 [0,4,5],tT 6 [0,4,5]]
def aFZ:ap:=aw Pg Tryz.f161 aAf aC
def aah:PT (List RV):=pRs [pR true [rD (dI .i64),rD (dI .i64)],wI,pR true [rD (dI .i64),rD (dI .i64),rD (dI .i64),rD (dI .i64),rD (dI .i64),rD (dI .i64),rD (dI .i64),rD dL,rD (dI .i64),rD (dI .i64)]]
def aaK {β:Type}(g:List RV->β):Int->Int->Int->Int->Int->Int->Int->Int->Int->Int->ae->Int->Int->β:=aah.unc g
abbrev Tj:Type 1:=(α:Type)->Int->ae->Int->Int->Int->(Int->Int->Int->Op α)->Op α
def QU (α:Type)(b:Int)(c:ae)(d e a:Int)(k1:Int->Int->Int->Op α):Op α:=
 cK (a == 0)
 (k1 b b 0)
 (cK (decide (a<=((List.length c:Nat):Int)))
 (dE c (w64 (a - 1)) [.int .i64,.int .i64,.int .i64,.int .i64,.int .i64]
 (fun g h j l i=>k1 g h i))
 (k1 d d e))
def rN:Tj:=sld QU
def hH:PT (List DV):=pA [pV false [(dMr [(dI .i64),(dI .i64),(dI .i64),(dI .i64),(dI .i64),(dI .i64),(dI .i64),dL,(dI .i64),(dI .i64)] 0)],vI]
def RJ (v:Tj)(α:Type)(k:RT α):Int->Int->Int->Int->Int->Int->Int->ae->Int->Int->Int->Op α:=fun e a g h i j l b c d m=>v α a b c d m (fun o p q=>aaK k o p q e a g h i j l b c d)
theorem aoj:ak Pg 161 62 ⟨hH,RJ rN⟩:=iP ek0 aFZ (ah Tryz.func161 (by kernel_rfl)) aCZ fun _ _=>by kernel_rfl
def aJx:SG:=[(8,iT),(10,iS 2),(12,iT),(14,iS 2),(16,[.sl]),(18,iS 2)]
def aJL:TG:=[(0,⟨[3,4,5,6],true,[⟨true,6,6,30606,5⟩],[]⟩),(1,⟨[6],true,[⟨true,6,6,30606,5⟩],[]⟩)]
def aII:ap:=aw Pg Tryz.f94 aJL aC
def ajI:PT (List RV):=pRs [pR true [rD (dI .i64),rD (dI .i64),rD (dI .i64),rD (dI .i64),rD (dI .i64),rD (dI .i64),rD dL,rD (dI .i64),rD (dI .i64)]]
def adh {β:Type}(g:List RV->β):Int->Int->Int->Int->Int->Int->ae->Int->Int->β:=ajI.unc g
def OE (α:Type)(k1:Op α):Op α:=
 k1
def Fy:cU:=sld OE
def xM:PT (List DV):=pA [pV true [dL,dL,(dI .i64),(dI .i64)],pV true [(dI .i64),(dI .i64),(dI .i64),(dI .i64),(dI .i64),(dI .i64),(dI .i64),(dI .i64),(dI .i64)],pV true [(dI .i64),(dI .i64),(dI .i64),(dI .i64)]]
def aiQ (v:cU)(α:Type)(k:RT α):ae->ae->I15 (Op α):=fun l a b c m d e o p q r s t g h i j=>v α (adh k e i j d g h a b c)
theorem awX:ak Pg 94 20 ⟨xM,aiQ Fy⟩:=iP ek0 aII (ah Tryz.func94 (by kernel_rfl)) aJx fun _ _=>by kernel_rfl
def aJI:TG:=[tT 0 [1,2],tT 1 [2]]
def aKb:ap:=aw Pg Tryz.f95 aJI aC
def OG (α:Type)(k1:Op α):Op α:=
 k1
def F9:cU:=sld OG
def ago (v:cU)(α:Type)(k:RT α):I9 (Op α):=fun e g h a b c d i j=>v α (g5 k c d a b)
theorem axE:ak Pg 95 8 ⟨la,ago F9⟩:=iP ek0 aKb (ah Tryz.func95 (by kernel_rfl)) aG7 fun _ _=>by kernel_rfl
def aK6:TG:=[tT 0 [0,1,2],tT 1 [6]]
def aKn:ap:=aw Pg Tryz.f41 aK6 aC
def aiF (α:Type)(a b c:Int)(k1:Bool->Op α):Op α:=
 cK (decide (b<=a))
 (k1 (decide (a<=c)))
 (k1 false)
def iD:cg:=sld aiF
def adA (v:cg)(α:Type)(k:RT α):Int->Int->Int->Op α:=fun a b c=>v α a b c (fun d=>bi k d)
theorem azr:ak Pg 41 15 ⟨eT,adA iD⟩:=iP ek0 aKn (ah Tryz.func41 (by kernel_rfl)) aN fun _ _=>by kernel_rfl
def aK8:TG:=[tT 0 [0,1],tT 1 [4]]
def aJ8:ap:=aw Pg Tryz.f81 aK8 aC
def aeK (α:Type)(b a:Int)(k1:Int->Op α):Op α:=
 gK (a != 0) (k1 (w64 (Int.tdiv (w64 ((w64 (b+a)) - 1)) a)))
def ne:bz:=sld aeK
def ael (v:bz)(α:Type)(k:RT α):Int->Int->Op α:=fun a b=>v α a b (fun c=>aQ k c)
theorem aym:ak Pg 81 11 ⟨bq,ael ne⟩:=iP ek0 aJ8 (ah Tryz.func81 (by kernel_rfl)) aN fun _ _=>by kernel_rfl
def aKx:TG:=[tT 0 [0,1,2],tT 1 [6]]
def aIU:ap:=aw Pg Tryz.f80 aKx aC
def afA (α:Type)(a b c:Int)(k1:Bool->Op α):Op α:=
 cK (decide (b<=a))
 (k1 (decide (a<=c)))
 (k1 false)
def pk:cg:=sld afA
def aeE (v:cg)(α:Type)(k:RT α):Int->Int->Int->Op α:=fun a b c=>v α a b c (fun d=>bi k d)
theorem ayO:ak Pg 80 15 ⟨eT,aeE pk⟩:=iP ek0 aIU (ah Tryz.func80 (by kernel_rfl)) aN fun _ _=>by kernel_rfl
def aLc:TG:=[tT 0 [0,1,2],tT 1 [6]]
def aKU:ap:=aw Pg Tryz.f29 aLc aC
def afe (α:Type)(a b c:Int)(k1:Bool->Op α):Op α:=
 cK (decide (b<=a))
 (k1 (decide (a<=c)))
 (k1 false)
def rj:cg:=sld afe
def ajZ (v:cg)(α:Type)(k:RT α):Int->Int->Int->Op α:=fun a b c=>v α a b c (fun d=>bi k d)
theorem axP:ak Pg 29 15 ⟨eT,ajZ rj⟩:=iP ek0 aKU (ah Tryz.func29 (by kernel_rfl)) aN fun _ _=>by kernel_rfl
def aI4:TG:=[tT 0 [0],(1,⟨[2],true,[⟨false,2,0,20002,2⟩],[]⟩)]
def aIR:ap:=aw Pg Tryz.f32 aI4 aC
def akZ:PT (List RV):=pRs [pR false [rO 2]]
def akD {β:Type}(g:List RV->β):ae->β:=akZ.unc g
abbrev HQ:Type 1:=(α:Type)->ae->(ae->Op α)->Op α
def afx (α:Type)(a:ae)(k1:ae->Op α):Op α:=
 gK (cj 2 16 ([]:ae) a) (k1 (([]:ae)++a))
def TM:HQ:=sld afx
def ox:PT (List DV):=pA [pV false [dL]]
def afg (v:HQ)(α:Type)(k:RT α):ae->Op α:=fun a=>v α a (fun b=>akD k b)
theorem awY:ak Pg 32 6 ⟨ox,afg TM⟩:=iP ek0 aIR (ah Tryz.func32 (by kernel_rfl)) aN fun _ _=>by kernel_rfl
def aJN:TG:=[tT 0 [0],(1,⟨[2],true,[⟨false,2,0,20002,3⟩],[]⟩)]
def aJr:ap:=aw Pg Tryz.f31 aJN aC
def alI:PT (List RV):=pRs [pR false [rO 3]]
def afi {β:Type}(g:List RV->β):ae->β:=alI.unc g
def ahV (α:Type)(a:ae)(k1:ae->Op α):Op α:=
 gK (cj 3 24 ([]:ae) a) (k1 (([]:ae)++a))
def Y2:HQ:=sld ahV
def adS (v:HQ)(α:Type)(k:RT α):ae->Op α:=fun a=>v α a (fun b=>afi k b)
theorem axH:ak Pg 31 6 ⟨ox,adS Y2⟩:=iP ek0 aJr (ah Tryz.func31 (by kernel_rfl)) aN fun _ _=>by kernel_rfl
def tr8:TG:=[tT 0 [0,1,2],tT 1 [6]]
def ac8:ap:=aw Pg Tryz.f8 tr8 aC
def VP (α:Type)(a b c:Int)(k1:Bool->Op α):Op α:=
 cK (decide (b<=a))
 (k1 (decide (a<=c)))
 (k1 false)
def cS:cg:=sld VP
def avl (v:cg)(α:Type)(k:RT α):Int->Int->Int->Op α:=fun a b c=>v α a b c (fun d=>bi k d)
theorem aCq:ak Pg 8 15 ⟨eT,avl cS⟩:=iP ek0 ac8 (ah Tryz.func8 (by kernel_rfl)) aN fun _ _=>by kernel_rfl
def aJl:SG:=[(4,[.sl]),(9,[.sl]),(14,[.sl]),(21,[.sl]),(27,[.sl])]
def aK0:TG:=[tT 0 [1],tT 1 [2]]
def aKV:ap:=aw Pg Tryz.f28 aK0 aC
abbrev I2:Type 1:=(α:Type)->ae->ae->ae->(Bool->Op α)->Op α
def acr (α:Type)(a b c:ae)(k1:Bool->Op α):Op α:=
 cK (decide (((List.length a:Nat):Int)<=6))
 (cK (decide (((List.length b:Nat):Int)<=44))
 (k1 (decide (((List.length c:Nat):Int)<=3)))
 (k1 false))
 (cK (decide (40 < ((List.length a:Nat):Int)))
 (cK (decide (((List.length a:Nat):Int)<=42))
 (cK (decide (((List.length b:Nat):Int)<=44))
 (k1 (decide (((List.length c:Nat):Int)<=3)))
 (k1 false))
 (k1 false))
 (k1 false))
def Q3:I2:=sld acr
def fx:PT (List DV):=pA [pV true [dL,dL,(dI .i64),dL,(dI .i64),(dI .i64)]]
def akq (v:I2)(α:Type)(k:RT α):ae->ae->Int->ae->Int->Int->Op α:=fun a b e c g h=>v α a b c (fun d=>bi k d)
theorem awj:ak Pg 28 31 ⟨fx,akq Q3⟩:=iP ek0 aKV (ah Tryz.func28 (by kernel_rfl)) aJl fun _ _=>by kernel_rfl
def avq:SG:=[(5,iS 2),(10,iT),(13,iT),(17,iT),(20,iT),(25,iS 2),(31,iS 2)]
def aEr:TG:=[tT 0 [1],tT 1 [1,29],tT 2 [2,3],tT 3 [2,3]]
def adI:ap:=aw Pg Tryz.f104 aEr aC
def Cl:PT St:=pS [sP 1] [au 1 (xs 4)]
def aFV {β:Type}(g:St->β):I4 β:=Cl.unc g
def aeg:PT St:=pS [sl 2 (aV false [(cD dB)]),sl 3 (aV false [(cD dB)])] []
def aiC {β:Type}(g:St->β):Bool->Bool->β:=aeg.unc g
def acC:PT St:=pS [sP 1,sl 29 (aV false [(cD dB)])] [au 1 (xs 4)]
def adM {β:Type}(g:St->β):Bool->I4 β:=acC.unc g
def abC:PT (List RV):=pRs [pR false [rD dB],pR false [rD dB]]
def aax {β:Type}(g:List RV->β):Bool->Bool->β:=abC.unc g
noncomputable abbrev Lk1:List bE:=⟨126,9,[⟨ba,Tx pK⟩]⟩::⟨91,16,[⟨bq,ad3 dC⟩]⟩::⟨273,14,[⟨bq,Ze kK⟩]⟩::⟨246,22,[⟨aU,Qg dj⟩]⟩::⟨8,15,[⟨eT,avl cS⟩]⟩::⟨118,9,[⟨ba,Us eE⟩]⟩::⟨150,9,[⟨ba,Rj pI⟩]⟩::⟨161,62,[⟨hH,RJ rN⟩]⟩::⟨203,15,[⟨eT,U0 kU⟩]⟩::⟨276,25,[⟨Ao,X0 gC⟩]⟩::⟨228,16,[⟨fP,QW Ip⟩]⟩::⟨167,16,[⟨bq,Wn fV⟩]⟩::⟨233,5,[⟨kg,UW JI⟩]⟩::⟨218,16,[⟨fP,Rd xl⟩]⟩::⟨109,7,[⟨kg,Si xY⟩]⟩::⟨80,15,[⟨eT,aeE pk⟩]⟩::⟨41,15,[⟨eT,adA iD⟩]⟩::⟨29,15,[⟨eT,ajZ rj⟩]⟩::⟨31,6,[⟨ox,adS Y2⟩]⟩::⟨32,6,[⟨ox,afg TM⟩]⟩::⟨28,31,[⟨fx,akq Q3⟩]⟩::⟨122,9,[⟨aU,TV CY⟩]⟩::⟨275,11,[⟨aU,Xx yK⟩]⟩::⟨225,14,[⟨ba,Qo jq⟩]⟩::⟨231,16,[⟨zR,Ug jM⟩]⟩::⟨83,7,[⟨kg,alZ RK⟩]⟩::⟨258,10,[⟨ba,R6 IY⟩]⟩::⟨81,11,[⟨bq,ael ne⟩]⟩::⟨269,4,[⟨AA,TE mR⟩]⟩::⟨245,7,[⟨aU,Sc yu⟩]⟩::⟨147,51,[⟨YG,SS xS⟩]⟩::⟨199,7,[⟨aU,QA oS⟩]⟩::⟨236,10,[⟨Xm,Uj JN⟩]⟩::⟨222,4,[⟨AA,Sz ju⟩]⟩::⟨209,21,[⟨Wl,T8 du⟩]⟩::⟨224,9,[⟨ba,YH Ik⟩]⟩::⟨220,28,[⟨fP,PU yk⟩]⟩::⟨162,12,[⟨Uf,QV dR⟩]⟩::⟨95,8,[⟨la,ago F9⟩]⟩::⟨94,20,[⟨xM,aiQ Fy⟩]⟩::⟨261,2,[⟨kw,VQ mT⟩]⟩::⟨280,2,[⟨kw,T9 xi⟩]⟩::⟨208,35,[⟨Ye,Vq rY⟩]⟩::⟨190,13,[⟨Tc,Rq Dl⟩]⟩::⟨174,26,[⟨cX,Ub nT⟩]⟩::⟨175,10,[⟨ba,Sw r7⟩]⟩::⟨278,22,[⟨qW,QX IN⟩]⟩::⟨135,8,[⟨bq,XF jF⟩]⟩::⟨180,2,[⟨kw,U5 mX⟩]⟩::⟨133,10,[⟨ba,P9 mo⟩]⟩::⟨177,10,[⟨ba,Qm xX⟩]⟩::⟨178,27,[⟨eW,YZ pL⟩]⟩::⟨179,20,[⟨fP,YB nq⟩]⟩::⟨181,2,[⟨kw,Ty DL⟩]⟩::⟨103,12,[⟨bq,VR jQ⟩]⟩::⟨134,10,[⟨ba,YQ yD⟩]⟩::⟨137,20,[⟨fP,W6 oh⟩]⟩::⟨75,8,[⟨la,ahn Mv⟩]⟩::⟨43,12,[⟨bq,aj7 lF⟩]⟩::Lk0
theorem ak1:bJ Lk1 fun c=>bJ c.l (ak Pg c.f c.nt):=⟨⟨amV,trivial⟩,⟨axC,trivial⟩,⟨atZ,trivial⟩,⟨anK,trivial⟩,⟨aCq,trivial⟩,⟨aqU,trivial⟩,⟨anv,trivial⟩,⟨aoj,trivial⟩,⟨arq,trivial⟩,⟨aug,trivial⟩,⟨atj,trivial⟩,⟨aqV,trivial⟩,⟨asK,trivial⟩,⟨atl,trivial⟩,⟨aqm,trivial⟩,⟨ayO,trivial⟩,⟨azr,trivial⟩,⟨axP,trivial⟩,⟨axH,trivial⟩,⟨awY,trivial⟩,⟨awj,trivial⟩,⟨atQ,trivial⟩,⟨amL,trivial⟩,⟨atK,trivial⟩,⟨apo,trivial⟩,⟨awl,trivial⟩,⟨anN,trivial⟩,⟨aym,trivial⟩,⟨aq9,trivial⟩,⟨arj,trivial⟩,⟨ao2,trivial⟩,⟨auT,trivial⟩,⟨am2,trivial⟩,⟨apy,trivial⟩,⟨anj,trivial⟩,⟨apR,trivial⟩,⟨apm,trivial⟩,⟨anz,trivial⟩,⟨axE,trivial⟩,⟨awX,trivial⟩,⟨ar5,trivial⟩,⟨aoq,trivial⟩,⟨aoR,trivial⟩,⟨arO,trivial⟩,⟨atR,trivial⟩,⟨atO,trivial⟩,⟨asI,trivial⟩,⟨am6,trivial⟩,⟨aqC,trivial⟩,⟨ar3,trivial⟩,⟨as2,trivial⟩,⟨auo,trivial⟩,⟨apC,trivial⟩,⟨anM,trivial⟩,⟨ams,trivial⟩,⟨asE,trivial⟩,⟨aqO,trivial⟩,⟨azK,trivial⟩,⟨awC,trivial⟩,ak0⟩
def Ek1:aE:=aE.ofIO Lk1 bw io0
theorem ek1:Ek1.Ok Pg:=aE.ofIO_ok aO ak1
def aeO:ag:=ag.sub [1,0] (emb adI)
abbrev qM:Type 1:=(α:Type)->Int->Int->Int->Int->(Op α)->(Bool->Op α)->Op α
def E5 (α:Type)(a b c d:Int)(k1:Op α)(k2:Bool->Op α):Op α:=
 pK α a b
 (fun g=>cK g
 (cK (decide ((w64 (d - c))<=(w64 (b - a))))
 (k1)
 (pK α c d
 (fun e=>cK (!e)
 (k1)
 (k2 (!e)))))
 (k2 false))
def vk:qM:=sld E5
def Nd (v:qM)(α:Type)(K:KT α):I4 (Op α):=fun a b c d=>v α a b c d (aiC (K .ret) true true) (fun e=>adM (K .normal) e a b c d)
theorem af1:∀ (α:Type) (K:KT α),Nd vk α K=Cl.unc fun σ=>az Pg Ek1 avq aeO K σ:=aY (fun α K=>by kernel_rfl)
abbrev Tn:Type 1:=(α:Type)->Int->Int->Int->Int->(Bool->Bool->Op α)->Op α
def V1 (α:Type)(c d a b:Int)(k1:Bool->Bool->Op α):Op α:=
 vk α c d a b
 (k1 true true)
 (fun g=>pK α a b
 (fun e=>k1 false e))
def jC:Tn:=sld V1
def Y6 (v:Tn)(α:Type)(k:RT α):I4 (Op α):=fun a b c d=>v α a b c d (fun e g=>aax k e g)
def arl:ag:=(ag.put (.m [⟨Cl,Nd vk⟩]) [1] (emb adI))
theorem aqH:ak Pg 104 33 ⟨qW,Y6 jC⟩:=iZ ek1 (ah Tryz.func104 (by kernel_rfl)) avq arl ((an _ _).trans (aA _)) (aL (by kernel_rfl) (aD adI) ⟨af1,trivial⟩) fun _ _=>by kernel_rfl
def az1:TG:=[tT 0 [1],tT 1 [2]]
def aA9:ap:=aw Pg Tryz.f102 az1 aC
def Zq (α:Type)(a b:Int)(k1:Int->Op α):Op α:=
 dC α (w64 (a+b)) 2
 (fun c=>k1 c)
def dG:bz:=sld Zq
def YL (v:bz)(α:Type)(k:RT α):Int->Int->Op α:=fun a b=>v α a b (fun c=>aQ k c)
theorem aqf:ak Pg 102 9 ⟨ba,YL dG⟩:=iP ek1 aA9 (ah Tryz.func102 (by kernel_rfl)) Lp fun _ _=>by kernel_rfl
end
end Go.AM.K
