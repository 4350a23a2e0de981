/- Printed by KGen. -/
import Derived.Test.YtffcelhcekillaaGreatProg
import Derived.Test.YtffcelhcekillaaGreatKS1
import Derived.Test.YtffcelhcekillaaGreatKI1
namespace Go.AM.K
open Go.Proofs
set_option maxRecDepth 100000
set_option linter.unusedVariables false
noncomputable section
noncomputable abbrev Pg:=Tryz.prog
abbrev I8 (t:Type):Type:=Int->Int->Int->Int->Int->Int->Int->Int->t
abbrev I15 (t:Type):Type:=Int->Int->Int->Int->Int->Int->Int->Int->Int->Int->Int->Int->Int->Int->Int->t
abbrev I25 (t:Type):Type:=Int->Int->Int->Int->Int->Int->Int->Int->Int->Int->Int->Int->Int->Int->Int->Int->Int->Int->Int->Int->Int->Int->Int->Int->Int->t
abbrev I38 (t:Type):Type:=Int->Int->Int->Int->Int->Int->Int->Int->Int->Int->Int->Int->Int->Int->Int->Int->Int->Int->Int->Int->Int->Int->Int->Int->Int->Int->Int->Int->Int->Int->Int->Int->Int->Int->Int->Int->Int->Int->t
theorem Cy:Pg.follows .mixedOrders=true:=by kernel_rfl
theorem iZ {E:aF}{f nt:Nat}{tr tl:TG}{ac:aq}{rs:List dZ}{T:Type 1}{b:T}{pa:PT (List DV)}{Fn:T->(α:Type)->(List RV->Op α)->pa.Cur (Op α)}
 (hE:E.Ok Pg) (hf:tI Pg f nt tr tl ac rs) (sh:SG) (cm:ah) (em:cm.erase=ac) (gm:cm.Good Pg E sh) (fm:∀ (α:Type) (k:RT α),Fn b α k=pa.unc fun ds=>fnM Pg E sh cm rs k ds):ak Pg f nt ⟨pa,Fn (sld b)⟩:=ait hE Cy hf sh cm em gm fm
theorem iP {E:aF}{f nt:Nat}{tr tl:TG}{rs:List dZ}{T:Type 1}{b:T}{pa:PT (List DV)}{Fn:T->(α:Type)->(List RV->Op α)->pa.Cur (Op α)}
 (hE:E.Ok Pg) (ac:aq) (hf:tI Pg f nt tr tl ac rs) (sh:SG) (fm:∀ (α:Type) (k:RT α),Fn b α k=pa.unc fun ds=>fnM Pg E sh (emb ac) rs k ds):ak Pg f nt ⟨pa,Fn (sld b)⟩:=ait hE Cy hf sh (emb ac) (aA _) (aD ac) fm
def MQ:SG:=[(4,iT),(6,iT)]
def aEl:TG:=[tT 0 [1],tT 1 [2]]
def aC:TG:=[]
def aDp:aq:=aw Pg Tryz.f126 aEl aC
def aaI:PT (List RV):=pRs [pR false [rD dB]]
def bi {β:Type}(g:List RV->β):Bool->β:=aaI.unc g
def io0:List (Nat × List Nat):=[(74,[0]),(96,[0]),(128,[0]),(129,[0]),(130,[0]),(131,[0]),(136,[0]),(153,[0]),(154,[0]),(155,[0]),(156,[0]),(157,[0]),(159,[0]),(160,[0]),(161,[0]),(162,[0]),(172,[0]),(173,[0]),(182,[0]),(183,[0]),(184,[0]),(185,[0]),(191,[0]),(205,[0]),(206,[0]),(207,[0]),(209,[0]),(213,[0]),(237,[0]),(238,[0]),(239,[0]),(240,[0]),(242,[0]),(243,[0]),(262,[0]),(263,[0]),(264,[0]),(277,[0]),(279,[0])]
noncomputable abbrev Lk0:List bC:=[]
theorem ak0:bH Lk0 fun c=>bH c.l (ak Pg c.f c.nt):=trivial
def Ek0:aF:=aF.ofIO Lk0 bu io0
theorem ek0:Ek0.Ok Pg:=aF.ofIO_ok aN ak0
abbrev cY:Type 1:=(α:Type)->Int->Int->(Bool->Op α)->Op α
def VT (α:Type)(a b:Int)(k1:Bool->Op α):Op α:=
 k1 (decide (2<=(w64 (b - a))))
def oY:cY:=sld VT
def ba:PT (List DV):=pA [pV true [(dI .i64),(dI .i64)]]
def Sk (v:cY)(α:Type)(k:RT α):Int->Int->Op α:=fun a b=>v α a b (fun c=>bi k c)
theorem aoE:ak Pg 126 9 ⟨ba,Sk oY⟩:=iP ek0 aDp (ag Tryz.func126 (by kernel_rfl)) MQ fun _ _=>by kernel_rfl
def aO:SG:=[]
def aDk:TG:=[tT 0 [0,1,4],tT 1 [4]]
def aFV:aq:=aw Pg Tryz.f103 aDk aC
def aan:PT (List RV):=pRs [pR true [rD (dI .i64),rD (dI .i64),rD (dI .i64),rD (dI .i64)]]
def g5 {β:Type}(g:List RV->β):I4 β:=aan.unc g
abbrev cX:Type 1:=(α:Type)->(Op α)->Op α
def ST (α:Type)(k1:Op α):Op α:=
 k1
def oe:cX:=sld ST
def bt:PT (List DV):=pA [vI,vI]
def SP (v:cX)(α:Type)(k:RT α):Int->Int->Op α:=fun a b=>v α (g5 k a a b b)
theorem as0:ak Pg 103 12 ⟨bt,SP oe⟩:=iP ek0 aFV (ag Tryz.func103 (by kernel_rfl)) aO fun _ _=>by kernel_rfl
def au8:SG:=[(6,iT),(9,iT),(13,iT),(16,iT)]
def az1:TG:=[tT 0 [2,3,4],tT 1 [4]]
def aEE:aq:=aw Pg Tryz.f179 az1 aC
def aaY:PT (List RV):=pRs [pR true [rD (dI .i64),rD (dI .i64)]]
def bv {β:Type}(g:List RV->β):Int->Int->β:=aaY.unc g
abbrev fT:Type 1:=(α:Type)->Int->Int->Int->Int->(Int->Int->Op α)->Op α
def VJ (α:Type)(a b c d:Int)(k1:Int->Int->Op α):Op α:=
 k1 (if (w64 ((w64 (1048576 - b)) - d)) > 0 then (w64 ((w64 (1048576 - b)) - d)) else 0) (if (w64 ((w64 (1048576 - a)) - c)) > 0 then (w64 ((w64 (1048576 - a)) - c)) else 0)
def oq:fT:=sld VJ
def fW:PT (List DV):=pA [pV true [(dI .i64),(dI .i64)],pV true [(dI .i64),(dI .i64)]]
def Qe (v:fT)(α:Type)(k:RT α):I4 (Op α):=fun a b c d=>v α a b c d (fun e g=>bv k e g)
theorem amK:ak Pg 179 20 ⟨fW,Qe oq⟩:=iP ek0 aEE (ag Tryz.func179 (by kernel_rfl)) au8 fun _ _=>by kernel_rfl
def Nj:SG:=[(7,iT),(11,[.sl]),(19,[.sl]),(21,iS 5),(23,iT)]
def aHp:TG:=[tT 0 [1],tT 1 [1,3],tT 2 [1,3,4],tT 3 [1,3,4,13],tT 5 [1,3,4],tT 4 [1,3,4],tT 6 [2]]
def aHy:TG:=[(3,⟨[1,3,4],true,[⟨true,1,6,30106,5⟩],[]⟩)]
def Y0:aq:=aw Pg Tryz.f178 aHp aHy
def xb:OT:=tdC (ah.sub [1,1,0,1,0] (emb Y0))
def D4:PT St:=pS [sP 1,sl 3 (aV false [(cD dB)]),sI 4] [au 1 [xI,xI,xI,xI,xI,xI,(cD dL),xI,xI]]
def ED {β:Type}(g:St->β):Bool->Int->Int->Int->Int->Int->Int->Int->ae->Int->Int->β:=D4.unc g
def alt:PT St:=pS [sP 1,sl 3 (aV false [(cD dB)]),sI 4,sl 13 (aV false [(cD dB)])] [au 1 [xI,xI,xI,xI,xI,xI,(cD dL),xI,xI]]
def wd {β:Type}(g:St->β):Bool->Int->Bool->Int->Int->Int->Int->Int->Int->ae->Int->Int->β:=alt.unc g
def vM:ah:=ah.sub [1,1,0,1,0,0] (emb Y0)
def pK (α:Type)(b:ae)(c:Bool)(a:Int)(kn:Bool->Int->Op α)(k1:Bool->Int->Bool->Op α):Op α:=
 cK (decide (a < ((List.length b:Nat):Int)))
 (cK c
 (kn true (w64 (a+1)))
 (dT b a [.int .i64,.int .i64,.int .i64,.int .i64,.int .i64]
 (fun e g h i d=>kn (d != 0) (w64 (a+1)))))
 (k1 c a (decide (a < ((List.length b:Nat):Int))))
def mg (α:Type)(a:ae)(k1:Bool->Int->Bool->Op α):Nat->Bool->Int->Op α
 | 0,_,_=>none
 | n+1,b,c=>pK α a b c (mg α a k1 n) k1
def Fg (α:Type)(a:ae)(k1:Bool->Int->Bool->Op α)(b:Bool)(c:Int):Op α:=mg α a k1 aE b c
abbrev Hj:Type 1:=(α:Type)->ae->(Bool->Int->Bool->Op α)->Bool->Int->Op α
def vp:Hj:=sld Fg
def Lt (v:Hj)(α:Type)(K:KT α):Bool->Int->Int->Int->Int->Int->Int->Int->ae->Int->Int->Op α:=fun b c d e g h i j a l m=>v α a (fun o p q=>wd (K (.exit 0)) o p q d e g h i j a l m) b c
theorem ajQ (α:Type)(K:KT α)(Kn:SK α)(a:Bool)(b d e g h i j:Int)(c:ae)(l m:Int):ED (fun σ=>az Pg Ek0 Nj vM (bI (fun σ=>br xb σ Kn) K) σ) a b d e g h i j c l m=pK α c a b (fun a b=>ED Kn a b d e g h i j c l m) (fun o p q=>wd (K (.exit 0)) o p q d e g h i j c l m):=by kernel_rfl
theorem adC (α:Type)(K:KT α):∀ (n:Nat) (b:Bool) (c d e g h i j:Int) (a:ae) (l m:Int),mg α a (fun o p q=>wd (K (.exit 0)) o p q d e g h i j a l m) n b c=ED (aJ (az Pg Ek0 Nj vM) xb K n) b c d e g h i j a l m:=by
 intro n
 induction n with
 | zero=>intros;rfl
 | succ n ih=>intro b c d e g h i j a l m;exact (congrArg (fun kn=>pK α a b c kn (fun o p q=>wd (K (.exit 0)) o p q d e g h i j a l m)) (funext fun b=>funext fun c=>ih b c d e g h i j a l m)).trans (ajQ α K (aJ (az Pg Ek0 Nj vM) xb K n) b c d e g h i j a l m).symm
theorem aka:∀ (α:Type) (K:KT α),Lt vp α K=D4.unc fun σ=>aJ (az Pg Ek0 Nj vM) xb K aE σ:=aZ (fun α K=>funext fun a=>funext fun b=>funext fun c=>funext fun d=>funext fun e=>funext fun g=>funext fun h=>funext fun i=>funext fun j=>funext fun l=>funext fun m=>adC α K aE a b c d e g h i j l m)
abbrev WN:Type 1:=(α:Type)->ae->Int->(Bool->Op α)->Op α
def Rh (α:Type)(a:ae)(b:Int)(k1:Bool->Op α):Op α:=
 vp α a
 (fun c d e=>k1 c) (b != 0) 0
def pb:WN:=sld Rh
def eV:PT (List DV):=pA [pV true [(dI .i64),(dI .i64),(dI .i64),(dI .i64),(dI .i64),(dI .i64),dL,(dI .i64),(dI .i64)]]
def QV (v:WN)(α:Type)(k:RT α):Int->Int->Int->Int->Int->Int->ae->Int->Int->Op α:=fun d e g h i j a l b=>v α a b (fun c=>bi k c)
def asT:ah:=(ah.put (.m [⟨D4,Lt vp⟩]) [1,1,0,1,0] (emb Y0))
theorem amJ:ak Pg 178 27 ⟨eV,QV pb⟩:=iZ ek0 (ag Tryz.func178 (by kernel_rfl)) Nj asT ((am _ _).trans (aA _)) (aW (td:=xb) (by kernel_rfl) (aD Y0) ⟨aka,trivial⟩) fun _ _=>by kernel_rfl
def Mo:SG:=[(4,iT),(7,iT)]
def aAf:TG:=[tT 0 [1,2],tT 1 [2]]
def aDQ:aq:=aw Pg Tryz.f177 aAf aC
abbrev ee:Type 1:=(α:Type)->Int->Int->(Int->Int->Op α)->Op α
def WA (α:Type)(a b:Int)(k1:Int->Int->Op α):Op α:=
 k1 (if a < 1048576 then a else 1048576) (if b < 1048576 then b else 1048576)
def xB:ee:=sld WA
def RF (v:ee)(α:Type)(k:RT α):Int->Int->Op α:=fun a b=>v α a b (fun c d=>bv k c d)
theorem app:ak Pg 177 10 ⟨ba,RF xB⟩:=iP ek0 aDQ (ag Tryz.func177 (by kernel_rfl)) Mo fun _ _=>by kernel_rfl
def aEc:TG:=[tT 0 [0],tT 1 [0]]
def aFq:aq:=aw Pg Tryz.f280 aEc aC
def abJ:PT (List RV):=pRs [pR true [rD (dI .i64),rD (dI .i64),rD (dI .i64)]]
def xP {β:Type}(g:List RV->β):Int->Int->Int->β:=abJ.unc g
def Qq (α:Type)(k1:Op α):Op α:=
 k1
def yE:cX:=sld Qq
def j9:PT (List DV):=pA []
def QP (v:cX)(α:Type)(k:RT α):Op α:=v α (xP k 524288 0 0)
theorem aqy:ak Pg 280 2 ⟨j9,QP yE⟩:=iP ek0 aFq (ag Tryz.func280 (by kernel_rfl)) aO fun _ _=>by kernel_rfl
def aAU:SG:=[(5,iT),(9,iT),(14,iT),(18,iT)]
def aDJ:TG:=[tT 0 [1,2],tT 1 [2]]
def aAv:aq:=aw Pg Tryz.f278 aDJ aC
abbrev Ai:Type 1:=(α:Type)->Int->Int->Int->Int->(I4 (Op α))->Op α
def RR (α:Type)(a b c d:Int)(k1:I4 (Op α)):Op α:=
 k1 (w64 (2*a)) (w64 (2*b)) (w64 (2*c)) (w64 (2*d))
def JX:Ai:=sld RR
def qN:PT (List DV):=pA [pV true [(dI .i64),(dI .i64),(dI .i64),(dI .i64)]]
def Yu (v:Ai)(α:Type)(k:RT α):I4 (Op α):=fun a b c d=>v α a b c d (fun e g h i=>g5 k e g h i)
theorem auo:ak Pg 278 22 ⟨qN,Yu JX⟩:=iP ek0 aAv (ag Tryz.func278 (by kernel_rfl)) aAU fun _ _=>by kernel_rfl
def aB0:TG:=[tT 0 [1,2],tT 1 [2]]
def aHE:aq:=aw Pg Tryz.f175 aB0 aC
def TE (α:Type)(a b:Int)(k1:Int->Int->Op α):Op α:=
 k1 (if a > 0 then a else 0) (if b > 0 then b else 0)
def rT:ee:=sld TE
def TT (v:ee)(α:Type)(k:RT α):Int->Int->Op α:=fun a b=>v α a b (fun c d=>bv k c d)
theorem asf:ak Pg 175 10 ⟨ba,TT rT⟩:=iP ek0 aHE (ag Tryz.func175 (by kernel_rfl)) Mo fun _ _=>by kernel_rfl
def aD1:TG:=[tT 0 [0],tT 1 [0]]
def aEK:aq:=aw Pg Tryz.f261 aD1 aC
def XC (α:Type)(k1:Op α):Op α:=
 k1
def mF:cX:=sld XC
def Ta (v:cX)(α:Type)(k:RT α):Op α:=v α (xP k 1048576 0 0)
theorem arQ:ak Pg 261 2 ⟨j9,Ta mF⟩:=iP ek0 aEK (ag Tryz.func261 (by kernel_rfl)) aO fun _ _=>by kernel_rfl
def aBG:SG:=[(4,iT),(6,iT),(9,iT),(11,iT),(15,iT),(17,iT),(20,iT),(22,iT)]
def aFQ:TG:=[tT 0 [1,2],tT 1 [2]]
def aHq:aq:=aw Pg Tryz.f174 aFQ aC
abbrev kx:Type 1:=(α:Type)->Int->Int->Int->(I4 (Op α))->Op α
def Tm (α:Type)(b c a:Int)(k1:I4 (Op α)):Op α:=
 k1 (w64 (b - a)) (w64 (b+a)) (w64 (c - a)) (w64 (c+a))
def pH:kx:=sld Tm
def cZ:PT (List DV):=pA [pV true [(dI .i64),(dI .i64),(dI .i64)]]
def Ro (v:kx)(α:Type)(k:RT α):Int->Int->Int->Op α:=fun a b c=>v α a b c (fun d e g h=>g5 k d e g h)
theorem atk:ak Pg 174 26 ⟨cZ,Ro pH⟩:=iP ek0 aHq (ag Tryz.func174 (by kernel_rfl)) aBG fun _ _=>by kernel_rfl
def aCO:TG:=[tT 0 [0],tT 1 [2]]
def az9:aq:=aw Pg Tryz.f245 aCO aC
def aa6:PT (List RV):=pRs [wI]
def aR {β:Type}(g:List RV->β):Int->β:=aa6.unc g
abbrev ce:Type 1:=(α:Type)->Int->(Int->Op α)->Op α
def XN (α:Type)(a:Int)(k1:Int->Op α):Op α:=
 k1 (if (w64 (0 - a)) > a then (w64 (0 - a)) else a)
def xk:ce:=sld XN
def aU:PT (List DV):=pA [vI]
def R5 (v:ce)(α:Type)(k:RT α):Int->Op α:=fun a=>v α a (fun b=>aR k b)
theorem apP:ak Pg 245 7 ⟨aU,R5 xk⟩:=iP ek0 az9 (ag Tryz.func245 (by kernel_rfl)) aO fun _ _=>by kernel_rfl
def aGB:TG:=[tT 0 [0],tT 1 [0,3,4],tT 2 [0,3,4,6],tT 3 [0,3,4,15],tT 4 [0,3,4],tT 5 [0,3,4],tT 6 [2]]
def aCT:TG:=[tT 2 [0,3,4]]
def Rg:aq:=aw Pg Tryz.f246 aGB aCT
def wp:OT:=tdC (ah.sub [1,1,0,0] (emb Rg))
def Cs:PT St:=pS [sI 0,sI 3,sI 4] []
def Db {β:Type}(g:St->β):Int->Int->Int->β:=Cs.unc g
def ahG:PT St:=pS [sI 0,sI 3,sI 4,sl 6 (aV false [(cD dB)])] []
def tw {β:Type}(g:St->β):Int->Int->Int->Bool->β:=ahG.unc g
def tq:ah:=ah.sub [1,1,0,0,0] (emb Rg)
def pO (α:Type)(c b a:Int)(kn:Int->Int->Op α)(k1:Int->Int->Bool->Op α):Op α:=
 cK (decide (0 < a))
 (cK (decide ((w64 ((w64 (b+a))*(w64 (b+a))))<=c))
 (kn (w64 (b+a)) (w64 (Int.tdiv a 2)))
 (kn b (w64 (Int.tdiv a 2))))
 (k1 b a (decide (0 < a)))
def lM (α:Type)(a:Int)(k1:Int->Int->Bool->Op α):Nat->Int->Int->Op α
 | 0,_,_=>none
 | n+1,b,c=>pO α a b c (lM α a k1 n) k1
def Hu (α:Type)(a:Int)(k1:Int->Int->Bool->Op α)(b c:Int):Op α:=lM α a k1 aE b c
abbrev gp:Type 1:=(α:Type)->Int->(Int->Int->Bool->Op α)->Int->Int->Op α
def wu:gp:=sld Hu
def N7 (v:gp)(α:Type)(K:KT α):Int->Int->Int->Op α:=fun a b c=>v α a (fun d e g=>tw (K (.exit 0)) a d e g) b c
theorem ahz (α:Type)(K:KT α)(Kn:SK α)(a b c:Int):Db (fun σ=>az Pg Ek0 aO tq (bI (fun σ=>br wp σ Kn) K) σ) a b c=pO α a b c (fun b c=>Db Kn a b c) (fun d e g=>tw (K (.exit 0)) a d e g):=by kernel_rfl
theorem aep (α:Type)(K:KT α):∀ (n:Nat) (a b c:Int),lM α a (fun d e g=>tw (K (.exit 0)) a d e g) n b c=Db (aJ (az Pg Ek0 aO tq) wp K n) a b c:=by
 intro n
 induction n with
 | zero=>intros;rfl
 | succ n ih=>intro a b c;exact (congrArg (fun kn=>pO α a b c kn (fun d e g=>tw (K (.exit 0)) a d e g)) (funext fun b=>funext fun c=>ih a b c)).trans (ahz α K (aJ (az Pg Ek0 aO tq) wp K n) a b c).symm
theorem acW:∀ (α:Type) (K:KT α),N7 wu α K=Cs.unc fun σ=>aJ (az Pg Ek0 aO tq) wp K aE σ:=aZ (fun α K=>funext fun a=>funext fun b=>funext fun c=>aep α K aE a b c)
def RN (α:Type)(a:Int)(k1:Int->Op α):Op α:=
 wu α a
 (fun b c d=>k1 b) 0 1073741824
def dj:ce:=sld RN
def VK (v:ce)(α:Type)(k:RT α):Int->Op α:=fun a=>v α a (fun b=>aR k b)
def atm:ah:=(ah.put (.m [⟨Cs,N7 wu⟩]) [1,1,0,0] (emb Rg))
theorem aqb:ak Pg 246 22 ⟨aU,VK dj⟩:=iZ ek0 (ag Tryz.func246 (by kernel_rfl)) aO atm ((am _ _).trans (aA _)) (aW (td:=wp) (by kernel_rfl) (aD Rg) ⟨acW,trivial⟩) fun _ _=>by kernel_rfl
def aE8:TG:=[tT 0 [0,1],tT 1 [0,1],tT 2 [0,1,9],tT 3 [0],tT 4 [4]]
def aCF:aq:=aw Pg Tryz.f273 aE8 aC
abbrev bB:Type 1:=(α:Type)->Int->Int->(Int->Op α)->Op α
def SU (α:Type)(b a:Int)(k1:Int->Op α):Op α:=
 gK (a != 0) (cK (decide ((Int.tmod b a) < 0))
 (k1 (w64 ((Int.tmod b a)+a)))
 (k1 (Int.tmod b a)))
def kQ:bB:=sld SU
def Ur (v:bB)(α:Type)(k:RT α):Int->Int->Op α:=fun a b=>v α a b (fun c=>aR k c)
theorem apw:ak Pg 273 14 ⟨bt,Ur kQ⟩:=iP ek0 aCF (ag Tryz.func273 (by kernel_rfl)) aO fun _ _=>by kernel_rfl
def aGF:TG:=[tT 0 [0],tT 1 [3],tT 2 [2],tT 3 [2]]
def aC2:aq:=aw Pg Tryz.f269 aGF aC
abbrev Aj:Type 1:=(α:Type)->Bool->(Int->Op α)->Op α
def UT (α:Type)(a:Bool)(k1:Int->Op α):Op α:=
 cK a
 (k1 1)
 (k1 0)
def mK:Aj:=sld UT
def zT:PT (List DV):=pA [pV false [dB]]
def Zy (v:Aj)(α:Type)(k:RT α):Bool->Op α:=fun a=>v α a (fun b=>aR k b)
theorem apr:ak Pg 269 4 ⟨zT,Zy mK⟩:=iP ek0 aC2 (ag Tryz.func269 (by kernel_rfl)) aO fun _ _=>by kernel_rfl
def aEM:SG:=[(10,iT),(20,iS 3)]
def aHd:TG:=[tT 0 [0,2,4,6],tT 1 [0,2,4,6,11],tT 2 [0,6],tT 3 [0,2,4,6,14],tT 4 [0,6],tT 5 [0,6],tT 6 [0,6]]
def aDl:aq:=aw Pg Tryz.f209 aHd aC
def aaW:PT (List RV):=pRs [pR true [rD (dI .i64),rD (dI .i64),rD (dI .i64)],pR true [rD (dI .i64)]]
def ei {β:Type}(g:List RV->β):I4 β:=aaW.unc g
abbrev zG:Type 1:=(α:Type)->Int->Int->Int->Int->Int->(I4 (Op α))->Op α
def VN (α:Type)(a c d e b:Int)(k1:I4 (Op α)):Op α:=
 cK (a != 0)
 (k1 0 0 0 a)
 (cK (b != 0)
 (k1 0 0 0 b)
 (k1 c d e a))
def du:zG:=sld VN
def UF:PT (List DV):=pA [pV false [(dMr [(dI .i64)] 0)],pV true [(dI .i64),(dI .i64),(dI .i64)],vI]
def WX (v:zG)(α:Type)(k:RT α):I5 (Op α):=fun a b c d e=>v α a b c d e (fun g h i j=>ei k g h i j)
theorem aoJ:ak Pg 209 21 ⟨UF,WX du⟩:=iP ek0 aDl (ag Tryz.func209 (by kernel_rfl)) aEM fun _ _=>by kernel_rfl
def aAK:SG:=[(8,iT),(10,iT),(15,[.sl]),(20,iT),(23,iT),(27,iT),(30,[.sl]),(33,iS 5),(34,iS 5)]
def aFA:TG:=[tT 0 [1,2,4],tT 1 [1,2,4,6],tT 2 [4],tT 3 [1,2,4,17],tT 4 [4],tT 5 [4]]
def aB6:aq:=aw Pg Tryz.f208 aFA aC
def aaj:PT (List RV):=pRs [pR true [rD (dI .i64),rD (dI .i64),rD (dI .i64),rD (dI .i64),rD (dI .i64)]]
def aaS {β:Type}(g:List RV->β):I5 β:=aaj.unc g
abbrev Tr:Type 1:=(α:Type)->Int->ae->Int->Int->Int->(I5 (Op α))->Op α
def QZ (α:Type)(b:Int)(c:ae)(d e a:Int)(k1:I5 (Op α)):Op α:=
 cK (a == 0)
 (k1 b b 0 0 0)
 (cK (decide (((List.length c:Nat):Int) < a))
 (k1 d d 0 0 e)
 (dT c (w64 (a - 1)) [.int .i64,.int .i64,.int .i64,.int .i64,.int .i64]
 (fun g h i j l=>k1 g h i j l)))
def sG:Tr:=sld QZ
def Ud:PT (List DV):=pA [pV true [(dI .i64),(dI .i64),(dI .i64),(dI .i64),(dI .i64),(dI .i64),dL,(dI .i64),(dI .i64)],vI]
def Wl (v:Tr)(α:Type)(k:RT α):Int->Int->Int->Int->Int->Int->ae->Int->Int->Int->Op α:=fun a m o p q r b c d e=>v α a b c d e (fun g h i j l=>aaS k g h i j l)
theorem arU:ak Pg 208 35 ⟨Ud,Wl sG⟩:=iP ek0 aB6 (ag Tryz.func208 (by kernel_rfl)) aAK fun _ _=>by kernel_rfl
def aCZ:SG:=[(4,iS 2),(6,iS 2)]
def aK6:TG:=[tT 0 [1,2],tT 1 [2]]
def aK0:aq:=aw Pg Tryz.f75 aK6 aC
def ajD (α:Type)(k1:Op α):Op α:=
 k1
def LT:cX:=sld ajD
def kW:PT (List DV):=pA [pV true [(dI .i64),(dI .i64),(dI .i64),(dI .i64),(dI .i64),(dI .i64),(dI .i64),(dI .i64),(dI .i64)]]
def ahs (v:cX)(α:Type)(k:RT α):I9 (Op α):=fun e g h a b c d i j=>v α (g5 k c d a b)
theorem ayn:ak Pg 75 8 ⟨kW,ahs LT⟩:=iP ek0 aK0 (ag Tryz.func75 (by kernel_rfl)) aCZ fun _ _=>by kernel_rfl
def aGI:TG:=[tT 0 [0],tT 1 [2]]
def aDy:aq:=aw Pg Tryz.f122 aGI aC
abbrev cW:Type 1:=(α:Type)->Int->(Bool->Op α)->Op α
def RS (α:Type)(a:Int)(k1:Bool->Op α):Op α:=
 cK (a == 0)
 (k1 true)
 (k1 (a == 1))
def DZ:cW:=sld RS
def WJ (v:cW)(α:Type)(k:RT α):Int->Op α:=fun a=>v α a (fun b=>bi k b)
theorem atI:ak Pg 122 9 ⟨aU,WJ DZ⟩:=iP ek0 aDy (ag Tryz.func122 (by kernel_rfl)) aO fun _ _=>by kernel_rfl
def aJF:TG:=[tT 0 [0,1],tT 1 [0,1,5],tT 2 [5,12],tT 3 [5],tT 4 [4]]
def aJQ:aq:=aw Pg Tryz.f91 aJF aC
def O6 (α:Type)(b a:Int)(k1:Int->Op α):Op α:=
 gK (a != 0) (gK (a != 0) (cK (decide ((Int.tmod b a) < 0))
 (k1 (w64 ((w64 (Int.tdiv b a)) - 1)))
 (k1 (w64 (Int.tdiv b a)))))
def dD:bB:=sld O6
def adM (v:bB)(α:Type)(k:RT α):Int->Int->Op α:=fun a b=>v α a b (fun c=>aR k c)
theorem awm:ak Pg 91 16 ⟨bt,adM dD⟩:=iP ek0 aJQ (ag Tryz.func91 (by kernel_rfl)) aO fun _ _=>by kernel_rfl
def aG5:TG:=[tT 0 [1],tT 1 [2]]
def aDr:aq:=aw Pg Tryz.f150 aG5 aC
def Yb (α:Type)(a b:Int)(k1:Bool->Op α):Op α:=
 k1 (decide (2<=(w64 (b - a))))
def oX:cY:=sld Yb
def Qu (v:cY)(α:Type)(k:RT α):Int->Int->Op α:=fun a b=>v α a b (fun c=>bi k c)
theorem amh:ak Pg 150 9 ⟨ba,Qu oX⟩:=iP ek0 aDr (ag Tryz.func150 (by kernel_rfl)) MQ fun _ _=>by kernel_rfl
def aKh:TG:=[tT 0 [0,1,4],tT 1 [4]]
def aKO:aq:=aw Pg Tryz.f43 aKh aC
def ac1 (α:Type)(k1:Op α):Op α:=
 k1
def ug:cX:=sld ac1
def afH (v:cX)(α:Type)(k:RT α):Int->Int->Op α:=fun a b=>v α (g5 k a a b b)
theorem awi:ak Pg 43 12 ⟨bt,afH ug⟩:=iP ek0 aKO (ag Tryz.func43 (by kernel_rfl)) aO fun _ _=>by kernel_rfl
def aCh:TG:=[tT 0 [1],tT 1 [2]]
def aGk:aq:=aw Pg Tryz.f118 aCh aC
def Sx (α:Type)(a b:Int)(k1:Int->Op α):Op α:=
 k1 (Int.fdiv (w64 (a+b)) (2 ^ 1))
def gh:bB:=sld Sx
def Zo (v:bB)(α:Type)(k:RT α):Int->Int->Op α:=fun a b=>v α a b (fun c=>aR k c)
theorem aqT:ak Pg 118 9 ⟨ba,Zo gh⟩:=iP ek0 aGk (ag Tryz.func118 (by kernel_rfl)) MQ fun _ _=>by kernel_rfl
def aEs:TG:=[tT 0 [2,3,4],tT 1 [4]]
def aA2:aq:=aw Pg Tryz.f137 aEs aC
def UZ (α:Type)(a b c d:Int)(k1:Int->Int->Op α):Op α:=
 k1 (if (w64 ((w64 (1048576 - b)) - d)) > 0 then (w64 ((w64 (1048576 - b)) - d)) else 0) (if (w64 ((w64 (1048576 - a)) - c)) > 0 then (w64 ((w64 (1048576 - a)) - c)) else 0)
def od:fT:=sld UZ
def VE (v:fT)(α:Type)(k:RT α):I4 (Op α):=fun a b c d=>v α a b c d (fun e g=>bv k e g)
theorem aql:ak Pg 137 20 ⟨fW,VE od⟩:=iP ek0 aA2 (ag Tryz.func137 (by kernel_rfl)) au8 fun _ _=>by kernel_rfl
def aBy:TG:=[tT 0 [1,2],tT 1 [2]]
def aB5:aq:=aw Pg Tryz.f134 aBy aC
def W5 (α:Type)(a b:Int)(k1:Int->Int->Op α):Op α:=
 k1 (if 1048576 < a then 1048576 else a) (if 1048576 < b then 1048576 else b)
def yC:ee:=sld W5
def Qj (v:ee)(α:Type)(k:RT α):Int->Int->Op α:=fun a b=>v α a b (fun c d=>bv k c d)
theorem auI:ak Pg 134 10 ⟨ba,Qj yC⟩:=iP ek0 aB5 (ag Tryz.func134 (by kernel_rfl)) Mo fun _ _=>by kernel_rfl
def aB7:TG:=[tT 0 [0],tT 1 [0,3],tT 2 [0,3,7],tT 3 [0,3],tT 4 [2]]
def aBV:TG:=[tT 2 [0,3]]
def U1:aq:=aw Pg Tryz.f275 aB7 aBV
def vm:OT:=tdC (ah.sub [1,1,0,0] (emb U1))
def jm:PT St:=pS [sI 0,sI 3] []
def gH {β:Type}(g:St->β):Int->Int->β:=jm.unc g
def alR:PT St:=pS [sI 0,sI 3,sl 7 (aV false [(cD dB)])] []
def ti {β:Type}(g:St->β):Int->Int->Bool->β:=alR.unc g
def uz:ah:=ah.sub [1,1,0,0,0] (emb U1)
def oZ (α:Type)(b a:Int)(kn:Int->Op α)(k1:Int->Bool->Op α):Op α:=
 gK (decide (0<=a)) (cK (decide ((w64 (1048576*2 ^ (min (Int.toNat a) 64))) < b))
 (kn (w64 (a+1)))
 (k1 a (decide ((w64 (1048576*2 ^ (min (Int.toNat a) 64))) < b))))
def l8 (α:Type)(a:Int)(k1:Int->Bool->Op α):Nat->Int->Op α
 | 0,_=>none
 | n+1,b=>oZ α a b (l8 α a k1 n) k1
def Hc (α:Type)(a:Int)(k1:Int->Bool->Op α)(b:Int):Op α:=l8 α a k1 aE b
abbrev jc:Type 1:=(α:Type)->Int->(Int->Bool->Op α)->Int->Op α
def wa:jc:=sld Hc
def Mq (v:jc)(α:Type)(K:KT α):Int->Int->Op α:=fun a b=>v α a (fun c d=>ti (K (.exit 0)) a c d) b
theorem alV (α:Type)(K:KT α)(Kn:SK α)(a b:Int):gH (fun σ=>az Pg Ek0 aO uz (bI (fun σ=>br vm σ Kn) K) σ) a b=oZ α a b (fun b=>gH Kn a b) (fun c d=>ti (K (.exit 0)) a c d):=by kernel_rfl
theorem alM (α:Type)(K:KT α):∀ (n:Nat) (a b:Int),l8 α a (fun c d=>ti (K (.exit 0)) a c d) n b=gH (aJ (az Pg Ek0 aO uz) vm K n) a b:=by
 intro n
 induction n with
 | zero=>intros;rfl
 | succ n ih=>intro a b;exact (congrArg (fun kn=>oZ α a b kn (fun c d=>ti (K (.exit 0)) a c d)) (funext fun b=>ih a b)).trans (alV α K (aJ (az Pg Ek0 aO uz) vm K n) a b).symm
theorem alO:∀ (α:Type) (K:KT α),Mq wa α K=jm.unc fun σ=>aJ (az Pg Ek0 aO uz) vm K aE σ:=aZ (fun α K=>funext fun a=>funext fun b=>alM α K aE a b)
def Xm (α:Type)(a:Int)(k1:Int->Op α):Op α:=
 wa α a
 (fun b c=>k1 b) 0
def yh:ce:=sld Xm
def Sr (v:ce)(α:Type)(k:RT α):Int->Op α:=fun a=>v α a (fun b=>aR k b)
def arz:ah:=(ah.put (.m [⟨jm,Mq wa⟩]) [1,1,0,0] (emb U1))
theorem apB:ak Pg 275 11 ⟨aU,Sr yh⟩:=iZ ek0 (ag Tryz.func275 (by kernel_rfl)) aO arz ((am _ _).trans (aA _)) (aW (td:=vm) (by kernel_rfl) (aD U1) ⟨alO,trivial⟩) fun _ _=>by kernel_rfl
def aEP:TG:=[tT 0 [1,2],tT 1 [2]]
def aBI:aq:=aw Pg Tryz.f133 aEP aC
def Sq (α:Type)(a b:Int)(k1:Int->Int->Op α):Op α:=
 k1 (if a > 0 then a else 0) (if b > 0 then b else 0)
def nd:ee:=sld Sq
def Ui (v:ee)(α:Type)(k:RT α):Int->Int->Op α:=fun a b=>v α a b (fun c d=>bv k c d)
theorem ar3:ak Pg 133 10 ⟨ba,Ui nd⟩:=iP ek0 aBI (ag Tryz.func133 (by kernel_rfl)) Mo fun _ _=>by kernel_rfl
def aC9:TG:=[tT 0 [0],tT 1 [0]]
def aCN:aq:=aw Pg Tryz.f181 aC9 aC
def aat:PT (List RV):=pRs [pR true [rD (dX .f64),rD (dI .i64)]]
def Hd {β:Type}(g:List RV->β):Nat->Nat->Int->β:=aat.unc g
def Wv (α:Type)(k1:Op α):Op α:=
 k1
def BE:cX:=sld Wv
def Sw (v:cX)(α:Type)(k:RT α):Op α:=v α (Hd k 0 0 0)
theorem asg:ak Pg 181 2 ⟨j9,Sw BE⟩:=iP ek0 aCN (ag Tryz.func181 (by kernel_rfl)) aO fun _ _=>by kernel_rfl
def aIk:TG:=[tT 0 [0],tT 1 [0]]
def aHk:aq:=aw Pg Tryz.f180 aIk aC
def KM (α:Type)(k1:Op α):Op α:=
 k1
def mJ:cX:=sld KM
def X9 (v:cX)(α:Type)(k:RT α):Op α:=v α (Hd k 4697254411347427328 0 0)
theorem apV:ak Pg 180 2 ⟨j9,X9 mJ⟩:=iP ek0 aHk (ag Tryz.func180 (by kernel_rfl)) aO fun _ _=>by kernel_rfl
def aBm:TG:=[tT 0 [1,2],tT 1 [2]]
def aF1:aq:=aw Pg Tryz.f224 aBm aC
def Rf (α:Type)(a:Int)(k1:Int->Op α):Op α:=
 k1 (w64 (0 - a))
def Kq:ce:=sld Rf
def WK (v:ce)(α:Type)(k:RT α):Int->Int->Op α:=fun a b=>v α b (fun c=>bv k a c)
theorem aoj:ak Pg 224 9 ⟨ba,WK Kq⟩:=iP ek0 aF1 (ag Tryz.func224 (by kernel_rfl)) MQ fun _ _=>by kernel_rfl
def aAC:SG:=[(6,iT),(10,iT)]
def aHG:TG:=[tT 0 [0,1,3],tT 1 [3]]
def aCB:aq:=aw Pg Tryz.f190 aHG aC
def Uh (α:Type)(a b:Int)(k1:Int->Int->Op α):Op α:=
 k1 (w64 (a - b)) (w64 (a+b))
def Dh:ee:=sld Uh
def SB:PT (List DV):=pA [vI,pV false [(dP [(dI .i64),(dI .i64),(dI .i64)] 0)]]
def UV (v:ee)(α:Type)(k:RT α):I4 (Op α):=fun a e g b=>v α a b (fun c d=>bv k c d)
theorem arJ:ak Pg 190 13 ⟨SB,UV Dh⟩:=iP ek0 aCB (ag Tryz.func190 (by kernel_rfl)) aAC fun _ _=>by kernel_rfl
def aDX:TG:=[tT 0 [0,2],tT 1 [0,2,4],tT 2 [0],tT 3 [0,2],tT 4 [0,2,8],tT 5 [0,2],tT 6 [0,2],tT 7 [0,2,14],tT 8 [0,2],tT 9 [0,2],tT 10 [2]]
def NZ:aq:=aw Pg Tryz.f276 aDX aC
def ju:PT St:=pS [sl 0 (aV false [(cD (dI .u64))]),sI 2] []
def oE {β:Type}(g:St->β):Int->Int->β:=ju.unc g
def Ex:PT St:=pS [sl 0 (aV false [(cD (dI .u64))]),sI 2,sl 4 (aV false [(cD dB)])] []
def ahf {β:Type}(g:St->β):Int->Int->Bool->β:=Ex.unc g
def Co:PT St:=pS [sl 0 (aV false [(cD (dI .u64))]),sI 2,sl 8 (aV false [(cD dB)])] []
def LH {β:Type}(g:St->β):Int->Int->Bool->β:=Co.unc g
def agL:PT St:=pS [sl 0 (aV false [(cD (dI .u64))]),sI 2,sl 14 (aV false [(cD dB)])] []
def Lq {β:Type}(g:St->β):Int->Int->Bool->β:=agL.unc g
def FJ:ah:=ah.sub [1,1,1,0] (emb NZ)
abbrev jj:Type 1:=(α:Type)->Int->Int->(Int->Int->Op α)->(Bool->Op α)->Op α
def md (α:Type)(a b:Int)(k1:Int->Int->Op α)(k2:Bool->Op α):Op α:=
 cK (decide (256<=a))
 (k1 (Int.fdiv a (2 ^ 8)) (w64 (b+8)))
 (k2 (decide (256<=a)))
def dg:jj:=sld md
def Nx (v:jj)(α:Type)(K:KT α):Int->Int->Op α:=fun b c=>v α b c (fun a d=>oE (K .normal) a d) (fun a=>Lq (K .normal) b c a)
theorem ajH:∀ (α:Type) (K:KT α),Nx dg α K=ju.unc fun σ=>az Pg Ek0 aO FJ K σ:=aZ (fun α K=>by kernel_rfl)
def LY (v:jj)(α:Type)(K:KT α):Int->Int->Bool->Op α:=fun b c e=>v α b c (fun a d=>oE (K .normal) a d) (fun a=>Lq (K .normal) b c a)
theorem adq:∀ (α:Type) (K:KT α),LY dg α K=Co.unc fun σ=>az Pg Ek0 aO FJ K σ:=aZ (fun α K=>by kernel_rfl)
def FK:ah:=ah.sub [1,1,0] (emb NZ)
def mn (α:Type)(a b:Int)(k1:Int->Int->Op α)(k2:Bool->Op α):Op α:=
 cK (decide (65536<=a))
 (k1 (Int.fdiv a (2 ^ 16)) (w64 (b+16)))
 (k2 (decide (65536<=a)))
def dS:jj:=sld mn
def MC (v:jj)(α:Type)(K:KT α):Int->Int->Op α:=fun b c=>v α b c (fun a d=>oE (K .normal) a d) (fun a=>LH (K .normal) b c a)
theorem aeq:∀ (α:Type) (K:KT α),MC dS α K=ju.unc fun σ=>az Pg Ek0 aO FK K σ:=aZ (fun α K=>by kernel_rfl)
def NA (v:jj)(α:Type)(K:KT α):Int->Int->Bool->Op α:=fun b c e=>v α b c (fun a d=>oE (K .normal) a d) (fun a=>LH (K .normal) b c a)
theorem acH:∀ (α:Type) (K:KT α),NA dS α K=Ex.unc fun σ=>az Pg Ek0 aO FK K σ:=aZ (fun α K=>by kernel_rfl)
def adz:ah:=ah.sub [1,0] (emb NZ)
abbrev jd:Type 1:=(α:Type)->Int->(Int->Op α)->(Bool->Op α)->Op α
def ye (α:Type)(a:Int)(k1:Int->Op α)(k2:Bool->Op α):Op α:=
 cK (decide (4294967296<=a))
 (k1 (Int.fdiv a (2 ^ 32)))
 (k2 (decide (4294967296<=a)))
def jU:jd:=sld ye
def NV (v:jd)(α:Type)(K:KT α):Int->Int->Op α:=fun b c=>v α b (fun a=>oE (K .normal) a 32) (fun a=>ahf (K .normal) b c a)
theorem akT:∀ (α:Type) (K:KT α),NV jU α K=ju.unc fun σ=>az Pg Ek0 aO adz K σ:=aZ (fun α K=>by kernel_rfl)
def iO (α:Type)(a:Int)(k1:Int->Op α):Op α:=
 jU α a
 (fun b=>dS α b 32
 (fun c d=>dg α c d
 (fun h i=>nH (⟨#[0,1,2,2,3,3,3,3,4,4,4,4,4,4,4,4,5,5,5,5,5,5,5,5,5,5,5,5,5,5,5,5,6,6,6,6,6,6,6,6,6,6,6,6,6,6,6,6,6,6,6,6,6,6,6,6,6,6,6,6,6,6,6,6,7,7,7,7,7,7,7,7,7,7,7,7,7,7,7,7,7,7,7,7,7,7,7,7,7,7,7,7,7,7,7,7,7,7,7,7,7,7,7,7,7,7,7,7,7,7,7,7,7,7,7,7,7,7,7,7,7,7,7,7,7,7,7,7,8,8,8,8,8,8,8,8,8,8,8,8,8,8,8,8,8,8,8,8,8,8,8,8,8,8,8,8,8,8,8,8,8,8,8,8,8,8,8,8,8,8,8,8,8,8,8,8,8,8,8,8,8,8,8,8,8,8,8,8,8,8,8,8,8,8,8,8,8,8,8,8,8,8,8,8,8,8,8,8,8,8,8,8,8,8,8,8,8,8,8,8,8,8,8,8,8,8,8,8,8,8,8,8,8,8,8,8,8,8,8,8,8,8,8,8,8,8,8,8,8,8,8,8,8,8,8,8]⟩:BA) (IntKind.wrap .u8 (h))
 (fun j=>k1 (w64 (i+(w64 (((UInt8.toNat j:Nat):Int)))))))
 (fun D=>nH (⟨#[0,1,2,2,3,3,3,3,4,4,4,4,4,4,4,4,5,5,5,5,5,5,5,5,5,5,5,5,5,5,5,5,6,6,6,6,6,6,6,6,6,6,6,6,6,6,6,6,6,6,6,6,6,6,6,6,6,6,6,6,6,6,6,6,7,7,7,7,7,7,7,7,7,7,7,7,7,7,7,7,7,7,7,7,7,7,7,7,7,7,7,7,7,7,7,7,7,7,7,7,7,7,7,7,7,7,7,7,7,7,7,7,7,7,7,7,7,7,7,7,7,7,7,7,7,7,7,7,8,8,8,8,8,8,8,8,8,8,8,8,8,8,8,8,8,8,8,8,8,8,8,8,8,8,8,8,8,8,8,8,8,8,8,8,8,8,8,8,8,8,8,8,8,8,8,8,8,8,8,8,8,8,8,8,8,8,8,8,8,8,8,8,8,8,8,8,8,8,8,8,8,8,8,8,8,8,8,8,8,8,8,8,8,8,8,8,8,8,8,8,8,8,8,8,8,8,8,8,8,8,8,8,8,8,8,8,8,8,8,8,8,8,8,8,8,8,8,8,8,8,8,8,8,8,8,8]⟩:BA) (IntKind.wrap .u8 (c))
 (fun l=>k1 (w64 (d+(w64 (((UInt8.toNat l:Nat):Int))))))))
 (fun F=>dg α b 32
 (fun m o=>nH (⟨#[0,1,2,2,3,3,3,3,4,4,4,4,4,4,4,4,5,5,5,5,5,5,5,5,5,5,5,5,5,5,5,5,6,6,6,6,6,6,6,6,6,6,6,6,6,6,6,6,6,6,6,6,6,6,6,6,6,6,6,6,6,6,6,6,7,7,7,7,7,7,7,7,7,7,7,7,7,7,7,7,7,7,7,7,7,7,7,7,7,7,7,7,7,7,7,7,7,7,7,7,7,7,7,7,7,7,7,7,7,7,7,7,7,7,7,7,7,7,7,7,7,7,7,7,7,7,7,7,8,8,8,8,8,8,8,8,8,8,8,8,8,8,8,8,8,8,8,8,8,8,8,8,8,8,8,8,8,8,8,8,8,8,8,8,8,8,8,8,8,8,8,8,8,8,8,8,8,8,8,8,8,8,8,8,8,8,8,8,8,8,8,8,8,8,8,8,8,8,8,8,8,8,8,8,8,8,8,8,8,8,8,8,8,8,8,8,8,8,8,8,8,8,8,8,8,8,8,8,8,8,8,8,8,8,8,8,8,8,8,8,8,8,8,8,8,8,8,8,8,8,8,8,8,8,8,8]⟩:BA) (IntKind.wrap .u8 (m))
 (fun p=>k1 (w64 (o+(w64 (((UInt8.toNat p:Nat):Int)))))))
 (fun G=>nH (⟨#[0,1,2,2,3,3,3,3,4,4,4,4,4,4,4,4,5,5,5,5,5,5,5,5,5,5,5,5,5,5,5,5,6,6,6,6,6,6,6,6,6,6,6,6,6,6,6,6,6,6,6,6,6,6,6,6,6,6,6,6,6,6,6,6,7,7,7,7,7,7,7,7,7,7,7,7,7,7,7,7,7,7,7,7,7,7,7,7,7,7,7,7,7,7,7,7,7,7,7,7,7,7,7,7,7,7,7,7,7,7,7,7,7,7,7,7,7,7,7,7,7,7,7,7,7,7,7,7,8,8,8,8,8,8,8,8,8,8,8,8,8,8,8,8,8,8,8,8,8,8,8,8,8,8,8,8,8,8,8,8,8,8,8,8,8,8,8,8,8,8,8,8,8,8,8,8,8,8,8,8,8,8,8,8,8,8,8,8,8,8,8,8,8,8,8,8,8,8,8,8,8,8,8,8,8,8,8,8,8,8,8,8,8,8,8,8,8,8,8,8,8,8,8,8,8,8,8,8,8,8,8,8,8,8,8,8,8,8,8,8,8,8,8,8,8,8,8,8,8,8,8,8,8,8,8,8]⟩:BA) (IntKind.wrap .u8 (b))
 (fun q=>k1 (w64 (32+(w64 (((UInt8.toNat q:Nat):Int)))))))))
 (fun H=>dS α a 0
 (fun e g=>dg α e g
 (fun r s=>nH (⟨#[0,1,2,2,3,3,3,3,4,4,4,4,4,4,4,4,5,5,5,5,5,5,5,5,5,5,5,5,5,5,5,5,6,6,6,6,6,6,6,6,6,6,6,6,6,6,6,6,6,6,6,6,6,6,6,6,6,6,6,6,6,6,6,6,7,7,7,7,7,7,7,7,7,7,7,7,7,7,7,7,7,7,7,7,7,7,7,7,7,7,7,7,7,7,7,7,7,7,7,7,7,7,7,7,7,7,7,7,7,7,7,7,7,7,7,7,7,7,7,7,7,7,7,7,7,7,7,7,8,8,8,8,8,8,8,8,8,8,8,8,8,8,8,8,8,8,8,8,8,8,8,8,8,8,8,8,8,8,8,8,8,8,8,8,8,8,8,8,8,8,8,8,8,8,8,8,8,8,8,8,8,8,8,8,8,8,8,8,8,8,8,8,8,8,8,8,8,8,8,8,8,8,8,8,8,8,8,8,8,8,8,8,8,8,8,8,8,8,8,8,8,8,8,8,8,8,8,8,8,8,8,8,8,8,8,8,8,8,8,8,8,8,8,8,8,8,8,8,8,8,8,8,8,8,8,8]⟩:BA) (IntKind.wrap .u8 (r))
 (fun t=>k1 (w64 (s+(w64 (((UInt8.toNat t:Nat):Int)))))))
 (fun I=>nH (⟨#[0,1,2,2,3,3,3,3,4,4,4,4,4,4,4,4,5,5,5,5,5,5,5,5,5,5,5,5,5,5,5,5,6,6,6,6,6,6,6,6,6,6,6,6,6,6,6,6,6,6,6,6,6,6,6,6,6,6,6,6,6,6,6,6,7,7,7,7,7,7,7,7,7,7,7,7,7,7,7,7,7,7,7,7,7,7,7,7,7,7,7,7,7,7,7,7,7,7,7,7,7,7,7,7,7,7,7,7,7,7,7,7,7,7,7,7,7,7,7,7,7,7,7,7,7,7,7,7,8,8,8,8,8,8,8,8,8,8,8,8,8,8,8,8,8,8,8,8,8,8,8,8,8,8,8,8,8,8,8,8,8,8,8,8,8,8,8,8,8,8,8,8,8,8,8,8,8,8,8,8,8,8,8,8,8,8,8,8,8,8,8,8,8,8,8,8,8,8,8,8,8,8,8,8,8,8,8,8,8,8,8,8,8,8,8,8,8,8,8,8,8,8,8,8,8,8,8,8,8,8,8,8,8,8,8,8,8,8,8,8,8,8,8,8,8,8,8,8,8,8,8,8,8,8,8,8]⟩:BA) (IntKind.wrap .u8 (e))
 (fun w=>k1 (w64 (g+(w64 (((UInt8.toNat w:Nat):Int))))))))
 (fun J=>dg α a 0
 (fun z A=>nH (⟨#[0,1,2,2,3,3,3,3,4,4,4,4,4,4,4,4,5,5,5,5,5,5,5,5,5,5,5,5,5,5,5,5,6,6,6,6,6,6,6,6,6,6,6,6,6,6,6,6,6,6,6,6,6,6,6,6,6,6,6,6,6,6,6,6,7,7,7,7,7,7,7,7,7,7,7,7,7,7,7,7,7,7,7,7,7,7,7,7,7,7,7,7,7,7,7,7,7,7,7,7,7,7,7,7,7,7,7,7,7,7,7,7,7,7,7,7,7,7,7,7,7,7,7,7,7,7,7,7,8,8,8,8,8,8,8,8,8,8,8,8,8,8,8,8,8,8,8,8,8,8,8,8,8,8,8,8,8,8,8,8,8,8,8,8,8,8,8,8,8,8,8,8,8,8,8,8,8,8,8,8,8,8,8,8,8,8,8,8,8,8,8,8,8,8,8,8,8,8,8,8,8,8,8,8,8,8,8,8,8,8,8,8,8,8,8,8,8,8,8,8,8,8,8,8,8,8,8,8,8,8,8,8,8,8,8,8,8,8,8,8,8,8,8,8,8,8,8,8,8,8,8,8,8,8,8,8]⟩:BA) (IntKind.wrap .u8 (z))
 (fun B=>k1 (w64 (A+(w64 (((UInt8.toNat B:Nat):Int)))))))
 (fun L=>nH (⟨#[0,1,2,2,3,3,3,3,4,4,4,4,4,4,4,4,5,5,5,5,5,5,5,5,5,5,5,5,5,5,5,5,6,6,6,6,6,6,6,6,6,6,6,6,6,6,6,6,6,6,6,6,6,6,6,6,6,6,6,6,6,6,6,6,7,7,7,7,7,7,7,7,7,7,7,7,7,7,7,7,7,7,7,7,7,7,7,7,7,7,7,7,7,7,7,7,7,7,7,7,7,7,7,7,7,7,7,7,7,7,7,7,7,7,7,7,7,7,7,7,7,7,7,7,7,7,7,7,8,8,8,8,8,8,8,8,8,8,8,8,8,8,8,8,8,8,8,8,8,8,8,8,8,8,8,8,8,8,8,8,8,8,8,8,8,8,8,8,8,8,8,8,8,8,8,8,8,8,8,8,8,8,8,8,8,8,8,8,8,8,8,8,8,8,8,8,8,8,8,8,8,8,8,8,8,8,8,8,8,8,8,8,8,8,8,8,8,8,8,8,8,8,8,8,8,8,8,8,8,8,8,8,8,8,8,8,8,8,8,8,8,8,8,8,8,8,8,8,8,8,8,8,8,8,8,8]⟩:BA) (IntKind.wrap .u8 (a))
 (fun C=>k1 (w64 (0+(w64 (((UInt8.toNat C:Nat):Int)))))))))
def gW:ce:=sld iO
def zR:PT (List DV):=pA [pV false [(dI .u64)]]
def Rr (v:ce)(α:Type)(k:RT α):Int->Op α:=fun a=>v α a (fun b=>aR k b)
def ati:ah:=(ah.put (.m [⟨ju,NV jU⟩]) [1] (ah.put (.m [⟨ju,MC dS⟩,⟨Ex,NA dS⟩]) [1,1] (ah.put (.m [⟨ju,Nx dg⟩,⟨Co,LY dg⟩]) [1,1,1] (emb NZ))))
theorem apj:ak Pg 276 25 ⟨zR,Rr gW⟩:=iZ ek0 (ag Tryz.func276 (by kernel_rfl)) aO ati ((am _ _).trans ((am _ _).trans ((am _ _).trans (aA _)))) (aM (by kernel_rfl) (aM (by kernel_rfl) (aM (by kernel_rfl) (aD NZ) ⟨ajH,adq,trivial⟩) ⟨aeq,acH,trivial⟩) ⟨akT,trivial⟩) fun _ _=>by kernel_rfl
def aHW:TG:=[tT 0 [0,1],tT 1 [0,1,6],tT 2 [0,1,6,7],tT 3 [0,1,6,7,8],tT 4 [0,1,6,7,8,9],tT 5 [0,1,6,7,8,9,10],tT 6 [0,1,6,7,9,11],tT 7 [0,1,6,7,9,11,12],tT 8 [0,1,6,7,9,12,13],tT 9 [0,1,7,9,12,13],tT 10 [0,1,4],tT 11 [4,5]]
def aHN:aq:=aw Pg Tryz.f147 aHW aC
def abj:PT (List RV):=pRs [pR false [rD (dI .u64)],pR false [rD (dI .u64)]]
def Ft {β:Type}(g:List RV->β):Int->Int->β:=abj.unc g
def Ye (α:Type)(a b:Int)(k1:Int->Int->Op α):Op α:=
 k1 (IntKind.wrap .u64 ((IntKind.wrap .u64 ((IntKind.wrap .u64 ((Int.fdiv a (2 ^ 32))*(Int.fdiv b (2 ^ 32))))+(Int.fdiv (IntKind.wrap .u64 ((IntKind.wrap .u64 ((Int.fdiv a (2 ^ 32))*(mT .u64 b 4294967295)))+(Int.fdiv (IntKind.wrap .u64 ((mT .u64 a 4294967295)*(mT .u64 b 4294967295))) (2 ^ 32)))) (2 ^ 32))))+(Int.fdiv (IntKind.wrap .u64 ((mT .u64 (IntKind.wrap .u64 ((IntKind.wrap .u64 ((Int.fdiv a (2 ^ 32))*(mT .u64 b 4294967295)))+(Int.fdiv (IntKind.wrap .u64 ((mT .u64 a 4294967295)*(mT .u64 b 4294967295))) (2 ^ 32)))) 4294967295)+(IntKind.wrap .u64 ((mT .u64 a 4294967295)*(Int.fdiv b (2 ^ 32)))))) (2 ^ 32)))) (IntKind.wrap .u64 (a*b))
def xA:ee:=sld Ye
def SJ:PT (List DV):=pA [pV false [(dI .u64)],pV false [(dI .u64)]]
def SM (v:ee)(α:Type)(k:RT α):Int->Int->Op α:=fun a b=>v α a b (fun c d=>Ft k c d)
theorem auK:ak Pg 147 51 ⟨SJ,SM xA⟩:=iP ek0 aHN (ag Tryz.func147 (by kernel_rfl)) aO fun _ _=>by kernel_rfl
def aAH:TG:=[tT 0 [0],tT 1 [2]]
def aEB:aq:=aw Pg Tryz.f199 aAH aC
def Qd (α:Type)(a:Int)(k1:Int->Op α):Op α:=
 k1 (if (w64 (0 - a)) > a then (w64 (0 - a)) else a)
def oR:ce:=sld Qd
def Y9 (v:ce)(α:Type)(k:RT α):Int->Op α:=fun a=>v α a (fun b=>aR k b)
theorem am1:ak Pg 199 7 ⟨aU,Y9 oR⟩:=iP ek0 aEB (ag Tryz.func199 (by kernel_rfl)) aO fun _ _=>by kernel_rfl
def avB:SG:=[(6,iT),(8,iT),(11,iT),(13,iT)]
def aFE:TG:=[tT 0 [2,3,4],tT 1 [4]]
def aAY:aq:=aw Pg Tryz.f228 aFE aC
def US (α:Type)(a b c d:Int)(k1:Int->Int->Op α):Op α:=
 k1 (w64 (a - c)) (w64 (b - d))
def KY:fT:=sld US
def Wi (v:fT)(α:Type)(k:RT α):I4 (Op α):=fun a b c d=>v α a b c d (fun e g=>bv k e g)
theorem auL:ak Pg 228 16 ⟨fW,Wi KY⟩:=iP ek0 aAY (ag Tryz.func228 (by kernel_rfl)) avB fun _ _=>by kernel_rfl
def aGy:TG:=[tT 0 [0],tT 1 [2]]
def aBh:aq:=aw Pg Tryz.f233 aGy aC
def abD:PT (List RV):=pRs [pR false [rD (dF .f64)]]
def xY {β:Type}(g:List RV->β):Nat->β:=abD.unc g
abbrev A8:Type 1:=(α:Type)->Nat->(Nat->Op α)->Op α
def UI (α:Type)(a:Nat)(k1:Nat->Op α):Op α:=
 flK ((FloatKind.format .f64).sqrt a)
 (fun b=>k1 b)
def Jf:A8:=sld UI
def kc:PT (List DV):=pA [pV false [(dF .f64)]]
def Vk (v:A8)(α:Type)(k:RT α):Nat->Op α:=fun a=>v α a (fun b=>xY k b)
theorem aqQ:ak Pg 233 5 ⟨kc,Vk Jf⟩:=iP ek0 aBh (ag Tryz.func233 (by kernel_rfl)) aO fun _ _=>by kernel_rfl
def aiZ:SG:=[(4,iT),(6,iT),(9,iT),(11,iT)]
def aEb:TG:=[tT 0 [1],tT 1 [2]]
def aCf:aq:=aw Pg Tryz.f225 aEb aC
def sQ (α:Type)(a b:Int)(k1:Int->Op α):Op α:=
 k1 (w64 ((w64 (a*a))+(w64 (b*b))))
def jT:bB:=sld sQ
def UP (v:bB)(α:Type)(k:RT α):Int->Int->Op α:=fun a b=>v α a b (fun c=>aR k c)
theorem auD:ak Pg 225 14 ⟨ba,UP jT⟩:=iP ek0 aCf (ag Tryz.func225 (by kernel_rfl)) aiZ fun _ _=>by kernel_rfl
def aCJ:SG:=[(6,iT),(8,iT),(11,iT),(13,iT),(17,iT),(19,iT),(22,iT),(24,iT)]
def aIj:TG:=[tT 0 [2,3,4],tT 1 [4]]
def aAN:aq:=aw Pg Tryz.f220 aIj aC
def I3 (α:Type)(a b c d:Int)(k1:Int->Int->Op α):Op α:=
 k1 (w64 ((w64 (a*c)) - (w64 (b*d)))) (w64 ((w64 (a*d))+(w64 (b*c))))
def yv:fT:=sld I3
def Tq (v:fT)(α:Type)(k:RT α):I4 (Op α):=fun a b c d=>v α a b c d (fun e g=>bv k e g)
theorem aqf:ak Pg 220 28 ⟨fW,Tq yv⟩:=iP ek0 aAN (ag Tryz.func220 (by kernel_rfl)) aCJ fun _ _=>by kernel_rfl
def aFD:TG:=[tT 0 [2,3,4],tT 1 [4]]
def aGH:aq:=aw Pg Tryz.f218 aFD aC
def IX (α:Type)(a b c d:Int)(k1:Int->Int->Op α):Op α:=
 k1 (w64 (a+c)) (w64 (b+d))
def yc:fT:=sld IX
def V9 (v:fT)(α:Type)(k:RT α):I4 (Op α):=fun a b c d=>v α a b c d (fun e g=>bv k e g)
theorem aq5:ak Pg 218 16 ⟨fW,V9 yc⟩:=iP ek0 aGH (ag Tryz.func218 (by kernel_rfl)) avB fun _ _=>by kernel_rfl
def Of:SG:=[(9,iT),(12,iT),(15,iS 2)]
def aEW:TG:=[tT 0 [1,2,4],tT 1 [2,4,5,6],tT 2 [2,4,5,6,7],tT 3 [2,4,5,6],tT 4 [2,4,5,6],tT 5 [4]]
def aA5:TG:=[tT 2 [2,4,5,6]]
def XR:aq:=aw Pg Tryz.f231 aEW aA5
def uy:OT:=tdC (ah.sub [1,0,1,0] (emb XR))
def Dx:PT St:=pS [sP 2,sP 4,sI 5,sI 6] [au 2 [xI,xI],au 4 [xI,xI]]
def Ef {β:Type}(g:St->β):I6 β:=Dx.unc g
def ajO:PT St:=pS [sP 2,sP 4,sI 5,sI 6,sl 7 (aV false [(cD dB)])] [au 2 [xI,xI],au 4 [xI,xI]]
def to {β:Type}(g:St->β):Int->Int->Bool->I4 β:=ajO.unc g
def uj:ah:=ah.sub [1,0,1,0,0] (emb XR)
def nW (α:Type)(b a c d:Int)(kn:Int->Int->Int->Op α)(k1:Int->Bool->Int->Int->Op α):Op α:=
 cK (decide (a < b))
 (kn (w64 (a+1)) (w64 (0 - d)) c)
 (k1 a (decide (a < b)) c d)
def pv (α:Type)(a:Int)(k1:Int->Bool->Int->Int->Op α):Nat->Int->Int->Int->Op α
 | 0,_,_,_=>none
 | n+1,b,c,d=>nW α a b c d (pv α a k1 n) k1
def yM (α:Type)(a:Int)(k1:Int->Bool->Int->Int->Op α)(b c d:Int):Op α:=pv α a k1 aE b c d
abbrev qn:Type 1:=(α:Type)->Int->(Int->Bool->Int->Int->Op α)->Int->Int->Int->Op α
def n6:qn:=sld yM
def LQ (v:qn)(α:Type)(K:KT α):I6 (Op α):=fun a b c d e g=>v α a (fun h i j l=>to (K (.exit 0)) a h i j l e g) b c d
theorem acC (α:Type)(K:KT α)(Kn:SK α)(a b c d e g:Int):Ef (fun σ=>az Pg Ek0 Of uj (bI (fun σ=>br uy σ Kn) K) σ) a b c d e g=nW α a b c d (fun b c d=>Ef Kn a b c d e g) (fun h i j l=>to (K (.exit 0)) a h i j l e g):=by kernel_rfl
theorem afQ (α:Type)(K:KT α):∀ (n:Nat) (a b c d e g:Int),pv α a (fun h i j l=>to (K (.exit 0)) a h i j l e g) n b c d=Ef (aJ (az Pg Ek0 Of uj) uy K n) a b c d e g:=by
 intro n
 induction n with
 | zero=>intros;rfl
 | succ n ih=>intro a b c d e g;exact (congrArg (fun kn=>nW α a b c d kn (fun h i j l=>to (K (.exit 0)) a h i j l e g)) (funext fun b=>funext fun c=>funext fun d=>ih a b c d e g)).trans (acC α K (aJ (az Pg Ek0 Of uj) uy K n) a b c d e g).symm
theorem acI:∀ (α:Type) (K:KT α),LQ n6 α K=Dx.unc fun σ=>aJ (az Pg Ek0 Of uj) uy K aE σ:=aZ (fun α K=>funext fun a=>funext fun b=>funext fun c=>funext fun d=>funext fun e=>funext fun g=>afQ α K aE a b c d e g)
abbrev fU:Type 1:=(α:Type)->Int->Int->Int->(Int->Int->Op α)->Op α
def IE (α:Type)(a b c:Int)(k1:Int->Int->Op α):Op α:=
 n6 α c
 (fun g h d e=>k1 d e) 0 a b
def ni:fU:=sld IE
def zZ:PT (List DV):=pA [pV true [(dI .i64),(dI .i64)],vI]
def W4 (v:fU)(α:Type)(k:RT α):Int->Int->Int->Op α:=fun a b c=>v α a b c (fun d e=>bv k d e)
def asw:ah:=(ah.put (.m [⟨Dx,LQ n6⟩]) [1,0,1,0] (emb XR))
theorem aqO:ak Pg 231 16 ⟨zZ,W4 ni⟩:=iZ ek0 (ag Tryz.func231 (by kernel_rfl)) Of asw ((am _ _).trans (aA _)) (aW (td:=uy) (by kernel_rfl) (aD XR) ⟨acI,trivial⟩) fun _ _=>by kernel_rfl
def aCl:TG:=[tT 0 [0,2],tT 1 [2]]
def aGE:aq:=aw Pg Tryz.f236 aCl aC
abbrev R1:Type 1:=(α:Type)->Nat->Nat->(Int->Int->Op α)->Op α
def QG (α:Type)(a b:Nat)(k1:Int->Int->Op α):Op α:=
 ivK (f2i .f64 a .i64)
 (fun c=>ivK (f2i .f64 b .i64)
 (fun d=>k1 c d))
def Ku:R1:=sld QG
def Sn:PT (List DV):=pA [pV false [(dX .f64)]]
def Wd (v:R1)(α:Type)(k:RT α):Nat->Nat->Op α:=fun a b=>v α a b (fun c d=>bv k c d)
theorem amU:ak Pg 236 10 ⟨Sn,Wd Ku⟩:=iP ek0 aGE (ag Tryz.func236 (by kernel_rfl)) aO fun _ _=>by kernel_rfl
def aAx:TG:=[tT 0 [0],tT 1 [2]]
def aGJ:aq:=aw Pg Tryz.f109 aAx aC
def J5 (α:Type)(a:Nat)(k1:Nat->Op α):Op α:=
 k1 (Int.toNat (AU .u64 ((a:Nat):Int) 9223372036854775808))
def yF:A8:=sld J5
def T0 (v:A8)(α:Type)(k:RT α):Nat->Op α:=fun a=>v α a (fun b=>xY k b)
theorem aru:ak Pg 109 7 ⟨kc,T0 yF⟩:=iP ek0 aGJ (ag Tryz.func109 (by kernel_rfl)) aO fun _ _=>by kernel_rfl
def aIR:TG:=[tT 0 [0],tT 1 [2],tT 2 [2]]
def aLn:aq:=aw Pg Tryz.f83 aIR aC
def afO:PT (List RV):=pRs [pR false [rD (aJf .f64)]]
def agT {β:Type}(g:List RV->β):β:=afO.unc g
abbrev adT:Type 1:=(α:Type)->Nat->(Op α)->(Nat->Op α)->Op α
def ai8 (α:Type)(a:Nat)(k1:Op α)(k2:Nat->Op α):Op α:=
 cK (bM .f64 a)
 (k1)
 (k2 (oy a))
def Wt:adT:=sld ai8
def akK (v:adT)(α:Type)(k:RT α):Nat->Op α:=fun a=>v α a (agT k ) (fun b=>xY k b)
theorem ayv:ak Pg 83 7 ⟨kc,akK Wt⟩:=iP ek0 aLn (ag Tryz.func83 (by kernel_rfl)) aO fun _ _=>by kernel_rfl
def aF6:TG:=[tT 0 [0],tT 1 [3],tT 2 [2],tT 3 [2]]
def aHS:aq:=aw Pg Tryz.f222 aF6 aC
def AR (α:Type)(a:Bool)(k1:Int->Op α):Op α:=
 cK a
 (k1 1)
 (k1 0)
def jV:Aj:=sld AR
def TQ (v:Aj)(α:Type)(k:RT α):Bool->Op α:=fun a=>v α a (fun b=>aR k b)
theorem ao5:ak Pg 222 4 ⟨zT,TQ jV⟩:=iP ek0 aHS (ag Tryz.func222 (by kernel_rfl)) aO fun _ _=>by kernel_rfl
def aFO:SG:=[(11,[.cpx .f64,.int .i64])]
def aFH:TG:=[tT 0 [0,2,4,6],tT 1 [0,4,6],tT 2 [0,6]]
def aEx:aq:=aw Pg Tryz.f162 aFH aC
def abR:PT (List RV):=pRs [pR true [rD (dX .f64),rD (dI .i64)],pR true [rD (dI .i64),rD (dI .i64),rD (dI .i64),rD (dI .i64),rD (dI .i64),rD (dI .i64),rD (dI .i64),rD dL,rD (dI .i64),rD (dI .i64)]]
def cO {β:Type}(g:List RV->β):Nat->Nat->Int->Int->Int->Int->Int->Int->Int->Int->ae->Int->Int->β:=abR.unc g
def ib (α:Type)(k1:Op α):Op α:=
 k1
def dV:cX:=sld ib
def Zd:PT (List DV):=pA [pV false [(dMr [(dI .i64),(dI .i64),(dI .i64),(dI .i64),(dI .i64),(dI .i64),(dI .i64),dL,(dI .i64),(dI .i64)] 0)],pV true [(dX .f64),(dI .i64)],vI]
def Rc (v:cX)(α:Type)(k:RT α):Int->Int->Int->Int->Int->Int->Int->ae->Int->Int->Nat->Nat->Int->Int->Op α:=fun q a b c d e g h i j l m o p=>v α (cO k l m o p a b c d e g h i j)
theorem auz:ak Pg 162 12 ⟨Zd,Rc dV⟩:=iP ek0 aEx (ag Tryz.func162 (by kernel_rfl)) aFO fun _ _=>by kernel_rfl
def aF2:TG:=[tT 0 [1],tT 1 [2]]
def aDv:aq:=aw Pg Tryz.f258 aF2 aC
def aaf:PT (List RV):=pRs [pR false [rD (dX .f64)]]
def abQ {β:Type}(g:List RV->β):Nat->Nat->β:=aaf.unc g
abbrev Uw:Type 1:=(α:Type)->Int->Int->(Nat->Nat->Op α)->Op α
def X1 (α:Type)(a b:Int)(k1:Nat->Nat->Op α):Op α:=
 k1 (FloatKind.nearest .f64 a) (FloatKind.nearest .f64 b)
def K6:Uw:=sld X1
def YW (v:Uw)(α:Type)(k:RT α):Int->Int->Op α:=fun a b=>v α a b (fun c d=>abQ k c d)
theorem aqi:ak Pg 258 10 ⟨ba,YW K6⟩:=iP ek0 aDv (ag Tryz.func258 (by kernel_rfl)) Mo fun _ _=>by kernel_rfl
def aGm:TG:=[tT 0 [0,1],tT 1 [0,1,5],tT 2 [5,12],tT 3 [5],tT 4 [4]]
def aHj:aq:=aw Pg Tryz.f167 aGm aC
def Im (α:Type)(b a:Int)(k1:Int->Op α):Op α:=
 gK (a != 0) (gK (a != 0) (cK (decide ((Int.tmod b a) < 0))
 (k1 (w64 ((w64 (Int.tdiv b a)) - 1)))
 (k1 (w64 (Int.tdiv b a)))))
def gT:bB:=sld Im
def YC (v:bB)(α:Type)(k:RT α):Int->Int->Op α:=fun a b=>v α a b (fun c=>aR k c)
theorem anl:ak Pg 167 16 ⟨bt,YC gT⟩:=iP ek0 aHj (ag Tryz.func167 (by kernel_rfl)) aO fun _ _=>by kernel_rfl
def aBi:TG:=[tT 0 [0,1,2],tT 1 [6]]
def aBx:aq:=aw Pg Tryz.f203 aBi aC
abbrev cg:Type 1:=(α:Type)->Int->Int->Int->(Bool->Op α)->Op α
def IQ (α:Type)(a b c:Int)(k1:Bool->Op α):Op α:=
 cK (decide (b<=a))
 (k1 (decide (a<=c)))
 (k1 false)
def kU:cg:=sld IQ
def eY:PT (List DV):=pA [vI,vI,vI]
def QE (v:cg)(α:Type)(k:RT α):Int->Int->Int->Op α:=fun a b c=>v α a b c (fun d=>bi k d)
theorem aol:ak Pg 203 15 ⟨eY,QE kU⟩:=iP ek0 aBx (ag Tryz.func203 (by kernel_rfl)) aO fun _ _=>by kernel_rfl
def aFw:TG:=[tT 0 [0,1],tT 1 [4]]
def aGi:aq:=aw Pg Tryz.f135 aFw aC
def WV (α:Type)(b a:Int)(k1:Int->Op α):Op α:=
 gK (a != 0) (k1 (w64 (Int.tdiv b a)))
def jP:bB:=sld WV
def VA (v:bB)(α:Type)(k:RT α):Int->Int->Op α:=fun a b=>v α a b (fun c=>aR k c)
theorem ami:ak Pg 135 8 ⟨bt,VA jP⟩:=iP ek0 aGi (ag Tryz.func135 (by kernel_rfl)) aO fun _ _=>by kernel_rfl
def aFY:SG:=[(14,iT),(19,iT),(27,[.sl]),(34,[.sl]),(37,iS 5),(38,iS 5),(40,iS 2),(42,iT),(48,iT),(54,iT),(61,iT)]
def aHT:TG:=[tT 0 [0,1,4],tT 1 [0,1,4,7],tT 2 [0,4,5],tT 3 [0,1,4,21],tT 4 [0,4,6],tT 5 [0,4,5],tT 6 [0,4,5]]
def aDE:aq:=aw Pg Tryz.f161 aHT aC
def aag:PT (List RV):=pRs [pR true [rD (dI .i64),rD (dI .i64)],wI,pR true [rD (dI .i64),rD (dI .i64),rD (dI .i64),rD (dI .i64),rD (dI .i64),rD (dI .i64),rD (dI .i64),rD dL,rD (dI .i64),rD (dI .i64)]]
def abS {β:Type}(g:List RV->β):Int->Int->Int->Int->Int->Int->Int->Int->Int->Int->ae->Int->Int->β:=aag.unc g
abbrev WW:Type 1:=(α:Type)->Int->ae->Int->Int->Int->(Int->Int->Int->Op α)->Op α
def Rv (α:Type)(b:Int)(c:ae)(d e a:Int)(k1:Int->Int->Int->Op α):Op α:=
 cK (a == 0)
 (k1 b b 0)
 (cK (decide (a<=((List.length c:Nat):Int)))
 (dT c (w64 (a - 1)) [.int .i64,.int .i64,.int .i64,.int .i64,.int .i64]
 (fun g h j l i=>k1 g h i))
 (k1 d d e))
def rY:WW:=sld Rv
def ig:PT (List DV):=pA [pV false [(dMr [(dI .i64),(dI .i64),(dI .i64),(dI .i64),(dI .i64),(dI .i64),(dI .i64),dL,(dI .i64),(dI .i64)] 0)],vI]
def SN (v:WW)(α:Type)(k:RT α):Int->Int->Int->Int->Int->Int->Int->ae->Int->Int->Int->Op α:=fun e a g h i j l b c d m=>v α a b c d m (fun o p q=>abS k o p q e a g h i j l b c d)
theorem aqA:ak Pg 161 62 ⟨ig,SN rY⟩:=iP ek0 aDE (ag Tryz.func161 (by kernel_rfl)) aFY fun _ _=>by kernel_rfl
def aJX:SG:=[(8,iT),(10,iS 2),(12,iT),(14,iS 2),(16,[.sl]),(18,iS 2)]
def aLh:TG:=[(0,⟨[3,4,5,6],true,[⟨true,6,6,30606,5⟩],[]⟩),(1,⟨[6],true,[⟨true,6,6,30606,5⟩],[]⟩)]
def aLb:aq:=aw Pg Tryz.f94 aLh aC
def ah7:PT (List RV):=pRs [pR true [rD (dI .i64),rD (dI .i64),rD (dI .i64),rD (dI .i64),rD (dI .i64),rD (dI .i64),rD dL,rD (dI .i64),rD (dI .i64)]]
def abZ {β:Type}(g:List RV->β):Int->Int->Int->Int->Int->Int->ae->Int->Int->β:=ah7.unc g
def OS (α:Type)(k1:Op α):Op α:=
 k1
def G7:cX:=sld OS
def xu:PT (List DV):=pA [pV true [dL,dL,(dI .i64),(dI .i64)],pV true [(dI .i64),(dI .i64),(dI .i64),(dI .i64),(dI .i64),(dI .i64),(dI .i64),(dI .i64),(dI .i64)],pV true [(dI .i64),(dI .i64),(dI .i64),(dI .i64)]]
def adL (v:cX)(α:Type)(k:RT α):ae->ae->I15 (Op α):=fun l a b c m d e o p q r s t g h i j=>v α (abZ k e i j d g h a b c)
theorem ayR:ak Pg 94 20 ⟨xu,adL G7⟩:=iP ek0 aLb (ag Tryz.func94 (by kernel_rfl)) aJX fun _ _=>by kernel_rfl
def aJ8:TG:=[tT 0 [1,2],tT 1 [2]]
def aKU:aq:=aw Pg Tryz.f95 aJ8 aC
def OM (α:Type)(k1:Op α):Op α:=
 k1
def Fy:cX:=sld OM
def agw (v:cX)(α:Type)(k:RT α):I9 (Op α):=fun e g h a b c d i j=>v α (g5 k c d a b)
theorem axh:ak Pg 95 8 ⟨kW,agw Fy⟩:=iP ek0 aKU (ag Tryz.func95 (by kernel_rfl)) aCZ fun _ _=>by kernel_rfl
def aJs:TG:=[tT 0 [0,1,2],tT 1 [6]]
def aJ1:aq:=aw Pg Tryz.f41 aJs aC
def ahr (α:Type)(a b c:Int)(k1:Bool->Op α):Op α:=
 cK (decide (b<=a))
 (k1 (decide (a<=c)))
 (k1 false)
def pf:cg:=sld ahr
def aiV (v:cg)(α:Type)(k:RT α):Int->Int->Int->Op α:=fun a b c=>v α a b c (fun d=>bi k d)
theorem awF:ak Pg 41 15 ⟨eY,aiV pf⟩:=iP ek0 aJ1 (ag Tryz.func41 (by kernel_rfl)) aO fun _ _=>by kernel_rfl
def aJe:TG:=[tT 0 [0,1],tT 1 [4]]
def aLk:aq:=aw Pg Tryz.f81 aJe aC
def ajC (α:Type)(b a:Int)(k1:Int->Op α):Op α:=
 gK (a != 0) (k1 (w64 (Int.tdiv (w64 ((w64 (b+a)) - 1)) a)))
def nx:bB:=sld ajC
def acA (v:bB)(α:Type)(k:RT α):Int->Int->Op α:=fun a b=>v α a b (fun c=>aR k c)
theorem ayD:ak Pg 81 11 ⟨bt,acA nx⟩:=iP ek0 aLk (ag Tryz.func81 (by kernel_rfl)) aO fun _ _=>by kernel_rfl
def aJT:TG:=[tT 0 [0,1,2],tT 1 [6]]
def aKA:aq:=aw Pg Tryz.f80 aJT aC
def air (α:Type)(a b c:Int)(k1:Bool->Op α):Op α:=
 cK (decide (b<=a))
 (k1 (decide (a<=c)))
 (k1 false)
def ov:cg:=sld air
def adB (v:cg)(α:Type)(k:RT α):Int->Int->Int->Op α:=fun a b c=>v α a b c (fun d=>bi k d)
theorem awK:ak Pg 80 15 ⟨eY,adB ov⟩:=iP ek0 aKA (ag Tryz.func80 (by kernel_rfl)) aO fun _ _=>by kernel_rfl
def aJ9:TG:=[tT 0 [0,1,2],tT 1 [6]]
def aJB:aq:=aw Pg Tryz.f29 aJ9 aC
def afb (α:Type)(a b c:Int)(k1:Bool->Op α):Op α:=
 cK (decide (b<=a))
 (k1 (decide (a<=c)))
 (k1 false)
def lD:cg:=sld afb
def adP (v:cg)(α:Type)(k:RT α):Int->Int->Int->Op α:=fun a b c=>v α a b c (fun d=>bi k d)
theorem axK:ak Pg 29 15 ⟨eY,adP lD⟩:=iP ek0 aJB (ag Tryz.func29 (by kernel_rfl)) aO fun _ _=>by kernel_rfl
def aJD:TG:=[tT 0 [0],(1,⟨[2],true,[⟨false,2,0,20002,2⟩],[]⟩)]
def aKq:aq:=aw Pg Tryz.f32 aJD aC
def aiu:PT (List RV):=pRs [pR false [rO 2]]
def akW {β:Type}(g:List RV->β):ae->β:=aiu.unc g
abbrev IS:Type 1:=(α:Type)->ae->(ae->Op α)->Op α
def alu (α:Type)(a:ae)(k1:ae->Op α):Op α:=
 gK (dH 2 16 ([]:ae) a) (k1 (([]:ae)++a))
def Zb:IS:=sld alu
def pE:PT (List DV):=pA [pV false [dL]]
def akm (v:IS)(α:Type)(k:RT α):ae->Op α:=fun a=>v α a (fun b=>akW k b)
theorem axY:ak Pg 32 6 ⟨pE,akm Zb⟩:=iP ek0 aKq (ag Tryz.func32 (by kernel_rfl)) aO fun _ _=>by kernel_rfl
def aIK:TG:=[tT 0 [0],(1,⟨[2],true,[⟨false,2,0,20002,3⟩],[]⟩)]
def aJ4:aq:=aw Pg Tryz.f31 aIK aC
def ad3:PT (List RV):=pRs [pR false [rO 3]]
def aeb {β:Type}(g:List RV->β):ae->β:=ad3.unc g
def PW (α:Type)(a:ae)(k1:ae->Op α):Op α:=
 gK (dH 3 24 ([]:ae) a) (k1 (([]:ae)++a))
def Eu:IS:=sld PW
def aej (v:IS)(α:Type)(k:RT α):ae->Op α:=fun a=>v α a (fun b=>aeb k b)
theorem ayz:ak Pg 31 6 ⟨pE,aej Eu⟩:=iP ek0 aJ4 (ag Tryz.func31 (by kernel_rfl)) aO fun _ _=>by kernel_rfl
def tr8:TG:=[tT 0 [0,1,2],tT 1 [6]]
def ac8:aq:=aw Pg Tryz.f8 tr8 aC
def SO (α:Type)(a b c:Int)(k1:Bool->Op α):Op α:=
 cK (decide (b<=a))
 (k1 (decide (a<=c)))
 (k1 false)
def cF:cg:=sld SO
def awf (v:cg)(α:Type)(k:RT α):Int->Int->Int->Op α:=fun a b c=>v α a b c (fun d=>bi k d)
theorem aCe:ak Pg 8 15 ⟨eY,awf cF⟩:=iP ek0 ac8 (ag Tryz.func8 (by kernel_rfl)) aO fun _ _=>by kernel_rfl
def aJq:SG:=[(4,[.sl]),(9,[.sl]),(14,[.sl]),(21,[.sl]),(27,[.sl])]
def aKb:TG:=[tT 0 [1],tT 1 [2]]
def aI4:aq:=aw Pg Tryz.f28 aKb aC
abbrev KA:Type 1:=(α:Type)->ae->ae->ae->(Bool->Op α)->Op α
def af0 (α:Type)(a b c:ae)(k1:Bool->Op α):Op α:=
 cK (decide (((List.length a:Nat):Int)<=6))
 (cK (decide (((List.length b:Nat):Int)<=44))
 (k1 (decide (((List.length c:Nat):Int)<=3)))
 (k1 false))
 (cK (decide (40 < ((List.length a:Nat):Int)))
 (cK (decide (((List.length a:Nat):Int)<=42))
 (cK (decide (((List.length b:Nat):Int)<=44))
 (k1 (decide (((List.length c:Nat):Int)<=3)))
 (k1 false))
 (k1 false))
 (k1 false))
def YE:KA:=sld af0
def eN:PT (List DV):=pA [pV true [dL,dL,(dI .i64),dL,(dI .i64),(dI .i64)]]
def afY (v:KA)(α:Type)(k:RT α):ae->ae->Int->ae->Int->Int->Op α:=fun a b e c g h=>v α a b c (fun d=>bi k d)
theorem azg:ak Pg 28 31 ⟨eN,afY YE⟩:=iP ek0 aI4 (ag Tryz.func28 (by kernel_rfl)) aJq fun _ _=>by kernel_rfl
def avC:SG:=[(5,iS 2),(10,iT),(13,iT),(17,iT),(20,iT),(25,iS 2),(31,iS 2)]
def aAt:TG:=[tT 0 [1],tT 1 [1,29],tT 2 [2,3],tT 3 [2,3]]
def akQ:aq:=aw Pg Tryz.f104 aAt aC
def Ep:PT St:=pS [sP 1] [au 1 (xs 4)]
def aFX {β:Type}(g:St->β):I4 β:=Ep.unc g
def alg:PT St:=pS [sl 2 (aV false [(cD dB)]),sl 3 (aV false [(cD dB)])] []
def ajN {β:Type}(g:St->β):Bool->Bool->β:=alg.unc g
def aci:PT St:=pS [sP 1,sl 29 (aV false [(cD dB)])] [au 1 (xs 4)]
def adA {β:Type}(g:St->β):Bool->I4 β:=aci.unc g
def ZU:PT (List RV):=pRs [pR false [rD dB],pR false [rD dB]]
def aaL {β:Type}(g:List RV->β):Bool->Bool->β:=ZU.unc g
noncomputable abbrev Lk1:List bC:=⟨126,9,[⟨ba,Sk oY⟩]⟩::⟨91,16,[⟨bt,adM dD⟩]⟩::⟨273,14,[⟨bt,Ur kQ⟩]⟩::⟨246,22,[⟨aU,VK dj⟩]⟩::⟨8,15,[⟨eY,awf cF⟩]⟩::⟨31,6,[⟨pE,aej Eu⟩]⟩::⟨118,9,[⟨ba,Zo gh⟩]⟩::⟨150,9,[⟨ba,Qu oX⟩]⟩::⟨161,62,[⟨ig,SN rY⟩]⟩::⟨203,15,[⟨eY,QE kU⟩]⟩::⟨276,25,[⟨zR,Rr gW⟩]⟩::⟨228,16,[⟨fW,Wi KY⟩]⟩::⟨167,16,[⟨bt,YC gT⟩]⟩::⟨233,5,[⟨kc,Vk Jf⟩]⟩::⟨218,16,[⟨fW,V9 yc⟩]⟩::⟨109,7,[⟨kc,T0 yF⟩]⟩::⟨80,15,[⟨eY,adB ov⟩]⟩::⟨41,15,[⟨eY,aiV pf⟩]⟩::⟨29,15,[⟨eY,adP lD⟩]⟩::⟨32,6,[⟨pE,akm Zb⟩]⟩::⟨28,31,[⟨eN,afY YE⟩]⟩::⟨122,9,[⟨aU,WJ DZ⟩]⟩::⟨275,11,[⟨aU,Sr yh⟩]⟩::⟨225,14,[⟨ba,UP jT⟩]⟩::⟨231,16,[⟨zZ,W4 ni⟩]⟩::⟨83,7,[⟨kc,akK Wt⟩]⟩::⟨258,10,[⟨ba,YW K6⟩]⟩::⟨81,11,[⟨bt,acA nx⟩]⟩::⟨269,4,[⟨zT,Zy mK⟩]⟩::⟨245,7,[⟨aU,R5 xk⟩]⟩::⟨147,51,[⟨SJ,SM xA⟩]⟩::⟨199,7,[⟨aU,Y9 oR⟩]⟩::⟨236,10,[⟨Sn,Wd Ku⟩]⟩::⟨222,4,[⟨zT,TQ jV⟩]⟩::⟨209,21,[⟨UF,WX du⟩]⟩::⟨224,9,[⟨ba,WK Kq⟩]⟩::⟨220,28,[⟨fW,Tq yv⟩]⟩::⟨162,12,[⟨Zd,Rc dV⟩]⟩::⟨95,8,[⟨kW,agw Fy⟩]⟩::⟨94,20,[⟨xu,adL G7⟩]⟩::⟨261,2,[⟨j9,Ta mF⟩]⟩::⟨280,2,[⟨j9,QP yE⟩]⟩::⟨208,35,[⟨Ud,Wl sG⟩]⟩::⟨190,13,[⟨SB,UV Dh⟩]⟩::⟨174,26,[⟨cZ,Ro pH⟩]⟩::⟨175,10,[⟨ba,TT rT⟩]⟩::⟨278,22,[⟨qN,Yu JX⟩]⟩::⟨135,8,[⟨bt,VA jP⟩]⟩::⟨180,2,[⟨j9,X9 mJ⟩]⟩::⟨133,10,[⟨ba,Ui nd⟩]⟩::⟨177,10,[⟨ba,RF xB⟩]⟩::⟨178,27,[⟨eV,QV pb⟩]⟩::⟨179,20,[⟨fW,Qe oq⟩]⟩::⟨181,2,[⟨j9,Sw BE⟩]⟩::⟨103,12,[⟨bt,SP oe⟩]⟩::⟨134,10,[⟨ba,Qj yC⟩]⟩::⟨137,20,[⟨fW,VE od⟩]⟩::⟨75,8,[⟨kW,ahs LT⟩]⟩::⟨43,12,[⟨bt,afH ug⟩]⟩::Lk0
theorem ak1:bH Lk1 fun c=>bH c.l (ak Pg c.f c.nt):=⟨⟨aoE,trivial⟩,⟨awm,trivial⟩,⟨apw,trivial⟩,⟨aqb,trivial⟩,⟨aCe,trivial⟩,⟨ayz,trivial⟩,⟨aqT,trivial⟩,⟨amh,trivial⟩,⟨aqA,trivial⟩,⟨aol,trivial⟩,⟨apj,trivial⟩,⟨auL,trivial⟩,⟨anl,trivial⟩,⟨aqQ,trivial⟩,⟨aq5,trivial⟩,⟨aru,trivial⟩,⟨awK,trivial⟩,⟨awF,trivial⟩,⟨axK,trivial⟩,⟨axY,trivial⟩,⟨azg,trivial⟩,⟨atI,trivial⟩,⟨apB,trivial⟩,⟨auD,trivial⟩,⟨aqO,trivial⟩,⟨ayv,trivial⟩,⟨aqi,trivial⟩,⟨ayD,trivial⟩,⟨apr,trivial⟩,⟨apP,trivial⟩,⟨auK,trivial⟩,⟨am1,trivial⟩,⟨amU,trivial⟩,⟨ao5,trivial⟩,⟨aoJ,trivial⟩,⟨aoj,trivial⟩,⟨aqf,trivial⟩,⟨auz,trivial⟩,⟨axh,trivial⟩,⟨ayR,trivial⟩,⟨arQ,trivial⟩,⟨aqy,trivial⟩,⟨arU,trivial⟩,⟨arJ,trivial⟩,⟨atk,trivial⟩,⟨asf,trivial⟩,⟨auo,trivial⟩,⟨ami,trivial⟩,⟨apV,trivial⟩,⟨ar3,trivial⟩,⟨app,trivial⟩,⟨amJ,trivial⟩,⟨amK,trivial⟩,⟨asg,trivial⟩,⟨as0,trivial⟩,⟨auI,trivial⟩,⟨aql,trivial⟩,⟨ayn,trivial⟩,⟨awi,trivial⟩,ak0⟩
def Ek1:aF:=aF.ofIO Lk1 bu io0
theorem ek1:Ek1.Ok Pg:=aF.ofIO_ok aN ak1
def aht:ah:=ah.sub [1,0] (emb akQ)
abbrev qm:Type 1:=(α:Type)->Int->Int->Int->Int->(Op α)->(Bool->Op α)->Op α
def F1 (α:Type)(a b c d:Int)(k1:Op α)(k2:Bool->Op α):Op α:=
 oY α a b
 (fun g=>cK g
 (cK (decide ((w64 (d - c))<=(w64 (b - a))))
 (k1)
 (oY α c d
 (fun e=>cK (!e)
 (k1)
 (k2 (!e)))))
 (k2 false))
def vy:qm:=sld F1
def MO (v:qm)(α:Type)(K:KT α):I4 (Op α):=fun a b c d=>v α a b c d (ajN (K .ret) true true) (fun e=>adA (K .normal) e a b c d)
theorem agY:∀ (α:Type) (K:KT α),MO vy α K=Ep.unc fun σ=>az Pg Ek1 avC aht K σ:=aZ (fun α K=>by kernel_rfl)
abbrev Yn:Type 1:=(α:Type)->Int->Int->Int->Int->(Bool->Bool->Op α)->Op α
def Tw (α:Type)(c d a b:Int)(k1:Bool->Bool->Op α):Op α:=
 vy α c d a b
 (k1 true true)
 (fun g=>oY α a b
 (fun e=>k1 false e))
def pg:Yn:=sld Tw
def Te (v:Yn)(α:Type)(k:RT α):I4 (Op α):=fun a b c d=>v α a b c d (fun e g=>aaL k e g)
def arL:ah:=(ah.put (.m [⟨Ep,MO vy⟩]) [1] (emb akQ))
theorem ano:ak Pg 104 33 ⟨qN,Te pg⟩:=iZ ek1 (ag Tryz.func104 (by kernel_rfl)) avC arL ((am _ _).trans (aA _)) (aM (by kernel_rfl) (aD akQ) ⟨agY,trivial⟩) fun _ _=>by kernel_rfl
def aFf:TG:=[tT 0 [1],tT 1 [2]]
def aEq:aq:=aw Pg Tryz.f102 aFf aC
def V4 (α:Type)(a b:Int)(k1:Int->Op α):Op α:=
 dD α (w64 (a+b)) 2
 (fun c=>k1 c)
def fB:bB:=sld V4
def VF (v:bB)(α:Type)(k:RT α):Int->Int->Op α:=fun a b=>v α a b (fun c=>aR k c)
theorem aq2:ak Pg 102 9 ⟨ba,VF fB⟩:=iP ek1 aEq (ag Tryz.func102 (by kernel_rfl)) MQ fun _ _=>by kernel_rfl
end
end Go.AM.K
