/- Printed by KGen. -/
import Derived.Test.YtffcelhcekillaaGreatProg
import Derived.Test.YtffcelhcekillaaGreatKS1
namespace Go.AM.K
open Go.Proofs
set_option maxRecDepth 100000
set_option linter.unusedVariables false
noncomputable section
noncomputable abbrev Pg:=Tryz.prog
abbrev I8 (t:Type):Type:=Int->Int->Int->Int->Int->Int->Int->Int->t
abbrev I15 (t:Type):Type:=Int->Int->Int->Int->Int->Int->Int->Int->Int->Int->Int->Int->Int->Int->Int->t
abbrev I25 (t:Type):Type:=Int->Int->Int->Int->Int->Int->Int->Int->Int->Int->Int->Int->Int->Int->Int->Int->Int->Int->Int->Int->Int->Int->Int->Int->Int->t
abbrev I38 (t:Type):Type:=Int->Int->Int->Int->Int->Int->Int->Int->Int->Int->Int->Int->Int->Int->Int->Int->Int->Int->Int->Int->Int->Int->Int->Int->Int->Int->Int->Int->Int->Int->Int->Int->Int->Int->Int->Int->Int->Int->t
theorem Do:Pg.follows .mixedOrders=true:=by kernel_rfl
theorem iZ {E:aE}{f nt:Nat}{tr tl:TG}{ac:aq}{rs:List dQ}{T:Type 1}{b:T}{pa:PT (List DV)}{Fn:T->(α:Type)->(List RV->Op α)->pa.Cur (Op α)}
 (hE:E.Ok Pg) (hf:tE Pg f nt tr tl ac rs) (sh:SG) (cm:ag) (em:cm.erase=ac) (gm:cm.Good Pg E sh) (fm:∀ (α:Type) (k:RT α),Fn b α k=pa.unc fun ds=>fnM Pg E sh cm rs k ds):ak Pg f nt ⟨pa,Fn (sld b)⟩:=akd hE Do hf sh cm em gm fm
theorem iP {E:aE}{f nt:Nat}{tr tl:TG}{rs:List dQ}{T:Type 1}{b:T}{pa:PT (List DV)}{Fn:T->(α:Type)->(List RV->Op α)->pa.Cur (Op α)}
 (hE:E.Ok Pg) (ac:aq) (hf:tE Pg f nt tr tl ac rs) (sh:SG) (fm:∀ (α:Type) (k:RT α),Fn b α k=pa.unc fun ds=>fnM Pg E sh (emb ac) rs k ds):ak Pg f nt ⟨pa,Fn (sld b)⟩:=akd hE Do hf sh (emb ac) (aA _) (aD ac) fm
def LW:SG:=[(4,iT),(6,iT)]
def aHH:TG:=[tT 0 [1],tT 1 [2]]
def aC:TG:=[]
def aEx:aq:=aw Pg Tryz.f126 aHH aC
def Z9:PT (List RV):=pRs [pR false [rD dB]]
def bi {β:Type}(g:List RV->β):Bool->β:=Z9.unc g
def io0:List (Nat × List Nat):=[(74,[0]),(96,[0]),(128,[0]),(129,[0]),(130,[0]),(131,[0]),(136,[0]),(153,[0]),(154,[0]),(155,[0]),(156,[0]),(157,[0]),(159,[0]),(160,[0]),(161,[0]),(162,[0]),(172,[0]),(173,[0]),(182,[0]),(183,[0]),(184,[0]),(185,[0]),(191,[0]),(205,[0]),(206,[0]),(207,[0]),(209,[0]),(213,[0]),(237,[0]),(238,[0]),(239,[0]),(240,[0]),(242,[0]),(243,[0]),(262,[0]),(263,[0]),(264,[0]),(277,[0]),(279,[0])]
noncomputable abbrev Lk0:List bA:=[]
theorem ak0:bG Lk0 fun c=>bG c.l (ak Pg c.f c.nt):=trivial
def Ek0:aE:=aE.ofIO Lk0 bt io0
theorem ek0:Ek0.Ok Pg:=aE.ofIO_ok aN ak0
abbrev bI:Type 1:=(α:Type)->Int->Int->(Bool->Op α)->Op α
def Yf (α:Type)(a b:Int)(k1:Bool->Op α):Op α:=
 k1 (decide (2<=(w64 (b - a))))
def ot:bI:=sld Yf
def ba:PT (List DV):=pA [pV true [(dI .i64),(dI .i64)]]
def UP (v:bI)(α:Type)(k:RT α):Int->Int->Op α:=fun a b=>v α a b (fun c=>bi k c)
theorem ao7:ak Pg 126 9 ⟨ba,UP ot⟩:=iP ek0 aEx (ah Tryz.func126 (by kernel_rfl)) LW fun _ _=>by kernel_rfl
def aO:SG:=[]
def aBy:TG:=[tT 0 [0,1,4],tT 1 [4]]
def aB5:aq:=aw Pg Tryz.f103 aBy aC
def abN:PT (List RV):=pRs [pR true [rD (dI .i64),rD (dI .i64),rD (dI .i64),rD (dI .i64)]]
def gY {β:Type}(g:List RV->β):I4 β:=abN.unc g
abbrev cW:Type 1:=(α:Type)->(Op α)->Op α
def Rp (α:Type)(k1:Op α):Op α:=
 k1
def jB:cW:=sld Rp
def br:PT (List DV):=pA [vI,vI]
def Wd (v:cW)(α:Type)(k:RT α):Int->Int->Op α:=fun a b=>v α (gY k a a b b)
theorem aod:ak Pg 103 12 ⟨br,Wd jB⟩:=iP ek0 aB5 (ah Tryz.func103 (by kernel_rfl)) aO fun _ _=>by kernel_rfl
def avX:SG:=[(6,iT),(9,iT),(13,iT),(16,iT)]
def aCs:TG:=[tT 0 [2,3,4],tT 1 [4]]
def aDU:aq:=aw Pg Tryz.f179 aCs aC
def ab1:PT (List RV):=pRs [pR true [rD (dI .i64),rD (dI .i64)]]
def bu {β:Type}(g:List RV->β):Int->Int->β:=ab1.unc g
abbrev fP:Type 1:=(α:Type)->Int->Int->Int->Int->(Int->Int->Op α)->Op α
def Rk (α:Type)(a b c d:Int)(k1:Int->Int->Op α):Op α:=
 k1 (if (w64 ((w64 (1048576 - b)) - d)) > 0 then (w64 ((w64 (1048576 - b)) - d)) else 0) (if (w64 ((w64 (1048576 - a)) - c)) > 0 then (w64 ((w64 (1048576 - a)) - c)) else 0)
def nG:fP:=sld Rk
def fQ:PT (List DV):=pA [pV true [(dI .i64),(dI .i64)],pV true [(dI .i64),(dI .i64)]]
def TE (v:fP)(α:Type)(k:RT α):I4 (Op α):=fun a b c d=>v α a b c d (fun e g=>bu k e g)
theorem auR:ak Pg 179 20 ⟨fQ,TE nG⟩:=iP ek0 aDU (ah Tryz.func179 (by kernel_rfl)) avX fun _ _=>by kernel_rfl
def NA:SG:=[(7,iT),(11,[.sl]),(19,[.sl]),(21,iS 5),(23,iT)]
def aGm:TG:=[tT 0 [1],tT 1 [1,3],tT 2 [1,3,4],tT 3 [1,3,4,13],tT 5 [1,3,4],tT 4 [1,3,4],tT 6 [2]]
def aFh:TG:=[(3,⟨[1,3,4],true,[⟨true,1,6,30106,5⟩],[]⟩)]
def WQ:aq:=aw Pg Tryz.f178 aGm aFh
def sO:OT:=tdC (ag.sub [1,1,0,1,0] (emb WQ))
def DL:PT St:=pS [sP 1,sl 3 (aV false [(cD dB)]),sI 4] [au 1 [xI,xI,xI,xI,xI,xI,(cD dL),xI,xI]]
def Dr {β:Type}(g:St->β):Bool->Int->Int->Int->Int->Int->Int->Int->ae->Int->Int->β:=DL.unc g
def akl:PT St:=pS [sP 1,sl 3 (aV false [(cD dB)]),sI 4,sl 13 (aV false [(cD dB)])] [au 1 [xI,xI,xI,xI,xI,xI,(cD dL),xI,xI]]
def uP {β:Type}(g:St->β):Bool->Int->Bool->Int->Int->Int->Int->Int->Int->ae->Int->Int->β:=akl.unc g
def sL:ag:=ag.sub [1,1,0,1,0,0] (emb WQ)
def pq (α:Type)(b:ae)(c:Bool)(a:Int)(kn:Bool->Int->Op α)(k1:Bool->Int->Bool->Op α):Op α:=
 cK (decide (a < ((List.length b:Nat):Int)))
 (cK c
 (kn true (w64 (a+1)))
 (dG b a [.int .i64,.int .i64,.int .i64,.int .i64,.int .i64]
 (fun e g h i d=>kn (d != 0) (w64 (a+1)))))
 (k1 c a (decide (a < ((List.length b:Nat):Int))))
def lg (α:Type)(a:ae)(k1:Bool->Int->Bool->Op α):Nat->Bool->Int->Op α
 | 0,_,_=>none
 | n+1,b,c=>pq α a b c (lg α a k1 n) k1
def GM (α:Type)(a:ae)(k1:Bool->Int->Bool->Op α)(b:Bool)(c:Int):Op α:=lg α a k1 aF b c
abbrev Hr:Type 1:=(α:Type)->ae->(Bool->Int->Bool->Op α)->Bool->Int->Op α
def vb:Hr:=sld GM
def NW (v:Hr)(α:Type)(K:KT α):Bool->Int->Int->Int->Int->Int->Int->Int->ae->Int->Int->Op α:=fun b c d e g h i j a l m=>v α a (fun o p q=>uP (K (.exit 0)) o p q d e g h i j a l m) b c
theorem aeS (α:Type)(K:KT α)(Kn:SK α)(a:Bool)(b d e g h i j:Int)(c:ae)(l m:Int):Dr (fun σ=>az Pg Ek0 NA sL (bK (fun σ=>bq sO σ Kn) K) σ) a b d e g h i j c l m=pq α c a b (fun a b=>Dr Kn a b d e g h i j c l m) (fun o p q=>uP (K (.exit 0)) o p q d e g h i j c l m):=by kernel_rfl
theorem ajC (α:Type)(K:KT α):∀ (n:Nat) (b:Bool) (c d e g h i j:Int) (a:ae) (l m:Int),lg α a (fun o p q=>uP (K (.exit 0)) o p q d e g h i j a l m) n b c=Dr (aJ (az Pg Ek0 NA sL) sO K n) b c d e g h i j a l m:=by
 intro n
 induction n with
 | zero=>intros;rfl
 | succ n ih=>intro b c d e g h i j a l m;exact (congrArg (fun kn=>pq α a b c kn (fun o p q=>uP (K (.exit 0)) o p q d e g h i j a l m)) (funext fun b=>funext fun c=>ih b c d e g h i j a l m)).trans (aeS α K (aJ (az Pg Ek0 NA sL) sO K n) b c d e g h i j a l m).symm
theorem af1:∀ (α:Type) (K:KT α),NW vb α K=DL.unc fun σ=>aJ (az Pg Ek0 NA sL) sO K aF σ:=aZ (fun α K=>funext fun a=>funext fun b=>funext fun c=>funext fun d=>funext fun e=>funext fun g=>funext fun h=>funext fun i=>funext fun j=>funext fun l=>funext fun m=>ajC α K aF a b c d e g h i j l m)
abbrev YT:Type 1:=(α:Type)->ae->Int->(Bool->Op α)->Op α
def Ri (α:Type)(a:ae)(b:Int)(k1:Bool->Op α):Op α:=
 vb α a
 (fun c d e=>k1 c) (b != 0) 0
def nQ:YT:=sld Ri
def eV:PT (List DV):=pA [pV true [(dI .i64),(dI .i64),(dI .i64),(dI .i64),(dI .i64),(dI .i64),dL,(dI .i64),(dI .i64)]]
def QQ (v:YT)(α:Type)(k:RT α):Int->Int->Int->Int->Int->Int->ae->Int->Int->Op α:=fun d e g h i j a l b=>v α a b (fun c=>bi k c)
def aru:ag:=(ag.put (.m [⟨DL,NW vb⟩]) [1,1,0,1,0] (emb WQ))
theorem aqm:ak Pg 178 27 ⟨eV,QQ nQ⟩:=iZ ek0 (ah Tryz.func178 (by kernel_rfl)) NA aru ((an _ _).trans (aA _)) (aY (td:=sO) (by kernel_rfl) (aD WQ) ⟨af1,trivial⟩) fun _ _=>by kernel_rfl
def Oc:SG:=[(4,iT),(7,iT)]
def aId:TG:=[tT 0 [1,2],tT 1 [2]]
def aE3:aq:=aw Pg Tryz.f177 aId aC
abbrev dV:Type 1:=(α:Type)->Int->Int->(Int->Int->Op α)->Op α
def V7 (α:Type)(a b:Int)(k1:Int->Int->Op α):Op α:=
 k1 (if a < 1048576 then a else 1048576) (if b < 1048576 then b else 1048576)
def yo:dV:=sld V7
def Uv (v:dV)(α:Type)(k:RT α):Int->Int->Op α:=fun a b=>v α a b (fun c d=>bu k c d)
theorem asY:ak Pg 177 10 ⟨ba,Uv yo⟩:=iP ek0 aE3 (ah Tryz.func177 (by kernel_rfl)) Oc fun _ _=>by kernel_rfl
def aGQ:TG:=[tT 0 [0],tT 1 [0]]
def aCS:aq:=aw Pg Tryz.f280 aGQ aC
def abg:PT (List RV):=pRs [pR true [rD (dI .i64),rD (dI .i64),rD (dI .i64)]]
def xu {β:Type}(g:List RV->β):Int->Int->Int->β:=abg.unc g
def RA (α:Type)(k1:Op α):Op α:=
 k1
def ya:cW:=sld RA
def kE:PT (List DV):=pA []
def U5 (v:cW)(α:Type)(k:RT α):Op α:=v α (xu k 524288 0 0)
theorem asM:ak Pg 280 2 ⟨kE,U5 ya⟩:=iP ek0 aCS (ah Tryz.func280 (by kernel_rfl)) aO fun _ _=>by kernel_rfl
def aCF:SG:=[(5,iT),(9,iT),(14,iT),(18,iT)]
def aEm:TG:=[tT 0 [1,2],tT 1 [2]]
def aDf:aq:=aw Pg Tryz.f278 aEm aC
abbrev Ag:Type 1:=(α:Type)->Int->Int->Int->Int->(I4 (Op α))->Op α
def WO (α:Type)(a b c d:Int)(k1:I4 (Op α)):Op α:=
 k1 (w64 (2*a)) (w64 (2*b)) (w64 (2*c)) (w64 (2*d))
def Ja:Ag:=sld WO
def q8:PT (List DV):=pA [pV true [(dI .i64),(dI .i64),(dI .i64),(dI .i64)]]
def Rs (v:Ag)(α:Type)(k:RT α):I4 (Op α):=fun a b c d=>v α a b c d (fun e g h i=>gY k e g h i)
theorem anE:ak Pg 278 22 ⟨q8,Rs Ja⟩:=iP ek0 aDf (ah Tryz.func278 (by kernel_rfl)) aCF fun _ _=>by kernel_rfl
def aFq:TG:=[tT 0 [1,2],tT 1 [2]]
def aGO:aq:=aw Pg Tryz.f175 aFq aC
def Xb (α:Type)(a b:Int)(k1:Int->Int->Op α):Op α:=
 k1 (if a > 0 then a else 0) (if b > 0 then b else 0)
def su:dV:=sld Xb
def Ry (v:dV)(α:Type)(k:RT α):Int->Int->Op α:=fun a b=>v α a b (fun c d=>bu k c d)
theorem asq:ak Pg 175 10 ⟨ba,Ry su⟩:=iP ek0 aGO (ah Tryz.func175 (by kernel_rfl)) Oc fun _ _=>by kernel_rfl
def aAO:TG:=[tT 0 [0],tT 1 [0]]
def aCO:aq:=aw Pg Tryz.f261 aAO aC
def Vb (α:Type)(k1:Op α):Op α:=
 k1
def mm:cW:=sld Vb
def P4 (v:cW)(α:Type)(k:RT α):Op α:=v α (xu k 1048576 0 0)
theorem arF:ak Pg 261 2 ⟨kE,P4 mm⟩:=iP ek0 aCO (ah Tryz.func261 (by kernel_rfl)) aO fun _ _=>by kernel_rfl
def aA1:SG:=[(4,iT),(6,iT),(9,iT),(11,iT),(15,iT),(17,iT),(20,iT),(22,iT)]
def aFM:TG:=[tT 0 [1,2],tT 1 [2]]
def aFL:aq:=aw Pg Tryz.f174 aFM aC
abbrev kf:Type 1:=(α:Type)->Int->Int->Int->(I4 (Op α))->Op α
def XB (α:Type)(b c a:Int)(k1:I4 (Op α)):Op α:=
 k1 (w64 (b - a)) (w64 (b+a)) (w64 (c - a)) (w64 (c+a))
def o4:kf:=sld XB
def cT:PT (List DV):=pA [pV true [(dI .i64),(dI .i64),(dI .i64)]]
def U1 (v:kf)(α:Type)(k:RT α):Int->Int->Int->Op α:=fun a b c=>v α a b c (fun d e g h=>gY k d e g h)
theorem auf:ak Pg 174 26 ⟨cT,U1 o4⟩:=iP ek0 aFL (ah Tryz.func174 (by kernel_rfl)) aA1 fun _ _=>by kernel_rfl
def aGz:TG:=[tT 0 [0],tT 1 [2]]
def aBR:aq:=aw Pg Tryz.f245 aGz aC
def aap:PT (List RV):=pRs [wI]
def aR {β:Type}(g:List RV->β):Int->β:=aap.unc g
abbrev cg:Type 1:=(α:Type)->Int->(Int->Op α)->Op α
def Uk (α:Type)(a:Int)(k1:Int->Op α):Op α:=
 k1 (if (w64 (0 - a)) > a then (w64 (0 - a)) else a)
def xX:cg:=sld Uk
def aU:PT (List DV):=pA [vI]
def Yk (v:cg)(α:Type)(k:RT α):Int->Op α:=fun a=>v α a (fun b=>aR k b)
theorem auB:ak Pg 245 7 ⟨aU,Yk xX⟩:=iP ek0 aBR (ah Tryz.func245 (by kernel_rfl)) aO fun _ _=>by kernel_rfl
def aEW:TG:=[tT 0 [0],tT 1 [0,3,4],tT 2 [0,3,4,6],tT 3 [0,3,4,15],tT 4 [0,3,4],tT 5 [0,3,4],tT 6 [2]]
def aFe:TG:=[tT 2 [0,3,4]]
def WU:aq:=aw Pg Tryz.f246 aEW aFe
def wy:OT:=tdC (ag.sub [1,1,0,0] (emb WU))
def DQ:PT St:=pS [sI 0,sI 3,sI 4] []
def Cg {β:Type}(g:St->β):Int->Int->Int->β:=DQ.unc g
def ae3:PT St:=pS [sI 0,sI 3,sI 4,sl 6 (aV false [(cD dB)])] []
def ui {β:Type}(g:St->β):Int->Int->Int->Bool->β:=ae3.unc g
def vt:ag:=ag.sub [1,1,0,0,0] (emb WU)
def o7 (α:Type)(c b a:Int)(kn:Int->Int->Op α)(k1:Int->Int->Bool->Op α):Op α:=
 cK (decide (0 < a))
 (cK (decide ((w64 ((w64 (b+a))*(w64 (b+a))))<=c))
 (kn (w64 (b+a)) (w64 (Int.tdiv a 2)))
 (kn b (w64 (Int.tdiv a 2))))
 (k1 b a (decide (0 < a)))
def lG (α:Type)(a:Int)(k1:Int->Int->Bool->Op α):Nat->Int->Int->Op α
 | 0,_,_=>none
 | n+1,b,c=>o7 α a b c (lG α a k1 n) k1
def G4 (α:Type)(a:Int)(k1:Int->Int->Bool->Op α)(b c:Int):Op α:=lG α a k1 aF b c
abbrev gw:Type 1:=(α:Type)->Int->(Int->Int->Bool->Op α)->Int->Int->Op α
def uT:gw:=sld G4
def K4 (v:gw)(α:Type)(K:KT α):Int->Int->Int->Op α:=fun a b c=>v α a (fun d e g=>ui (K (.exit 0)) a d e g) b c
theorem amo (α:Type)(K:KT α)(Kn:SK α)(a b c:Int):Cg (fun σ=>az Pg Ek0 aO vt (bK (fun σ=>bq wy σ Kn) K) σ) a b c=o7 α a b c (fun b c=>Cg Kn a b c) (fun d e g=>ui (K (.exit 0)) a d e g):=by kernel_rfl
theorem agS (α:Type)(K:KT α):∀ (n:Nat) (a b c:Int),lG α a (fun d e g=>ui (K (.exit 0)) a d e g) n b c=Cg (aJ (az Pg Ek0 aO vt) wy K n) a b c:=by
 intro n
 induction n with
 | zero=>intros;rfl
 | succ n ih=>intro a b c;exact (congrArg (fun kn=>o7 α a b c kn (fun d e g=>ui (K (.exit 0)) a d e g)) (funext fun b=>funext fun c=>ih a b c)).trans (amo α K (aJ (az Pg Ek0 aO vt) wy K n) a b c).symm
theorem aek:∀ (α:Type) (K:KT α),K4 uT α K=DQ.unc fun σ=>aJ (az Pg Ek0 aO vt) wy K aF σ:=aZ (fun α K=>funext fun a=>funext fun b=>funext fun c=>agS α K aF a b c)
def R4 (α:Type)(a:Int)(k1:Int->Op α):Op α:=
 uT α a
 (fun b c d=>k1 b) 0 1073741824
def de:cg:=sld R4
def Wq (v:cg)(α:Type)(k:RT α):Int->Op α:=fun a=>v α a (fun b=>aR k b)
def amO:ag:=(ag.put (.m [⟨DQ,K4 uT⟩]) [1,1,0,0] (emb WU))
theorem apk:ak Pg 246 22 ⟨aU,Wq de⟩:=iZ ek0 (ah Tryz.func246 (by kernel_rfl)) aO amO ((an _ _).trans (aA _)) (aY (td:=wy) (by kernel_rfl) (aD WU) ⟨aek,trivial⟩) fun _ _=>by kernel_rfl
def aGi:TG:=[tT 0 [0,1],tT 1 [0,1],tT 2 [0,1,9],tT 3 [0],tT 4 [4]]
def aIa:aq:=aw Pg Tryz.f273 aGi aC
abbrev bz:Type 1:=(α:Type)->Int->Int->(Int->Op α)->Op α
def Ru (α:Type)(b a:Int)(k1:Int->Op α):Op α:=
 gK (a != 0) (cK (decide ((Int.tmod b a) < 0))
 (k1 (w64 ((Int.tmod b a)+a)))
 (k1 (Int.tmod b a)))
def kW:bz:=sld Ru
def US (v:bz)(α:Type)(k:RT α):Int->Int->Op α:=fun a b=>v α a b (fun c=>aR k c)
theorem atj:ak Pg 273 14 ⟨br,US kW⟩:=iP ek0 aIa (ah Tryz.func273 (by kernel_rfl)) aO fun _ _=>by kernel_rfl
def aEH:TG:=[tT 0 [0],tT 1 [3],tT 2 [2],tT 3 [2]]
def aBz:aq:=aw Pg Tryz.f269 aEH aC
abbrev AF:Type 1:=(α:Type)->Bool->(Int->Op α)->Op α
def So (α:Type)(a:Bool)(k1:Int->Op α):Op α:=
 cK a
 (k1 1)
 (k1 0)
def mP:AF:=sld So
def Af:PT (List DV):=pA [pV false [dB]]
def R1 (v:AF)(α:Type)(k:RT α):Bool->Op α:=fun a=>v α a (fun b=>aR k b)
theorem ao9:ak Pg 269 4 ⟨Af,R1 mP⟩:=iP ek0 aBz (ah Tryz.func269 (by kernel_rfl)) aO fun _ _=>by kernel_rfl
def aFn:SG:=[(10,iT),(20,iS 3)]
def aHM:TG:=[tT 0 [0,2,4,6],tT 1 [0,2,4,6,11],tT 2 [0,6],tT 3 [0,2,4,6,14],tT 4 [0,6],tT 5 [0,6],tT 6 [0,6]]
def aF6:aq:=aw Pg Tryz.f209 aHM aC
def aaQ:PT (List RV):=pRs [pR true [rD (dI .i64),rD (dI .i64),rD (dI .i64)],pR true [rD (dI .i64)]]
def ee {β:Type}(g:List RV->β):I4 β:=aaQ.unc g
abbrev zM:Type 1:=(α:Type)->Int->Int->Int->Int->Int->(I4 (Op α))->Op α
def Rf (α:Type)(a c d e b:Int)(k1:I4 (Op α)):Op α:=
 cK (a != 0)
 (k1 0 0 0 a)
 (cK (b != 0)
 (k1 0 0 0 b)
 (k1 c d e a))
def dt:zM:=sld Rf
def Zd:PT (List DV):=pA [pV false [(dMr [(dI .i64)] 0)],pV true [(dI .i64),(dI .i64),(dI .i64)],vI]
def RZ (v:zM)(α:Type)(k:RT α):I5 (Op α):=fun a b c d e=>v α a b c d e (fun g h i j=>ee k g h i j)
theorem auX:ak Pg 209 21 ⟨Zd,RZ dt⟩:=iP ek0 aF6 (ah Tryz.func209 (by kernel_rfl)) aFn fun _ _=>by kernel_rfl
def az8:SG:=[(8,iT),(10,iT),(15,[.sl]),(20,iT),(23,iT),(27,iT),(30,[.sl]),(33,iS 5),(34,iS 5)]
def aEB:TG:=[tT 0 [1,2,4],tT 1 [1,2,4,6],tT 2 [4],tT 3 [1,2,4,17],tT 4 [4],tT 5 [4]]
def aFK:aq:=aw Pg Tryz.f208 aEB aC
def abx:PT (List RV):=pRs [pR true [rD (dI .i64),rD (dI .i64),rD (dI .i64),rD (dI .i64),rD (dI .i64)]]
def ab9 {β:Type}(g:List RV->β):I5 β:=abx.unc g
abbrev Uc:Type 1:=(α:Type)->Int->ae->Int->Int->Int->(I5 (Op α))->Op α
def Xj (α:Type)(b:Int)(c:ae)(d e a:Int)(k1:I5 (Op α)):Op α:=
 cK (a == 0)
 (k1 b b 0 0 0)
 (cK (decide (((List.length c:Nat):Int) < a))
 (k1 d d 0 0 e)
 (dG c (w64 (a - 1)) [.int .i64,.int .i64,.int .i64,.int .i64,.int .i64]
 (fun g h i j l=>k1 g h i j l)))
def rZ:Uc:=sld Xj
def P0:PT (List DV):=pA [pV true [(dI .i64),(dI .i64),(dI .i64),(dI .i64),(dI .i64),(dI .i64),dL,(dI .i64),(dI .i64)],vI]
def Y1 (v:Uc)(α:Type)(k:RT α):Int->Int->Int->Int->Int->Int->ae->Int->Int->Int->Op α:=fun a m o p q r b c d e=>v α a b c d e (fun g h i j l=>ab9 k g h i j l)
theorem aqU:ak Pg 208 35 ⟨P0,Y1 rZ⟩:=iP ek0 aFK (ah Tryz.func208 (by kernel_rfl)) az8 fun _ _=>by kernel_rfl
def aAX:SG:=[(4,iS 2),(6,iS 2)]
def aKj:TG:=[tT 0 [1,2],tT 1 [2]]
def aKz:aq:=aw Pg Tryz.f75 aKj aC
def ah0 (α:Type)(k1:Op α):Op α:=
 k1
def LM:cW:=sld ah0
def kU:PT (List DV):=pA [pV true [(dI .i64),(dI .i64),(dI .i64),(dI .i64),(dI .i64),(dI .i64),(dI .i64),(dI .i64),(dI .i64)]]
def aiL (v:cW)(α:Type)(k:RT α):I9 (Op α):=fun e g h a b c d i j=>v α (gY k c d a b)
theorem ayG:ak Pg 75 8 ⟨kU,aiL LM⟩:=iP ek0 aKz (ah Tryz.func75 (by kernel_rfl)) aAX fun _ _=>by kernel_rfl
def aAu:TG:=[tT 0 [0],tT 1 [2]]
def aG6:aq:=aw Pg Tryz.f122 aAu aC
abbrev cV:Type 1:=(α:Type)->Int->(Bool->Op α)->Op α
def Qa (α:Type)(a:Int)(k1:Bool->Op α):Op α:=
 cK (a == 0)
 (k1 true)
 (k1 (a == 1))
def En:cV:=sld Qa
def Rd (v:cV)(α:Type)(k:RT α):Int->Op α:=fun a=>v α a (fun b=>bi k b)
theorem asd:ak Pg 122 9 ⟨aU,Rd En⟩:=iP ek0 aG6 (ah Tryz.func122 (by kernel_rfl)) aO fun _ _=>by kernel_rfl
def aLb:TG:=[tT 0 [0,1],tT 1 [0,1,5],tT 2 [5,12],tT 3 [5],tT 4 [4]]
def aKk:aq:=aw Pg Tryz.f91 aLb aC
def PG (α:Type)(b a:Int)(k1:Int->Op α):Op α:=
 gK (a != 0) (gK (a != 0) (cK (decide ((Int.tmod b a) < 0))
 (k1 (w64 ((w64 (Int.tdiv b a)) - 1)))
 (k1 (w64 (Int.tdiv b a)))))
def dz:bz:=sld PG
def aef (v:bz)(α:Type)(k:RT α):Int->Int->Op α:=fun a b=>v α a b (fun c=>aR k c)
theorem azb:ak Pg 91 16 ⟨br,aef dz⟩:=iP ek0 aKk (ah Tryz.func91 (by kernel_rfl)) aO fun _ _=>by kernel_rfl
def aFy:TG:=[tT 0 [1],tT 1 [2]]
def aAg:aq:=aw Pg Tryz.f150 aFy aC
def Sg (α:Type)(a b:Int)(k1:Bool->Op α):Op α:=
 k1 (decide (2<=(w64 (b - a))))
def o3:bI:=sld Sg
def Y6 (v:bI)(α:Type)(k:RT α):Int->Int->Op α:=fun a b=>v α a b (fun c=>bi k c)
theorem atZ:ak Pg 150 9 ⟨ba,Y6 o3⟩:=iP ek0 aAg (ah Tryz.func150 (by kernel_rfl)) LW fun _ _=>by kernel_rfl
def aK6:TG:=[tT 0 [0,1,4],tT 1 [4]]
def aJX:aq:=aw Pg Tryz.f43 aK6 aC
def ajB (α:Type)(k1:Op α):Op α:=
 k1
def oz:cW:=sld ajB
def acQ (v:cW)(α:Type)(k:RT α):Int->Int->Op α:=fun a b=>v α (gY k a a b b)
theorem az1:ak Pg 43 12 ⟨br,acQ oz⟩:=iP ek0 aJX (ah Tryz.func43 (by kernel_rfl)) aO fun _ _=>by kernel_rfl
def aAF:TG:=[tT 0 [1],tT 1 [2]]
def aDc:aq:=aw Pg Tryz.f118 aAF aC
def TX (α:Type)(a b:Int)(k1:Int->Op α):Op α:=
 k1 (Int.fdiv (w64 (a+b)) (2 ^ 1))
def ep:bz:=sld TX
def QH (v:bz)(α:Type)(k:RT α):Int->Int->Op α:=fun a b=>v α a b (fun c=>aR k c)
theorem am4:ak Pg 118 9 ⟨ba,QH ep⟩:=iP ek0 aDc (ah Tryz.func118 (by kernel_rfl)) LW fun _ _=>by kernel_rfl
def aDF:TG:=[tT 0 [2,3,4],tT 1 [4]]
def aF7:aq:=aw Pg Tryz.f137 aDF aC
def VA (α:Type)(a b c d:Int)(k1:Int->Int->Op α):Op α:=
 k1 (if (w64 ((w64 (1048576 - b)) - d)) > 0 then (w64 ((w64 (1048576 - b)) - d)) else 0) (if (w64 ((w64 (1048576 - a)) - c)) > 0 then (w64 ((w64 (1048576 - a)) - c)) else 0)
def nS:fP:=sld VA
def XZ (v:fP)(α:Type)(k:RT α):I4 (Op α):=fun a b c d=>v α a b c d (fun e g=>bu k e g)
theorem aqn:ak Pg 137 20 ⟨fQ,XZ nS⟩:=iP ek0 aF7 (ah Tryz.func137 (by kernel_rfl)) avX fun _ _=>by kernel_rfl
def aHl:TG:=[tT 0 [1,2],tT 1 [2]]
def aIe:aq:=aw Pg Tryz.f134 aHl aC
def X2 (α:Type)(a b:Int)(k1:Int->Int->Op α):Op α:=
 k1 (if 1048576 < a then 1048576 else a) (if 1048576 < b then 1048576 else b)
def yx:dV:=sld X2
def Q5 (v:dV)(α:Type)(k:RT α):Int->Int->Op α:=fun a b=>v α a b (fun c d=>bu k c d)
theorem auS:ak Pg 134 10 ⟨ba,Q5 yx⟩:=iP ek0 aIe (ah Tryz.func134 (by kernel_rfl)) Oc fun _ _=>by kernel_rfl
def aEM:TG:=[tT 0 [0],tT 1 [0,3],tT 2 [0,3,7],tT 3 [0,3],tT 4 [2]]
def aHX:TG:=[tT 2 [0,3]]
def Tp:aq:=aw Pg Tryz.f275 aEM aHX
def v8:OT:=tdC (ag.sub [1,1,0,0] (emb Tp))
def jj:PT St:=pS [sI 0,sI 3] []
def gM {β:Type}(g:St->β):Int->Int->β:=jj.unc g
def ag0:PT St:=pS [sI 0,sI 3,sl 7 (aV false [(cD dB)])] []
def v5 {β:Type}(g:St->β):Int->Int->Bool->β:=ag0.unc g
def ue:ag:=ag.sub [1,1,0,0,0] (emb Tp)
def om (α:Type)(b a:Int)(kn:Int->Op α)(k1:Int->Bool->Op α):Op α:=
 gK (decide (0<=a)) (cK (decide ((w64 (1048576*2 ^ (min (Int.toNat a) 64))) < b))
 (kn (w64 (a+1)))
 (k1 a (decide ((w64 (1048576*2 ^ (min (Int.toNat a) 64))) < b))))
def lN (α:Type)(a:Int)(k1:Int->Bool->Op α):Nat->Int->Op α
 | 0,_=>none
 | n+1,b=>om α a b (lN α a k1 n) k1
def Fb (α:Type)(a:Int)(k1:Int->Bool->Op α)(b:Int):Op α:=lN α a k1 aF b
abbrev jb:Type 1:=(α:Type)->Int->(Int->Bool->Op α)->Int->Op α
def vx:jb:=sld Fb
def ML (v:jb)(α:Type)(K:KT α):Int->Int->Op α:=fun a b=>v α a (fun c d=>v5 (K (.exit 0)) a c d) b
theorem akW (α:Type)(K:KT α)(Kn:SK α)(a b:Int):gM (fun σ=>az Pg Ek0 aO ue (bK (fun σ=>bq v8 σ Kn) K) σ) a b=om α a b (fun b=>gM Kn a b) (fun c d=>v5 (K (.exit 0)) a c d):=by kernel_rfl
theorem ajN (α:Type)(K:KT α):∀ (n:Nat) (a b:Int),lN α a (fun c d=>v5 (K (.exit 0)) a c d) n b=gM (aJ (az Pg Ek0 aO ue) v8 K n) a b:=by
 intro n
 induction n with
 | zero=>intros;rfl
 | succ n ih=>intro a b;exact (congrArg (fun kn=>om α a b kn (fun c d=>v5 (K (.exit 0)) a c d)) (funext fun b=>ih a b)).trans (akW α K (aJ (az Pg Ek0 aO ue) v8 K n) a b).symm
theorem aiJ:∀ (α:Type) (K:KT α),ML vx α K=jj.unc fun σ=>aJ (az Pg Ek0 aO ue) v8 K aF σ:=aZ (fun α K=>funext fun a=>funext fun b=>ajN α K aF a b)
def Xk (α:Type)(a:Int)(k1:Int->Op α):Op α:=
 vx α a
 (fun b c=>k1 b) 0
def yj:cg:=sld Xk
def SU (v:cg)(α:Type)(k:RT α):Int->Op α:=fun a=>v α a (fun b=>aR k b)
def ar1:ag:=(ag.put (.m [⟨jj,ML vx⟩]) [1,1,0,0] (emb Tp))
theorem auK:ak Pg 275 11 ⟨aU,SU yj⟩:=iZ ek0 (ah Tryz.func275 (by kernel_rfl)) aO ar1 ((an _ _).trans (aA _)) (aY (td:=v8) (by kernel_rfl) (aD Tp) ⟨aiJ,trivial⟩) fun _ _=>by kernel_rfl
def aCX:TG:=[tT 0 [1,2],tT 1 [2]]
def aBb:aq:=aw Pg Tryz.f133 aCX aC
def TV (α:Type)(a b:Int)(k1:Int->Int->Op α):Op α:=
 k1 (if a > 0 then a else 0) (if b > 0 then b else 0)
def ml:dV:=sld TV
def TP (v:dV)(α:Type)(k:RT α):Int->Int->Op α:=fun a b=>v α a b (fun c d=>bu k c d)
theorem aoi:ak Pg 133 10 ⟨ba,TP ml⟩:=iP ek0 aBb (ah Tryz.func133 (by kernel_rfl)) Oc fun _ _=>by kernel_rfl
def aAH:TG:=[tT 0 [0],tT 1 [0]]
def az9:aq:=aw Pg Tryz.f181 aAH aC
def abK:PT (List RV):=pRs [pR true [rD (dX .f64),rD (dI .i64)]]
def GK {β:Type}(g:List RV->β):Nat->Nat->Int->β:=abK.unc g
def Wj (α:Type)(k1:Op α):Op α:=
 k1
def B1:cW:=sld Wj
def Ux (v:cW)(α:Type)(k:RT α):Op α:=v α (GK k 0 0 0)
theorem aqb:ak Pg 181 2 ⟨kE,Ux B1⟩:=iP ek0 az9 (ah Tryz.func181 (by kernel_rfl)) aO fun _ _=>by kernel_rfl
def aBW:TG:=[tT 0 [0],tT 1 [0]]
def aGs:aq:=aw Pg Tryz.f180 aBW aC
def JY (α:Type)(k1:Op α):Op α:=
 k1
def mX:cW:=sld JY
def XO (v:cW)(α:Type)(k:RT α):Op α:=v α (GK k 4697254411347427328 0 0)
theorem aoR:ak Pg 180 2 ⟨kE,XO mX⟩:=iP ek0 aGs (ah Tryz.func180 (by kernel_rfl)) aO fun _ _=>by kernel_rfl
def aGU:TG:=[tT 0 [1,2],tT 1 [2]]
def aIk:aq:=aw Pg Tryz.f224 aGU aC
def QR (α:Type)(a:Int)(k1:Int->Op α):Op α:=
 k1 (w64 (0 - a))
def Kr:cg:=sld QR
def QJ (v:cg)(α:Type)(k:RT α):Int->Int->Op α:=fun a b=>v α b (fun c=>bu k a c)
theorem asW:ak Pg 224 9 ⟨ba,QJ Kr⟩:=iP ek0 aIk (ah Tryz.func224 (by kernel_rfl)) LW fun _ _=>by kernel_rfl
def aDE:SG:=[(6,iT),(10,iT)]
def aCp:TG:=[tT 0 [0,1,3],tT 1 [3]]
def aIj:aq:=aw Pg Tryz.f190 aCp aC
def X4 (α:Type)(a b:Int)(k1:Int->Int->Op α):Op α:=
 k1 (w64 (a - b)) (w64 (a+b))
def CM:dV:=sld X4
def Qv:PT (List DV):=pA [vI,pV false [(dP [(dI .i64),(dI .i64),(dI .i64)] 0)]]
def XU (v:dV)(α:Type)(k:RT α):I4 (Op α):=fun a e g b=>v α a b (fun c d=>bu k c d)
theorem atu:ak Pg 190 13 ⟨Qv,XU CM⟩:=iP ek0 aIj (ah Tryz.func190 (by kernel_rfl)) aDE fun _ _=>by kernel_rfl
def aHP:TG:=[tT 0 [0,2],tT 1 [0,2,4],tT 2 [0],tT 3 [0,2],tT 4 [0,2,8],tT 5 [0,2],tT 6 [0,2],tT 7 [0,2,14],tT 8 [0,2],tT 9 [0,2],tT 10 [2]]
def Mi:aq:=aw Pg Tryz.f276 aHP aC
def jD:PT St:=pS [sl 0 (aV false [(cD (dI .u64))]),sI 2] []
def nx {β:Type}(g:St->β):Int->Int->β:=jD.unc g
def BJ:PT St:=pS [sl 0 (aV false [(cD (dI .u64))]),sI 2,sl 4 (aV false [(cD dB)])] []
def akJ {β:Type}(g:St->β):Int->Int->Bool->β:=BJ.unc g
def C2:PT St:=pS [sl 0 (aV false [(cD (dI .u64))]),sI 2,sl 8 (aV false [(cD dB)])] []
def NK {β:Type}(g:St->β):Int->Int->Bool->β:=C2.unc g
def agJ:PT St:=pS [sl 0 (aV false [(cD (dI .u64))]),sI 2,sl 14 (aV false [(cD dB)])] []
def MZ {β:Type}(g:St->β):Int->Int->Bool->β:=agJ.unc g
def Hj:ag:=ag.sub [1,1,1,0] (emb Mi)
abbrev gp:Type 1:=(α:Type)->Int->Int->(Int->Int->Op α)->(Bool->Op α)->Op α
def yi (α:Type)(a b:Int)(k1:Int->Int->Op α)(k2:Bool->Op α):Op α:=
 cK (decide (256<=a))
 (k1 (Int.fdiv a (2 ^ 8)) (w64 (b+8)))
 (k2 (decide (256<=a)))
def ij:gp:=sld yi
def OA (v:gp)(α:Type)(K:KT α):Int->Int->Op α:=fun b c=>v α b c (fun a d=>nx (K .normal) a d) (fun a=>MZ (K .normal) b c a)
theorem acj:∀ (α:Type) (K:KT α),OA ij α K=jD.unc fun σ=>az Pg Ek0 aO Hj K σ:=aZ (fun α K=>by kernel_rfl)
def yJ (α:Type)(a b:Int)(k1:Int->Int->Op α)(k2:Bool->Op α):Op α:=
 cK (decide (256<=a))
 (k1 (Int.fdiv a (2 ^ 8)) (w64 (b+8)))
 (k2 (decide (256<=a)))
def ik:gp:=sld yJ
def Lw (v:gp)(α:Type)(K:KT α):Int->Int->Bool->Op α:=fun b c e=>v α b c (fun a d=>nx (K .normal) a d) (fun a=>MZ (K .normal) b c a)
theorem ahc:∀ (α:Type) (K:KT α),Lw ik α K=C2.unc fun σ=>az Pg Ek0 aO Hj K σ:=aZ (fun α K=>by kernel_rfl)
def GO:ag:=ag.sub [1,1,0] (emb Mi)
def yP (α:Type)(a b:Int)(k1:Int->Int->Op α)(k2:Bool->Op α):Op α:=
 cK (decide (65536<=a))
 (k1 (Int.fdiv a (2 ^ 16)) (w64 (b+16)))
 (k2 (decide (65536<=a)))
def jL:gp:=sld yP
def MU (v:gp)(α:Type)(K:KT α):Int->Int->Op α:=fun b c=>v α b c (fun a d=>nx (K .normal) a d) (fun a=>NK (K .normal) b c a)
theorem afo:∀ (α:Type) (K:KT α),MU jL α K=jD.unc fun σ=>az Pg Ek0 aO GO K σ:=aZ (fun α K=>by kernel_rfl)
def yk (α:Type)(a b:Int)(k1:Int->Int->Op α)(k2:Bool->Op α):Op α:=
 cK (decide (65536<=a))
 (k1 (Int.fdiv a (2 ^ 16)) (w64 (b+16)))
 (k2 (decide (65536<=a)))
def jZ:gp:=sld yk
def Md (v:gp)(α:Type)(K:KT α):Int->Int->Bool->Op α:=fun b c e=>v α b c (fun a d=>nx (K .normal) a d) (fun a=>NK (K .normal) b c a)
theorem ai3:∀ (α:Type) (K:KT α),Md jZ α K=BJ.unc fun σ=>az Pg Ek0 aO GO K σ:=aZ (fun α K=>by kernel_rfl)
def aga:ag:=ag.sub [1,0] (emb Mi)
abbrev je:Type 1:=(α:Type)->Int->(Int->Op α)->(Bool->Op α)->Op α
def xe (α:Type)(a:Int)(k1:Int->Op α)(k2:Bool->Op α):Op α:=
 cK (decide (4294967296<=a))
 (k1 (Int.fdiv a (2 ^ 32)))
 (k2 (decide (4294967296<=a)))
def jm:je:=sld xe
def MK (v:je)(α:Type)(K:KT α):Int->Int->Op α:=fun b c=>v α b (fun a=>nx (K .normal) a 32) (fun a=>akJ (K .normal) b c a)
theorem alp:∀ (α:Type) (K:KT α),MK jm α K=jD.unc fun σ=>az Pg Ek0 aO aga K σ:=aZ (fun α K=>by kernel_rfl)
def iW (α:Type)(a:Int)(k1:Int->Op α):Op α:=
 jm α a
 (fun b=>jL α b 32
 (fun c d=>ij α c d
 (fun h i=>nf (⟨#[0,1,2,2,3,3,3,3,4,4,4,4,4,4,4,4,5,5,5,5,5,5,5,5,5,5,5,5,5,5,5,5,6,6,6,6,6,6,6,6,6,6,6,6,6,6,6,6,6,6,6,6,6,6,6,6,6,6,6,6,6,6,6,6,7,7,7,7,7,7,7,7,7,7,7,7,7,7,7,7,7,7,7,7,7,7,7,7,7,7,7,7,7,7,7,7,7,7,7,7,7,7,7,7,7,7,7,7,7,7,7,7,7,7,7,7,7,7,7,7,7,7,7,7,7,7,7,7,8,8,8,8,8,8,8,8,8,8,8,8,8,8,8,8,8,8,8,8,8,8,8,8,8,8,8,8,8,8,8,8,8,8,8,8,8,8,8,8,8,8,8,8,8,8,8,8,8,8,8,8,8,8,8,8,8,8,8,8,8,8,8,8,8,8,8,8,8,8,8,8,8,8,8,8,8,8,8,8,8,8,8,8,8,8,8,8,8,8,8,8,8,8,8,8,8,8,8,8,8,8,8,8,8,8,8,8,8,8,8,8,8,8,8,8,8,8,8,8,8,8,8,8,8,8,8,8]⟩:BA) (IntKind.wrap .u8 (h))
 (fun j=>k1 (w64 (i+(w64 (((UInt8.toNat j:Nat):Int)))))))
 (fun D=>nf (⟨#[0,1,2,2,3,3,3,3,4,4,4,4,4,4,4,4,5,5,5,5,5,5,5,5,5,5,5,5,5,5,5,5,6,6,6,6,6,6,6,6,6,6,6,6,6,6,6,6,6,6,6,6,6,6,6,6,6,6,6,6,6,6,6,6,7,7,7,7,7,7,7,7,7,7,7,7,7,7,7,7,7,7,7,7,7,7,7,7,7,7,7,7,7,7,7,7,7,7,7,7,7,7,7,7,7,7,7,7,7,7,7,7,7,7,7,7,7,7,7,7,7,7,7,7,7,7,7,7,8,8,8,8,8,8,8,8,8,8,8,8,8,8,8,8,8,8,8,8,8,8,8,8,8,8,8,8,8,8,8,8,8,8,8,8,8,8,8,8,8,8,8,8,8,8,8,8,8,8,8,8,8,8,8,8,8,8,8,8,8,8,8,8,8,8,8,8,8,8,8,8,8,8,8,8,8,8,8,8,8,8,8,8,8,8,8,8,8,8,8,8,8,8,8,8,8,8,8,8,8,8,8,8,8,8,8,8,8,8,8,8,8,8,8,8,8,8,8,8,8,8,8,8,8,8,8,8]⟩:BA) (IntKind.wrap .u8 (c))
 (fun l=>k1 (w64 (d+(w64 (((UInt8.toNat l:Nat):Int))))))))
 (fun F=>ik α b 32
 (fun m o=>nf (⟨#[0,1,2,2,3,3,3,3,4,4,4,4,4,4,4,4,5,5,5,5,5,5,5,5,5,5,5,5,5,5,5,5,6,6,6,6,6,6,6,6,6,6,6,6,6,6,6,6,6,6,6,6,6,6,6,6,6,6,6,6,6,6,6,6,7,7,7,7,7,7,7,7,7,7,7,7,7,7,7,7,7,7,7,7,7,7,7,7,7,7,7,7,7,7,7,7,7,7,7,7,7,7,7,7,7,7,7,7,7,7,7,7,7,7,7,7,7,7,7,7,7,7,7,7,7,7,7,7,8,8,8,8,8,8,8,8,8,8,8,8,8,8,8,8,8,8,8,8,8,8,8,8,8,8,8,8,8,8,8,8,8,8,8,8,8,8,8,8,8,8,8,8,8,8,8,8,8,8,8,8,8,8,8,8,8,8,8,8,8,8,8,8,8,8,8,8,8,8,8,8,8,8,8,8,8,8,8,8,8,8,8,8,8,8,8,8,8,8,8,8,8,8,8,8,8,8,8,8,8,8,8,8,8,8,8,8,8,8,8,8,8,8,8,8,8,8,8,8,8,8,8,8,8,8,8,8]⟩:BA) (IntKind.wrap .u8 (m))
 (fun p=>k1 (w64 (o+(w64 (((UInt8.toNat p:Nat):Int)))))))
 (fun G=>nf (⟨#[0,1,2,2,3,3,3,3,4,4,4,4,4,4,4,4,5,5,5,5,5,5,5,5,5,5,5,5,5,5,5,5,6,6,6,6,6,6,6,6,6,6,6,6,6,6,6,6,6,6,6,6,6,6,6,6,6,6,6,6,6,6,6,6,7,7,7,7,7,7,7,7,7,7,7,7,7,7,7,7,7,7,7,7,7,7,7,7,7,7,7,7,7,7,7,7,7,7,7,7,7,7,7,7,7,7,7,7,7,7,7,7,7,7,7,7,7,7,7,7,7,7,7,7,7,7,7,7,8,8,8,8,8,8,8,8,8,8,8,8,8,8,8,8,8,8,8,8,8,8,8,8,8,8,8,8,8,8,8,8,8,8,8,8,8,8,8,8,8,8,8,8,8,8,8,8,8,8,8,8,8,8,8,8,8,8,8,8,8,8,8,8,8,8,8,8,8,8,8,8,8,8,8,8,8,8,8,8,8,8,8,8,8,8,8,8,8,8,8,8,8,8,8,8,8,8,8,8,8,8,8,8,8,8,8,8,8,8,8,8,8,8,8,8,8,8,8,8,8,8,8,8,8,8,8,8]⟩:BA) (IntKind.wrap .u8 (b))
 (fun q=>k1 (w64 (32+(w64 (((UInt8.toNat q:Nat):Int)))))))))
 (fun H=>jZ α a 0
 (fun e g=>ij α e g
 (fun r s=>nf (⟨#[0,1,2,2,3,3,3,3,4,4,4,4,4,4,4,4,5,5,5,5,5,5,5,5,5,5,5,5,5,5,5,5,6,6,6,6,6,6,6,6,6,6,6,6,6,6,6,6,6,6,6,6,6,6,6,6,6,6,6,6,6,6,6,6,7,7,7,7,7,7,7,7,7,7,7,7,7,7,7,7,7,7,7,7,7,7,7,7,7,7,7,7,7,7,7,7,7,7,7,7,7,7,7,7,7,7,7,7,7,7,7,7,7,7,7,7,7,7,7,7,7,7,7,7,7,7,7,7,8,8,8,8,8,8,8,8,8,8,8,8,8,8,8,8,8,8,8,8,8,8,8,8,8,8,8,8,8,8,8,8,8,8,8,8,8,8,8,8,8,8,8,8,8,8,8,8,8,8,8,8,8,8,8,8,8,8,8,8,8,8,8,8,8,8,8,8,8,8,8,8,8,8,8,8,8,8,8,8,8,8,8,8,8,8,8,8,8,8,8,8,8,8,8,8,8,8,8,8,8,8,8,8,8,8,8,8,8,8,8,8,8,8,8,8,8,8,8,8,8,8,8,8,8,8,8,8]⟩:BA) (IntKind.wrap .u8 (r))
 (fun t=>k1 (w64 (s+(w64 (((UInt8.toNat t:Nat):Int)))))))
 (fun I=>nf (⟨#[0,1,2,2,3,3,3,3,4,4,4,4,4,4,4,4,5,5,5,5,5,5,5,5,5,5,5,5,5,5,5,5,6,6,6,6,6,6,6,6,6,6,6,6,6,6,6,6,6,6,6,6,6,6,6,6,6,6,6,6,6,6,6,6,7,7,7,7,7,7,7,7,7,7,7,7,7,7,7,7,7,7,7,7,7,7,7,7,7,7,7,7,7,7,7,7,7,7,7,7,7,7,7,7,7,7,7,7,7,7,7,7,7,7,7,7,7,7,7,7,7,7,7,7,7,7,7,7,8,8,8,8,8,8,8,8,8,8,8,8,8,8,8,8,8,8,8,8,8,8,8,8,8,8,8,8,8,8,8,8,8,8,8,8,8,8,8,8,8,8,8,8,8,8,8,8,8,8,8,8,8,8,8,8,8,8,8,8,8,8,8,8,8,8,8,8,8,8,8,8,8,8,8,8,8,8,8,8,8,8,8,8,8,8,8,8,8,8,8,8,8,8,8,8,8,8,8,8,8,8,8,8,8,8,8,8,8,8,8,8,8,8,8,8,8,8,8,8,8,8,8,8,8,8,8,8]⟩:BA) (IntKind.wrap .u8 (e))
 (fun w=>k1 (w64 (g+(w64 (((UInt8.toNat w:Nat):Int))))))))
 (fun J=>ik α a 0
 (fun z A=>nf (⟨#[0,1,2,2,3,3,3,3,4,4,4,4,4,4,4,4,5,5,5,5,5,5,5,5,5,5,5,5,5,5,5,5,6,6,6,6,6,6,6,6,6,6,6,6,6,6,6,6,6,6,6,6,6,6,6,6,6,6,6,6,6,6,6,6,7,7,7,7,7,7,7,7,7,7,7,7,7,7,7,7,7,7,7,7,7,7,7,7,7,7,7,7,7,7,7,7,7,7,7,7,7,7,7,7,7,7,7,7,7,7,7,7,7,7,7,7,7,7,7,7,7,7,7,7,7,7,7,7,8,8,8,8,8,8,8,8,8,8,8,8,8,8,8,8,8,8,8,8,8,8,8,8,8,8,8,8,8,8,8,8,8,8,8,8,8,8,8,8,8,8,8,8,8,8,8,8,8,8,8,8,8,8,8,8,8,8,8,8,8,8,8,8,8,8,8,8,8,8,8,8,8,8,8,8,8,8,8,8,8,8,8,8,8,8,8,8,8,8,8,8,8,8,8,8,8,8,8,8,8,8,8,8,8,8,8,8,8,8,8,8,8,8,8,8,8,8,8,8,8,8,8,8,8,8,8,8]⟩:BA) (IntKind.wrap .u8 (z))
 (fun B=>k1 (w64 (A+(w64 (((UInt8.toNat B:Nat):Int)))))))
 (fun L=>nf (⟨#[0,1,2,2,3,3,3,3,4,4,4,4,4,4,4,4,5,5,5,5,5,5,5,5,5,5,5,5,5,5,5,5,6,6,6,6,6,6,6,6,6,6,6,6,6,6,6,6,6,6,6,6,6,6,6,6,6,6,6,6,6,6,6,6,7,7,7,7,7,7,7,7,7,7,7,7,7,7,7,7,7,7,7,7,7,7,7,7,7,7,7,7,7,7,7,7,7,7,7,7,7,7,7,7,7,7,7,7,7,7,7,7,7,7,7,7,7,7,7,7,7,7,7,7,7,7,7,7,8,8,8,8,8,8,8,8,8,8,8,8,8,8,8,8,8,8,8,8,8,8,8,8,8,8,8,8,8,8,8,8,8,8,8,8,8,8,8,8,8,8,8,8,8,8,8,8,8,8,8,8,8,8,8,8,8,8,8,8,8,8,8,8,8,8,8,8,8,8,8,8,8,8,8,8,8,8,8,8,8,8,8,8,8,8,8,8,8,8,8,8,8,8,8,8,8,8,8,8,8,8,8,8,8,8,8,8,8,8,8,8,8,8,8,8,8,8,8,8,8,8,8,8,8,8,8,8]⟩:BA) (IntKind.wrap .u8 (a))
 (fun C=>k1 (w64 (0+(w64 (((UInt8.toNat C:Nat):Int)))))))))
def gz:cg:=sld iW
def AL:PT (List DV):=pA [pV false [(dI .u64)]]
def Zl (v:cg)(α:Type)(k:RT α):Int->Op α:=fun a=>v α a (fun b=>aR k b)
def anq:ag:=(ag.put (.m [⟨jD,MK jm⟩]) [1] (ag.put (.m [⟨jD,MU jL⟩,⟨BJ,Md jZ⟩]) [1,1] (ag.put (.m [⟨jD,OA ij⟩,⟨C2,Lw ik⟩]) [1,1,1] (emb Mi))))
theorem aoJ:ak Pg 276 25 ⟨AL,Zl gz⟩:=iZ ek0 (ah Tryz.func276 (by kernel_rfl)) aO anq ((an _ _).trans ((an _ _).trans ((an _ _).trans (aA _)))) (aM (by kernel_rfl) (aM (by kernel_rfl) (aM (by kernel_rfl) (aD Mi) ⟨acj,ahc,trivial⟩) ⟨afo,ai3,trivial⟩) ⟨alp,trivial⟩) fun _ _=>by kernel_rfl
def aGT:TG:=[tT 0 [0,1],tT 1 [0,1,6],tT 2 [0,1,6,7],tT 3 [0,1,6,7,8],tT 4 [0,1,6,7,8,9],tT 5 [0,1,6,7,8,9,10],tT 6 [0,1,6,7,9,11],tT 7 [0,1,6,7,9,11,12],tT 8 [0,1,6,7,9,12,13],tT 9 [0,1,7,9,12,13],tT 10 [0,1,4],tT 11 [4,5]]
def aBt:aq:=aw Pg Tryz.f147 aGT aC
def aaJ:PT (List RV):=pRs [pR false [rD (dI .u64)],pR false [rD (dI .u64)]]
def Hw {β:Type}(g:List RV->β):Int->Int->β:=aaJ.unc g
def XS (α:Type)(a b:Int)(k1:Int->Int->Op α):Op α:=
 k1 (IntKind.wrap .u64 ((IntKind.wrap .u64 ((IntKind.wrap .u64 ((Int.fdiv a (2 ^ 32))*(Int.fdiv b (2 ^ 32))))+(Int.fdiv (IntKind.wrap .u64 ((IntKind.wrap .u64 ((Int.fdiv a (2 ^ 32))*(mz .u64 b 4294967295)))+(Int.fdiv (IntKind.wrap .u64 ((mz .u64 a 4294967295)*(mz .u64 b 4294967295))) (2 ^ 32)))) (2 ^ 32))))+(Int.fdiv (IntKind.wrap .u64 ((mz .u64 (IntKind.wrap .u64 ((IntKind.wrap .u64 ((Int.fdiv a (2 ^ 32))*(mz .u64 b 4294967295)))+(Int.fdiv (IntKind.wrap .u64 ((mz .u64 a 4294967295)*(mz .u64 b 4294967295))) (2 ^ 32)))) 4294967295)+(IntKind.wrap .u64 ((mz .u64 a 4294967295)*(Int.fdiv b (2 ^ 32)))))) (2 ^ 32)))) (IntKind.wrap .u64 (a*b))
def yg:dV:=sld XS
def Rl:PT (List DV):=pA [pV false [(dI .u64)],pV false [(dI .u64)]]
def Ua (v:dV)(α:Type)(k:RT α):Int->Int->Op α:=fun a b=>v α a b (fun c d=>Hw k c d)
theorem ar6:ak Pg 147 51 ⟨Rl,Ua yg⟩:=iP ek0 aBt (ah Tryz.func147 (by kernel_rfl)) aO fun _ _=>by kernel_rfl
def aF5:TG:=[tT 0 [0],tT 1 [2]]
def aBJ:aq:=aw Pg Tryz.f199 aF5 aC
def Sk (α:Type)(a:Int)(k1:Int->Op α):Op α:=
 k1 (if (w64 (0 - a)) > a then (w64 (0 - a)) else a)
def pI:cg:=sld Sk
def Uh (v:cg)(α:Type)(k:RT α):Int->Op α:=fun a=>v α a (fun b=>aR k b)
theorem aoX:ak Pg 199 7 ⟨aU,Uh pI⟩:=iP ek0 aBJ (ah Tryz.func199 (by kernel_rfl)) aO fun _ _=>by kernel_rfl
def av3:SG:=[(6,iT),(8,iT),(11,iT),(13,iT)]
def aHy:TG:=[tT 0 [2,3,4],tT 1 [4]]
def aG1:aq:=aw Pg Tryz.f228 aHy aC
def Za (α:Type)(a b c d:Int)(k1:Int->Int->Op α):Op α:=
 k1 (w64 (a - c)) (w64 (b - d))
def ID:fP:=sld Za
def UF (v:fP)(α:Type)(k:RT α):I4 (Op α):=fun a b c d=>v α a b c d (fun e g=>bu k e g)
theorem auZ:ak Pg 228 16 ⟨fQ,UF ID⟩:=iP ek0 aG1 (ah Tryz.func228 (by kernel_rfl)) av3 fun _ _=>by kernel_rfl
def aBB:TG:=[tT 0 [0],tT 1 [2]]
def aBr:aq:=aw Pg Tryz.f233 aBB aC
def abV:PT (List RV):=pRs [pR false [rD (dF .f64)]]
def xN {β:Type}(g:List RV->β):Nat->β:=abV.unc g
abbrev AD:Type 1:=(α:Type)->Nat->(Nat->Op α)->Op α
def QP (α:Type)(a:Nat)(k1:Nat->Op α):Op α:=
 flK ((FloatKind.format .f64).sqrt a)
 (fun b=>k1 b)
def IY:AD:=sld QP
def kq:PT (List DV):=pA [pV false [(dF .f64)]]
def X8 (v:AD)(α:Type)(k:RT α):Nat->Op α:=fun a=>v α a (fun b=>xN k b)
theorem ase:ak Pg 233 5 ⟨kq,X8 IY⟩:=iP ek0 aBr (ah Tryz.func233 (by kernel_rfl)) aO fun _ _=>by kernel_rfl
def agF:SG:=[(4,iT),(6,iT),(9,iT),(11,iT)]
def aFs:TG:=[tT 0 [1],tT 1 [2]]
def aAs:aq:=aw Pg Tryz.f225 aFs aC
def ua (α:Type)(a b:Int)(k1:Int->Op α):Op α:=
 k1 (w64 ((w64 (a*a))+(w64 (b*b))))
def jA:bz:=sld ua
def Ww (v:bz)(α:Type)(k:RT α):Int->Int->Op α:=fun a b=>v α a b (fun c=>aR k c)
theorem am2:ak Pg 225 14 ⟨ba,Ww jA⟩:=iP ek0 aAs (ah Tryz.func225 (by kernel_rfl)) agF fun _ _=>by kernel_rfl
def aGH:SG:=[(6,iT),(8,iT),(11,iT),(13,iT),(17,iT),(19,iT),(22,iT),(24,iT)]
def aFa:TG:=[tT 0 [2,3,4],tT 1 [4]]
def aAd:aq:=aw Pg Tryz.f220 aFa aC
def KM (α:Type)(a b c d:Int)(k1:Int->Int->Op α):Op α:=
 k1 (w64 ((w64 (a*c)) - (w64 (b*d)))) (w64 ((w64 (a*d))+(w64 (b*c))))
def xL:fP:=sld KM
def U4 (v:fP)(α:Type)(k:RT α):I4 (Op α):=fun a b c d=>v α a b c d (fun e g=>bu k e g)
theorem ao1:ak Pg 220 28 ⟨fQ,U4 xL⟩:=iP ek0 aAd (ah Tryz.func220 (by kernel_rfl)) aGH fun _ _=>by kernel_rfl
def aHs:TG:=[tT 0 [2,3,4],tT 1 [4]]
def aIq:aq:=aw Pg Tryz.f218 aHs aC
def If (α:Type)(a b c d:Int)(k1:Int->Int->Op α):Op α:=
 k1 (w64 (a+c)) (w64 (b+d))
def yB:fP:=sld If
def Yc (v:fP)(α:Type)(k:RT α):I4 (Op α):=fun a b c d=>v α a b c d (fun e g=>bu k e g)
theorem aqZ:ak Pg 218 16 ⟨fQ,Yc yB⟩:=iP ek0 aIq (ah Tryz.func218 (by kernel_rfl)) av3 fun _ _=>by kernel_rfl
def KZ:SG:=[(9,iT),(12,iT),(15,iS 2)]
def aA3:TG:=[tT 0 [1,2,4],tT 1 [2,4,5,6],tT 2 [2,4,5,6,7],tT 3 [2,4,5,6],tT 4 [2,4,5,6],tT 5 [4]]
def aHJ:TG:=[tT 2 [2,4,5,6]]
def VQ:aq:=aw Pg Tryz.f231 aA3 aHJ
def sD:OT:=tdC (ag.sub [1,0,1,0] (emb VQ))
def BG:PT St:=pS [sP 2,sP 4,sI 5,sI 6] [au 2 [xI,xI],au 4 [xI,xI]]
def C0 {β:Type}(g:St->β):I6 β:=BG.unc g
def afi:PT St:=pS [sP 2,sP 4,sI 5,sI 6,sl 7 (aV false [(cD dB)])] [au 2 [xI,xI],au 4 [xI,xI]]
def uk {β:Type}(g:St->β):Int->Int->Bool->I4 β:=afi.unc g
def tY:ag:=ag.sub [1,0,1,0,0] (emb VQ)
def nA (α:Type)(b a c d:Int)(kn:Int->Int->Int->Op α)(k1:Int->Bool->Int->Int->Op α):Op α:=
 cK (decide (a < b))
 (kn (w64 (a+1)) (w64 (0 - d)) c)
 (k1 a (decide (a < b)) c d)
def oR (α:Type)(a:Int)(k1:Int->Bool->Int->Int->Op α):Nat->Int->Int->Int->Op α
 | 0,_,_,_=>none
 | n+1,b,c,d=>nA α a b c d (oR α a k1 n) k1
def yT (α:Type)(a:Int)(k1:Int->Bool->Int->Int->Op α)(b c d:Int):Op α:=oR α a k1 aF b c d
abbrev qg:Type 1:=(α:Type)->Int->(Int->Bool->Int->Int->Op α)->Int->Int->Int->Op α
def nM:qg:=sld yT
def Ow (v:qg)(α:Type)(K:KT α):I6 (Op α):=fun a b c d e g=>v α a (fun h i j l=>uk (K (.exit 0)) a h i j l e g) b c d
theorem adH (α:Type)(K:KT α)(Kn:SK α)(a b c d e g:Int):C0 (fun σ=>az Pg Ek0 KZ tY (bK (fun σ=>bq sD σ Kn) K) σ) a b c d e g=nA α a b c d (fun b c d=>C0 Kn a b c d e g) (fun h i j l=>uk (K (.exit 0)) a h i j l e g):=by kernel_rfl
theorem akU (α:Type)(K:KT α):∀ (n:Nat) (a b c d e g:Int),oR α a (fun h i j l=>uk (K (.exit 0)) a h i j l e g) n b c d=C0 (aJ (az Pg Ek0 KZ tY) sD K n) a b c d e g:=by
 intro n
 induction n with
 | zero=>intros;rfl
 | succ n ih=>intro a b c d e g;exact (congrArg (fun kn=>nA α a b c d kn (fun h i j l=>uk (K (.exit 0)) a h i j l e g)) (funext fun b=>funext fun c=>funext fun d=>ih a b c d e g)).trans (adH α K (aJ (az Pg Ek0 KZ tY) sD K n) a b c d e g).symm
theorem aku:∀ (α:Type) (K:KT α),Ow nM α K=BG.unc fun σ=>aJ (az Pg Ek0 KZ tY) sD K aF σ:=aZ (fun α K=>funext fun a=>funext fun b=>funext fun c=>funext fun d=>funext fun e=>funext fun g=>akU α K aF a b c d e g)
abbrev fU:Type 1:=(α:Type)->Int->Int->Int->(Int->Int->Op α)->Op α
def JB (α:Type)(a b c:Int)(k1:Int->Int->Op α):Op α:=
 nM α c
 (fun g h d e=>k1 d e) 0 a b
def jM:fU:=sld JB
def zZ:PT (List DV):=pA [pV true [(dI .i64),(dI .i64)],vI]
def UD (v:fU)(α:Type)(k:RT α):Int->Int->Int->Op α:=fun a b c=>v α a b c (fun d e=>bu k d e)
def asR:ag:=(ag.put (.m [⟨BG,Ow nM⟩]) [1,0,1,0] (emb VQ))
theorem aup:ak Pg 231 16 ⟨zZ,UD jM⟩:=iZ ek0 (ah Tryz.func231 (by kernel_rfl)) KZ asR ((an _ _).trans (aA _)) (aY (td:=sD) (by kernel_rfl) (aD VQ) ⟨aku,trivial⟩) fun _ _=>by kernel_rfl
def aEV:TG:=[tT 0 [0,2],tT 1 [2]]
def aG3:aq:=aw Pg Tryz.f236 aEV aC
abbrev Uo:Type 1:=(α:Type)->Nat->Nat->(Int->Int->Op α)->Op α
def RX (α:Type)(a b:Nat)(k1:Int->Int->Op α):Op α:=
 ivK (f2i .f64 a .i64)
 (fun c=>ivK (f2i .f64 b .i64)
 (fun d=>k1 c d))
def Iu:Uo:=sld RX
def Ze:PT (List DV):=pA [pV false [(dX .f64)]]
def Qt (v:Uo)(α:Type)(k:RT α):Nat->Nat->Op α:=fun a b=>v α a b (fun c d=>bu k c d)
theorem amD:ak Pg 236 10 ⟨Ze,Qt Iu⟩:=iP ek0 aG3 (ah Tryz.func236 (by kernel_rfl)) aO fun _ _=>by kernel_rfl
def aDg:TG:=[tT 0 [0],tT 1 [2]]
def aHu:aq:=aw Pg Tryz.f109 aDg aC
def Ig (α:Type)(a:Nat)(k1:Nat->Op α):Op α:=
 k1 (Int.toNat (zQ .u64 ((a:Nat):Int) 9223372036854775808))
def yr:AD:=sld Ig
def Zm (v:AD)(α:Type)(k:RT α):Nat->Op α:=fun a=>v α a (fun b=>xN k b)
theorem amQ:ak Pg 109 7 ⟨kq,Zm yr⟩:=iP ek0 aHu (ah Tryz.func109 (by kernel_rfl)) aO fun _ _=>by kernel_rfl
def aLp:TG:=[tT 0 [0],tT 1 [2],tT 2 [2]]
def aJb:aq:=aw Pg Tryz.f83 aLp aC
def aic:PT (List RV):=pRs [pR false [rD (aJz .f64)]]
def adF {β:Type}(g:List RV->β):β:=aic.unc g
abbrev afr:Type 1:=(α:Type)->Nat->(Op α)->(Nat->Op α)->Op α
def agf (α:Type)(a:Nat)(k1:Op α)(k2:Nat->Op α):Op α:=
 cK (bM .f64 a)
 (k1)
 (k2 (np a))
def WY:afr:=sld agf
def acC (v:afr)(α:Type)(k:RT α):Nat->Op α:=fun a=>v α a (adF k ) (fun b=>xN k b)
theorem axu:ak Pg 83 7 ⟨kq,acC WY⟩:=iP ek0 aJb (ah Tryz.func83 (by kernel_rfl)) aO fun _ _=>by kernel_rfl
def aDT:TG:=[tT 0 [0],tT 1 [3],tT 2 [2],tT 3 [2]]
def aCi:aq:=aw Pg Tryz.f222 aDT aC
def AZ (α:Type)(a:Bool)(k1:Int->Op α):Op α:=
 cK a
 (k1 1)
 (k1 0)
def jH:AF:=sld AZ
def ZG (v:AF)(α:Type)(k:RT α):Bool->Op α:=fun a=>v α a (fun b=>aR k b)
theorem apD:ak Pg 222 4 ⟨Af,ZG jH⟩:=iP ek0 aCi (ah Tryz.func222 (by kernel_rfl)) aO fun _ _=>by kernel_rfl
def aHO:SG:=[(11,[.cpx .f64,.int .i64])]
def aCJ:TG:=[tT 0 [0,2,4,6],tT 1 [0,4,6],tT 2 [0,6]]
def aHj:aq:=aw Pg Tryz.f162 aCJ aC
def abB:PT (List RV):=pRs [pR true [rD (dX .f64),rD (dI .i64)],pR true [rD (dI .i64),rD (dI .i64),rD (dI .i64),rD (dI .i64),rD (dI .i64),rD (dI .i64),rD (dI .i64),rD dL,rD (dI .i64),rD (dI .i64)]]
def cH {β:Type}(g:List RV->β):Nat->Nat->Int->Int->Int->Int->Int->Int->Int->Int->ae->Int->Int->β:=abB.unc g
def hI (α:Type)(k1:Op α):Op α:=
 k1
def dM:cW:=sld hI
def WG:PT (List DV):=pA [pV false [(dMr [(dI .i64),(dI .i64),(dI .i64),(dI .i64),(dI .i64),(dI .i64),(dI .i64),dL,(dI .i64),(dI .i64)] 0)],pV true [(dX .f64),(dI .i64)],vI]
def UN (v:cW)(α:Type)(k:RT α):Int->Int->Int->Int->Int->Int->Int->ae->Int->Int->Nat->Nat->Int->Int->Op α:=fun q a b c d e g h i j l m o p=>v α (cH k l m o p a b c d e g h i j)
theorem apP:ak Pg 162 12 ⟨WG,UN dM⟩:=iP ek0 aHj (ah Tryz.func162 (by kernel_rfl)) aHO fun _ _=>by kernel_rfl
def aDo:TG:=[tT 0 [1],tT 1 [2]]
def aDv:aq:=aw Pg Tryz.f258 aDo aC
def abh:PT (List RV):=pRs [pR false [rD (dX .f64)]]
def aam {β:Type}(g:List RV->β):Nat->Nat->β:=abh.unc g
abbrev Uw:Type 1:=(α:Type)->Int->Int->(Nat->Nat->Op α)->Op α
def T9 (α:Type)(a b:Int)(k1:Nat->Nat->Op α):Op α:=
 k1 (FloatKind.nearest .f64 a) (FloatKind.nearest .f64 b)
def IQ:Uw:=sld T9
def Ur (v:Uw)(α:Type)(k:RT α):Int->Int->Op α:=fun a b=>v α a b (fun c d=>aam k c d)
theorem arq:ak Pg 258 10 ⟨ba,Ur IQ⟩:=iP ek0 aDv (ah Tryz.func258 (by kernel_rfl)) Oc fun _ _=>by kernel_rfl
def aHn:TG:=[tT 0 [0,1],tT 1 [0,1,5],tT 2 [5,12],tT 3 [5],tT 4 [4]]
def aC2:aq:=aw Pg Tryz.f167 aHn aC
def IZ (α:Type)(b a:Int)(k1:Int->Op α):Op α:=
 gK (a != 0) (gK (a != 0) (cK (decide ((Int.tmod b a) < 0))
 (k1 (w64 ((w64 (Int.tdiv b a)) - 1)))
 (k1 (w64 (Int.tdiv b a)))))
def gi:bz:=sld IZ
def ZL (v:bz)(α:Type)(k:RT α):Int->Int->Op α:=fun a b=>v α a b (fun c=>aR k c)
theorem amZ:ak Pg 167 16 ⟨br,ZL gi⟩:=iP ek0 aC2 (ah Tryz.func167 (by kernel_rfl)) aO fun _ _=>by kernel_rfl
def aDp:TG:=[tT 0 [0,1,2],tT 1 [6]]
def aBN:aq:=aw Pg Tryz.f203 aDp aC
abbrev ch:Type 1:=(α:Type)->Int->Int->Int->(Bool->Op α)->Op α
def KO (α:Type)(a b c:Int)(k1:Bool->Op α):Op α:=
 cK (decide (b<=a))
 (k1 (decide (a<=c)))
 (k1 false)
def kI:ch:=sld KO
def eW:PT (List DV):=pA [vI,vI,vI]
def V2 (v:ch)(α:Type)(k:RT α):Int->Int->Int->Op α:=fun a b c=>v α a b c (fun d=>bi k d)
theorem aol:ak Pg 203 15 ⟨eW,V2 kI⟩:=iP ek0 aBN (ah Tryz.func203 (by kernel_rfl)) aO fun _ _=>by kernel_rfl
def aAe:TG:=[tT 0 [0,1],tT 1 [4]]
def aDJ:aq:=aw Pg Tryz.f135 aAe aC
def UE (α:Type)(b a:Int)(k1:Int->Op α):Op α:=
 gK (a != 0) (k1 (w64 (Int.tdiv b a)))
def jJ:bz:=sld UE
def QI (v:bz)(α:Type)(k:RT α):Int->Int->Op α:=fun a b=>v α a b (fun c=>aR k c)
theorem apJ:ak Pg 135 8 ⟨br,QI jJ⟩:=iP ek0 aDJ (ah Tryz.func135 (by kernel_rfl)) aO fun _ _=>by kernel_rfl
def aIc:SG:=[(14,iT),(19,iT),(27,[.sl]),(34,[.sl]),(37,iS 5),(38,iS 5),(40,iS 2),(42,iT),(48,iT),(54,iT),(61,iT)]
def aBY:TG:=[tT 0 [0,1,4],tT 1 [0,1,4,7],tT 2 [0,4,5],tT 3 [0,1,4,21],tT 4 [0,4,6],tT 5 [0,4,5],tT 6 [0,4,5]]
def aEN:aq:=aw Pg Tryz.f161 aBY aC
def ZY:PT (List RV):=pRs [pR true [rD (dI .i64),rD (dI .i64)],wI,pR true [rD (dI .i64),rD (dI .i64),rD (dI .i64),rD (dI .i64),rD (dI .i64),rD (dI .i64),rD (dI .i64),rD dL,rD (dI .i64),rD (dI .i64)]]
def abp {β:Type}(g:List RV->β):Int->Int->Int->Int->Int->Int->Int->Int->Int->Int->ae->Int->Int->β:=ZY.unc g
abbrev W6:Type 1:=(α:Type)->Int->ae->Int->Int->Int->(Int->Int->Int->Op α)->Op α
def WX (α:Type)(b:Int)(c:ae)(d e a:Int)(k1:Int->Int->Int->Op α):Op α:=
 cK (a == 0)
 (k1 b b 0)
 (cK (decide (a<=((List.length c:Nat):Int)))
 (dG c (w64 (a - 1)) [.int .i64,.int .i64,.int .i64,.int .i64,.int .i64]
 (fun g h j l i=>k1 g h i))
 (k1 d d e))
def sA:W6:=sld WX
def hP:PT (List DV):=pA [pV false [(dMr [(dI .i64),(dI .i64),(dI .i64),(dI .i64),(dI .i64),(dI .i64),(dI .i64),dL,(dI .i64),(dI .i64)] 0)],vI]
def Zs (v:W6)(α:Type)(k:RT α):Int->Int->Int->Int->Int->Int->Int->ae->Int->Int->Int->Op α:=fun e a g h i j l b c d m=>v α a b c d m (fun o p q=>abp k o p q e a g h i j l b c d)
theorem aoz:ak Pg 161 62 ⟨hP,Zs sA⟩:=iP ek0 aEN (ah Tryz.func161 (by kernel_rfl)) aIc fun _ _=>by kernel_rfl
def aJm:SG:=[(8,iT),(10,iS 2),(12,iT),(14,iS 2),(16,[.sl]),(18,iS 2)]
def aJ8:TG:=[(0,⟨[3,4,5,6],true,[⟨true,6,6,30606,5⟩],[]⟩),(1,⟨[6],true,[⟨true,6,6,30606,5⟩],[]⟩)]
def aLd:aq:=aw Pg Tryz.f94 aJ8 aC
def adu:PT (List RV):=pRs [pR true [rD (dI .i64),rD (dI .i64),rD (dI .i64),rD (dI .i64),rD (dI .i64),rD (dI .i64),rD dL,rD (dI .i64),rD (dI .i64)]]
def agt {β:Type}(g:List RV->β):Int->Int->Int->Int->Int->Int->ae->Int->Int->β:=adu.unc g
def Pu (α:Type)(k1:Op α):Op α:=
 k1
def F4:cW:=sld Pu
def yH:PT (List DV):=pA [pV true [dL,dL,(dI .i64),(dI .i64)],pV true [(dI .i64),(dI .i64),(dI .i64),(dI .i64),(dI .i64),(dI .i64),(dI .i64),(dI .i64),(dI .i64)],pV true [(dI .i64),(dI .i64),(dI .i64),(dI .i64)]]
def acz (v:cW)(α:Type)(k:RT α):ae->ae->I15 (Op α):=fun l a b c m d e o p q r s t g h i j=>v α (agt k e i j d g h a b c)
theorem ayt:ak Pg 94 20 ⟨yH,acz F4⟩:=iP ek0 aLd (ah Tryz.func94 (by kernel_rfl)) aJm fun _ _=>by kernel_rfl
def aIN:TG:=[tT 0 [1,2],tT 1 [2]]
def aI5:aq:=aw Pg Tryz.f95 aIN aC
def PB (α:Type)(k1:Op α):Op α:=
 k1
def GL:cW:=sld PB
def agy (v:cW)(α:Type)(k:RT α):I9 (Op α):=fun e g h a b c d i j=>v α (gY k c d a b)
theorem ayd:ak Pg 95 8 ⟨kU,agy GL⟩:=iP ek0 aI5 (ah Tryz.func95 (by kernel_rfl)) aAX fun _ _=>by kernel_rfl
def aJA:TG:=[tT 0 [0,1,2],tT 1 [6]]
def aKI:aq:=aw Pg Tryz.f41 aJA aC
def aeg (α:Type)(a b c:Int)(k1:Bool->Op α):Op α:=
 cK (decide (b<=a))
 (k1 (decide (a<=c)))
 (k1 false)
def oq:ch:=sld aeg
def akO (v:ch)(α:Type)(k:RT α):Int->Int->Int->Op α:=fun a b c=>v α a b c (fun d=>bi k d)
theorem ax4:ak Pg 41 15 ⟨eW,akO oq⟩:=iP ek0 aKI (ah Tryz.func41 (by kernel_rfl)) aO fun _ _=>by kernel_rfl
def aKm:TG:=[tT 0 [0,1],tT 1 [4]]
def aJP:aq:=aw Pg Tryz.f81 aKm aC
def amm (α:Type)(b a:Int)(k1:Int->Op α):Op α:=
 gK (a != 0) (k1 (w64 (Int.tdiv (w64 ((w64 (b+a)) - 1)) a)))
def nd:bz:=sld amm
def ac6 (v:bz)(α:Type)(k:RT α):Int->Int->Op α:=fun a b=>v α a b (fun c=>aR k c)
theorem ayw:ak Pg 81 11 ⟨br,ac6 nd⟩:=iP ek0 aJP (ah Tryz.func81 (by kernel_rfl)) aO fun _ _=>by kernel_rfl
def aJZ:TG:=[tT 0 [0,1,2],tT 1 [6]]
def aJD:aq:=aw Pg Tryz.f80 aJZ aC
def afl (α:Type)(a b c:Int)(k1:Bool->Op α):Op α:=
 cK (decide (b<=a))
 (k1 (decide (a<=c)))
 (k1 false)
def nD:ch:=sld afl
def ad8 (v:ch)(α:Type)(k:RT α):Int->Int->Int->Op α:=fun a b c=>v α a b c (fun d=>bi k d)
theorem azM:ak Pg 80 15 ⟨eW,ad8 nD⟩:=iP ek0 aJD (ah Tryz.func80 (by kernel_rfl)) aO fun _ _=>by kernel_rfl
def aJM:TG:=[tT 0 [0,1,2],tT 1 [6]]
def aLf:aq:=aw Pg Tryz.f29 aJM aC
def ah8 (α:Type)(a b c:Int)(k1:Bool->Op α):Op α:=
 cK (decide (b<=a))
 (k1 (decide (a<=c)))
 (k1 false)
def oQ:ch:=sld ah8
def agX (v:ch)(α:Type)(k:RT α):Int->Int->Int->Op α:=fun a b c=>v α a b c (fun d=>bi k d)
theorem ax1:ak Pg 29 15 ⟨eW,agX oQ⟩:=iP ek0 aLf (ah Tryz.func29 (by kernel_rfl)) aO fun _ _=>by kernel_rfl
def aJj:TG:=[tT 0 [0],(1,⟨[2],true,[⟨false,2,0,20002,2⟩],[]⟩)]
def aJy:aq:=aw Pg Tryz.f32 aJj aC
def afZ:PT (List RV):=pRs [pR false [rO 2]]
def al8 {β:Type}(g:List RV->β):ae->β:=afZ.unc g
abbrev I2:Type 1:=(α:Type)->ae->(ae->Op α)->Op α
def aij (α:Type)(a:ae)(k1:ae->Op α):Op α:=
 gK (cy 2 16 ([]:ae) a) (k1 (([]:ae)++a))
def RW:I2:=sld aij
def oU:PT (List DV):=pA [pV false [dL]]
def ahn (v:I2)(α:Type)(k:RT α):ae->Op α:=fun a=>v α a (fun b=>al8 k b)
theorem axJ:ak Pg 32 6 ⟨oU,ahn RW⟩:=iP ek0 aJy (ah Tryz.func32 (by kernel_rfl)) aO fun _ _=>by kernel_rfl
def aJE:TG:=[tT 0 [0],(1,⟨[2],true,[⟨false,2,0,20002,3⟩],[]⟩)]
def aIZ:aq:=aw Pg Tryz.f31 aJE aC
def acl:PT (List RV):=pRs [pR false [rO 3]]
def ahD {β:Type}(g:List RV->β):ae->β:=acl.unc g
def aiC (α:Type)(a:ae)(k1:ae->Op α):Op α:=
 gK (cy 3 24 ([]:ae) a) (k1 (([]:ae)++a))
def Sj:I2:=sld aiC
def agR (v:I2)(α:Type)(k:RT α):ae->Op α:=fun a=>v α a (fun b=>ahD k b)
theorem awM:ak Pg 31 6 ⟨oU,agR Sj⟩:=iP ek0 aIZ (ah Tryz.func31 (by kernel_rfl)) aO fun _ _=>by kernel_rfl
def tr8:TG:=[tT 0 [0,1,2],tT 1 [6]]
def ac8:aq:=aw Pg Tryz.f8 tr8 aC
def Qu (α:Type)(a b c:Int)(k1:Bool->Op α):Op α:=
 cK (decide (b<=a))
 (k1 (decide (a<=c)))
 (k1 false)
def cL:ch:=sld Qu
def avR (v:ch)(α:Type)(k:RT α):Int->Int->Int->Op α:=fun a b c=>v α a b c (fun d=>bi k d)
theorem aFz:ak Pg 8 15 ⟨eW,avR cL⟩:=iP ek0 ac8 (ah Tryz.func8 (by kernel_rfl)) aO fun _ _=>by kernel_rfl
def aI9:SG:=[(4,[.sl]),(9,[.sl]),(14,[.sl]),(21,[.sl]),(27,[.sl])]
def aJV:TG:=[tT 0 [1],tT 1 [2]]
def aK8:aq:=aw Pg Tryz.f28 aJV aC
abbrev Ks:Type 1:=(α:Type)->ae->ae->ae->(Bool->Op α)->Op α
def amn (α:Type)(a b c:ae)(k1:Bool->Op α):Op α:=
 cK (decide (((List.length a:Nat):Int)<=6))
 (cK (decide (((List.length b:Nat):Int)<=44))
 (k1 (decide (((List.length c:Nat):Int)<=3)))
 (k1 false))
 (cK (decide (40 < ((List.length a:Nat):Int)))
 (cK (decide (((List.length a:Nat):Int)<=42))
 (cK (decide (((List.length b:Nat):Int)<=44))
 (k1 (decide (((List.length c:Nat):Int)<=3)))
 (k1 false))
 (k1 false))
 (k1 false))
def Yv:Ks:=sld amn
def eM:PT (List DV):=pA [pV true [dL,dL,(dI .i64),dL,(dI .i64),(dI .i64)]]
def akP (v:Ks)(α:Type)(k:RT α):ae->ae->Int->ae->Int->Int->Op α:=fun a b e c g h=>v α a b c (fun d=>bi k d)
theorem ayB:ak Pg 28 31 ⟨eM,akP Yv⟩:=iP ek0 aK8 (ah Tryz.func28 (by kernel_rfl)) aI9 fun _ _=>by kernel_rfl
def avf:SG:=[(5,iS 2),(10,iT),(13,iT),(17,iT),(20,iT),(25,iS 2),(31,iS 2)]
def aHD:TG:=[tT 0 [1],tT 1 [1,29],tT 2 [2,3],tT 3 [2,3]]
def aeb:aq:=aw Pg Tryz.f104 aHD aC
def BO:PT St:=pS [sP 1] [au 1 (xs 4)]
def aGj {β:Type}(g:St->β):I4 β:=BO.unc g
def acs:PT St:=pS [sl 2 (aV false [(cD dB)]),sl 3 (aV false [(cD dB)])] []
def ahY {β:Type}(g:St->β):Bool->Bool->β:=acs.unc g
def ack:PT St:=pS [sP 1,sl 29 (aV false [(cD dB)])] [au 1 (xs 4)]
def ajj {β:Type}(g:St->β):Bool->I4 β:=ack.unc g
def aa7:PT (List RV):=pRs [pR false [rD dB],pR false [rD dB]]
def aa6 {β:Type}(g:List RV->β):Bool->Bool->β:=aa7.unc g
noncomputable abbrev Lk1:List bA:=⟨126,9,[⟨ba,UP ot⟩]⟩::⟨91,16,[⟨br,aef dz⟩]⟩::⟨273,14,[⟨br,US kW⟩]⟩::⟨246,22,[⟨aU,Wq de⟩]⟩::⟨8,15,[⟨eW,avR cL⟩]⟩::⟨118,9,[⟨ba,QH ep⟩]⟩::⟨150,9,[⟨ba,Y6 o3⟩]⟩::⟨161,62,[⟨hP,Zs sA⟩]⟩::⟨203,15,[⟨eW,V2 kI⟩]⟩::⟨276,25,[⟨AL,Zl gz⟩]⟩::⟨228,16,[⟨fQ,UF ID⟩]⟩::⟨167,16,[⟨br,ZL gi⟩]⟩::⟨233,5,[⟨kq,X8 IY⟩]⟩::⟨218,16,[⟨fQ,Yc yB⟩]⟩::⟨109,7,[⟨kq,Zm yr⟩]⟩::⟨80,15,[⟨eW,ad8 nD⟩]⟩::⟨41,15,[⟨eW,akO oq⟩]⟩::⟨29,15,[⟨eW,agX oQ⟩]⟩::⟨31,6,[⟨oU,agR Sj⟩]⟩::⟨32,6,[⟨oU,ahn RW⟩]⟩::⟨28,31,[⟨eM,akP Yv⟩]⟩::⟨122,9,[⟨aU,Rd En⟩]⟩::⟨275,11,[⟨aU,SU yj⟩]⟩::⟨225,14,[⟨ba,Ww jA⟩]⟩::⟨231,16,[⟨zZ,UD jM⟩]⟩::⟨83,7,[⟨kq,acC WY⟩]⟩::⟨258,10,[⟨ba,Ur IQ⟩]⟩::⟨81,11,[⟨br,ac6 nd⟩]⟩::⟨269,4,[⟨Af,R1 mP⟩]⟩::⟨245,7,[⟨aU,Yk xX⟩]⟩::⟨147,51,[⟨Rl,Ua yg⟩]⟩::⟨199,7,[⟨aU,Uh pI⟩]⟩::⟨236,10,[⟨Ze,Qt Iu⟩]⟩::⟨222,4,[⟨Af,ZG jH⟩]⟩::⟨209,21,[⟨Zd,RZ dt⟩]⟩::⟨224,9,[⟨ba,QJ Kr⟩]⟩::⟨220,28,[⟨fQ,U4 xL⟩]⟩::⟨162,12,[⟨WG,UN dM⟩]⟩::⟨95,8,[⟨kU,agy GL⟩]⟩::⟨94,20,[⟨yH,acz F4⟩]⟩::⟨261,2,[⟨kE,P4 mm⟩]⟩::⟨280,2,[⟨kE,U5 ya⟩]⟩::⟨208,35,[⟨P0,Y1 rZ⟩]⟩::⟨190,13,[⟨Qv,XU CM⟩]⟩::⟨174,26,[⟨cT,U1 o4⟩]⟩::⟨175,10,[⟨ba,Ry su⟩]⟩::⟨278,22,[⟨q8,Rs Ja⟩]⟩::⟨135,8,[⟨br,QI jJ⟩]⟩::⟨180,2,[⟨kE,XO mX⟩]⟩::⟨133,10,[⟨ba,TP ml⟩]⟩::⟨177,10,[⟨ba,Uv yo⟩]⟩::⟨178,27,[⟨eV,QQ nQ⟩]⟩::⟨179,20,[⟨fQ,TE nG⟩]⟩::⟨181,2,[⟨kE,Ux B1⟩]⟩::⟨103,12,[⟨br,Wd jB⟩]⟩::⟨134,10,[⟨ba,Q5 yx⟩]⟩::⟨137,20,[⟨fQ,XZ nS⟩]⟩::⟨75,8,[⟨kU,aiL LM⟩]⟩::⟨43,12,[⟨br,acQ oz⟩]⟩::Lk0
theorem ak1:bG Lk1 fun c=>bG c.l (ak Pg c.f c.nt):=⟨⟨ao7,trivial⟩,⟨azb,trivial⟩,⟨atj,trivial⟩,⟨apk,trivial⟩,⟨aFz,trivial⟩,⟨am4,trivial⟩,⟨atZ,trivial⟩,⟨aoz,trivial⟩,⟨aol,trivial⟩,⟨aoJ,trivial⟩,⟨auZ,trivial⟩,⟨amZ,trivial⟩,⟨ase,trivial⟩,⟨aqZ,trivial⟩,⟨amQ,trivial⟩,⟨azM,trivial⟩,⟨ax4,trivial⟩,⟨ax1,trivial⟩,⟨awM,trivial⟩,⟨axJ,trivial⟩,⟨ayB,trivial⟩,⟨asd,trivial⟩,⟨auK,trivial⟩,⟨am2,trivial⟩,⟨aup,trivial⟩,⟨axu,trivial⟩,⟨arq,trivial⟩,⟨ayw,trivial⟩,⟨ao9,trivial⟩,⟨auB,trivial⟩,⟨ar6,trivial⟩,⟨aoX,trivial⟩,⟨amD,trivial⟩,⟨apD,trivial⟩,⟨auX,trivial⟩,⟨asW,trivial⟩,⟨ao1,trivial⟩,⟨apP,trivial⟩,⟨ayd,trivial⟩,⟨ayt,trivial⟩,⟨arF,trivial⟩,⟨asM,trivial⟩,⟨aqU,trivial⟩,⟨atu,trivial⟩,⟨auf,trivial⟩,⟨asq,trivial⟩,⟨anE,trivial⟩,⟨apJ,trivial⟩,⟨aoR,trivial⟩,⟨aoi,trivial⟩,⟨asY,trivial⟩,⟨aqm,trivial⟩,⟨auR,trivial⟩,⟨aqb,trivial⟩,⟨aod,trivial⟩,⟨auS,trivial⟩,⟨aqn,trivial⟩,⟨ayG,trivial⟩,⟨az1,trivial⟩,ak0⟩
def Ek1:aE:=aE.ofIO Lk1 bt io0
theorem ek1:Ek1.Ok Pg:=aE.ofIO_ok aN ak1
def aia:ag:=ag.sub [1,0] (emb aeb)
abbrev qs:Type 1:=(α:Type)->Int->Int->Int->Int->(Op α)->(Bool->Op α)->Op α
def FI (α:Type)(a b c d:Int)(k1:Op α)(k2:Bool->Op α):Op α:=
 ot α a b
 (fun g=>cK g
 (cK (decide ((w64 (d - c))<=(w64 (b - a))))
 (k1)
 (ot α c d
 (fun e=>cK (!e)
 (k1)
 (k2 (!e)))))
 (k2 false))
def wZ:qs:=sld FI
def NJ (v:qs)(α:Type)(K:KT α):I4 (Op α):=fun a b c d=>v α a b c d (ahY (K .ret) true true) (fun e=>ajj (K .normal) e a b c d)
theorem aiw:∀ (α:Type) (K:KT α),NJ wZ α K=BO.unc fun σ=>az Pg Ek1 avf aia K σ:=aZ (fun α K=>by kernel_rfl)
abbrev Qj:Type 1:=(α:Type)->Int->Int->Int->Int->(Bool->Bool->Op α)->Op α
def S4 (α:Type)(c d a b:Int)(k1:Bool->Bool->Op α):Op α:=
 wZ α c d a b
 (k1 true true)
 (fun g=>ot α a b
 (fun e=>k1 false e))
def jV:Qj:=sld S4
def Zc (v:Qj)(α:Type)(k:RT α):I4 (Op α):=fun a b c d=>v α a b c d (fun e g=>aa6 k e g)
def asP:ag:=(ag.put (.m [⟨BO,NJ wZ⟩]) [1] (emb aeb))
theorem asH:ak Pg 104 33 ⟨q8,Zc jV⟩:=iZ ek1 (ah Tryz.func104 (by kernel_rfl)) avf asP ((an _ _).trans (aA _)) (aM (by kernel_rfl) (aD aeb) ⟨aiw,trivial⟩) fun _ _=>by kernel_rfl
def aGG:TG:=[tT 0 [1],tT 1 [2]]
def aDr:aq:=aw Pg Tryz.f102 aGG aC
def SQ (α:Type)(a b:Int)(k1:Int->Op α):Op α:=
 dz α (w64 (a+b)) 2
 (fun c=>k1 c)
def dC:bz:=sld SQ
def Us (v:bz)(α:Type)(k:RT α):Int->Int->Op α:=fun a b=>v α a b (fun c=>aR k c)
theorem asp:ak Pg 102 9 ⟨ba,Us dC⟩:=iP ek1 aDr (ah Tryz.func102 (by kernel_rfl)) LW fun _ _=>by kernel_rfl
end
end Go.AM.K
